/- What the law 'ErasePlays' needs of walks and plain Lean, part 4: nothing is assumed beyond the texts that it imports. -/
import Derived.KernelRfl
import Derived.Test.YtohfoenhmkfjkaaGreatDoorProg
import Derived.Test.YtohfoenhmkfjkaaGreatDoorZErasePlays1
import Derived.Test.YtohfoenhmkfjkaaGreatDoorZErasePlays2
import Derived.Test.YtohfoenhmkfjkaaGreatDoorZErasePlays3
namespace Go.K
open Go.Proofs
set_option linter.unusedVariables false
set_option linter.unusedSimpArgs false
set_option maxRecDepth 10000
structure MkSt (M : PSet) (w0 : World) (v : Value) (bo bx bl D bs bn : Nat) (st : Obj) (vb vk : Value) (tot last : Int) (b : List UInt8) (ks : List Bl) (M1 : PSet) (w : World) : Prop where
 lt : Lt M1 w
 S : Step M w0 M1 w none'
 mo : M1 bo
 mx : M1 bx
 ml : M1 bl
 md : M1 D
 mr : M1 (D + 1)
 o : w.heap[bo]? = some (.cells #[.pointer (some ⟨bx, 0, none⟩)] 129 (0, 0))
 x : w.heap[bx]? = some (.cells #[vb, vk, .int .i64 tot] 193 (0, 0))
 l : w.heap[bl]? = some (.cells #[.int .i64 last] 3 (0, 0))
 d : w.heap[D]? = some (.deferred (some []))
 r : w.heap[D + 1]? = some st
 s : w.heap[bs]? = some (.cells #[v] 107 (0, 0))
 n : w.heap[bn]? = some (.cells #[.int .i64 8] 3 (0, 0))
 ne : bo ≠ bx ∧ bo ≠ bl ∧ bx ≠ bl ∧ bo < D ∧ bx < D ∧ bl < D ∧ bs < D ∧ bn < D ∧ bs ≠ bo ∧ bs ≠ bx ∧ bs ≠ bl ∧ bn ≠ bo ∧ bn ≠ bx ∧ bn ≠ bl ∧ w0.heap.size ≤ bo ∧ w0.heap.size ≤ bx ∧ w0.heap.size ≤ bl ∧ w0.heap.size ≤ D
 hb : (RT.u8.sl).V M1 w b vb
 hk : Own RT.bl 195 M1 w (D + 2) vk ks
section
variable {M M1 M2 : PSet} {w0 w w' : World} {v vb vk : Value} {bo bx bl D bs bn : Nat} {st : Obj} {tot last : Int} {b : List UInt8} {ks : List Bl}
theorem MkSt.step (h : MkSt M w0 v bo bx bl D bs bn st vb vk tot last b ks M1 w) (s : Step M1 w M2 w' none') : MkSt M w0 v bo bx bl D bs bn st vb vk tot last b ks M2 w' :=
 ⟨s.lt h.lt, h.S.trans0 s, (s.mem _ (h.lt _ h.mo)).2 h.mo, (s.mem _ (h.lt _ h.mx)).2 h.mx, (s.mem _ (h.lt _ h.ml)).2 h.ml, (s.mem _ (h.lt _ h.md)).2 h.md, (s.mem _ (h.lt _ h.mr)).2 h.mr,
  s.same0 h.o, s.same0 h.x, s.same0 h.l, s.same0 h.d, s.same0 h.r, s.same0 h.s, s.same0 h.n, h.ne, h.hb.le s.le, h.hk.step0 s⟩
theorem MkSt.setLast {n : Int} (h : MkSt M w0 v bo bx bl D bs bn st vb vk tot last b ks M1 w) (s : Step M1 w M1 w' (fun k => k = bl)) (hl : w'.heap[bl]? = some (.cells #[.int .i64 n] 3 (0, 0))) : MkSt M w0 v bo bx bl D bs bn st vb vk tot n b ks M1 w' := by
 obtain ⟨e1, e2, e3, e4, e5, e6, e7, e8, e9, e10, e11, e12, e13, e14, e15, e16, e17, e18⟩ := h.ne
 exact ⟨s.lt h.lt, h.S.transNew s (fun k hk => by subst hk; exact e17), h.mo, h.mx, h.ml, h.md, h.mr, s.keep h.o e2, s.keep h.x e3, hl, s.keep h.d (by omega), s.keep h.r (by omega), s.keep h.s e11, s.keep h.n e14, h.ne, h.hb.le s.le,
  h.hk.step s (fun k hk hh => by have := (h.hk.base k hk).1; omega)⟩
theorem MkSt.setX {vb' vk' : Value} {tot' : Int} {b' : List UInt8} {ks' : List Bl} (h : MkSt M w0 v bo bx bl D bs bn st vb vk tot last b ks M1 w) (s : Step M1 w M1 w' (fun k => k = bx)) (hx : w'.heap[bx]? = some (.cells #[vb', vk', .int .i64 tot'] 193 (0, 0)))
  (hb : (RT.u8.sl).V M1 w' b' vb') (hk : Own RT.bl 195 M1 w (D + 2) vk' ks') : MkSt M w0 v bo bx bl D bs bn st vb' vk' tot' last b' ks' M1 w' := by
 obtain ⟨e1, e2, e3, e4, e5, e6, e7, e8, e9, e10, e11, e12, e13, e14, e15, e16, e17, e18⟩ := h.ne
 exact ⟨s.lt h.lt, h.S.transNew s (fun k hk => by subst hk; exact e16), h.mo, h.mx, h.ml, h.md, h.mr, s.keep h.o e1, hx, s.keep h.l (Ne.symm e3), s.keep h.d (by omega), s.keep h.r (by omega), s.keep h.s e10, s.keep h.n e13, h.ne, hb,
  hk.step s (fun k hk' hh => by have := (hk.base k hk').1; omega)⟩
theorem MkSt.setR {st' : Obj} (h : MkSt M w0 v bo bx bl D bs bn st vb vk tot last b ks M1 w) (hst : w.heap[D + 1]? = some st) : MkSt M w0 v bo bx bl D bs bn st' vb vk tot last b ks M1 (w.putObj (D + 1) st') := by
 have s : Step M1 w M1 (w.putObj (D + 1) st') (fun k => k = D + 1) := step_putObj h.mr
 obtain ⟨e1, e2, e3, e4, e5, e6, e7, e8, e9, e10, e11, e12, e13, e14, e15, e16, e17, e18⟩ := h.ne
 exact ⟨s.lt h.lt, h.S.transNew s (fun k hk => by subst hk; omega), h.mo, h.mx, h.ml, h.md, h.mr, s.keep h.o (by omega), s.keep h.x (by omega), s.keep h.l (by omega), s.keep h.d (by omega), World.putObj_heap_same (lt_of_get hst), s.keep h.s (by omega), s.keep h.n (by omega), h.ne, h.hb.le s.le,
  h.hk.step s (fun k hk' hh => by have := (h.hk.base k hk').1; omega)⟩
theorem MkSt.other {q : Nat} (h : MkSt M w0 v bo bx bl D bs bn st vb vk tot last b ks M1 w) (s : Step M1 w M1 w' (fun k => k = q)) (hq : D + 1 < q) (hqv : ∀ k, vk.ownBlock = some k → k ≠ q) : MkSt M w0 v bo bx bl D bs bn st vb vk tot last b ks M1 w' := by
 obtain ⟨e1, e2, e3, e4, e5, e6, e7, e8, e9, e10, e11, e12, e13, e14, e15, e16, e17, e18⟩ := h.ne
 exact ⟨s.lt h.lt, h.S.transNew s (fun k hk => by subst hk; omega), h.mo, h.mx, h.ml, h.md, h.mr, s.keep h.o (by omega), s.keep h.x (by omega), s.keep h.l (by omega), s.keep h.d (by omega), s.keep h.r (by omega), s.keep h.s (by omega), s.keep h.n (by omega), h.ne, h.hb.le s.le,
  h.hk.step s (fun k hk' hh => hqv k hk' hh)⟩
theorem MkSt.grow {vk' : Value} {ks' : List Bl} (h : MkSt M w0 v bo bx bl D bs bn st vb vk tot last b ks M1 w) (s : Step M1 w M2 w' (fun k => vk.ownBlock = some k)) (hk : Own RT.bl 195 M2 w' (D + 2) vk' ks') :
  (w'.heap[bx]? = some (.cells #[vb, vk, .int .i64 tot] 193 (0, 0)) ∧ M2 bx ∧ Lt M2 w') ∧ ∀ {w2 : World}, Step M2 w' M2 w2 (fun k => k = bx) → w2.heap[bx]? = some (.cells #[vb, vk', .int .i64 tot] 193 (0, 0)) → MkSt M w0 v bo bx bl D bs bn st vb vk' tot last b ks' M2 w2 := by
 obtain ⟨e1, e2, e3, e4, e5, e6, e7, e8, e9, e10, e11, e12, e13, e14, e15, e16, e17, e18⟩ := h.ne
 have hn : ∀ k, vk.ownBlock = some k → D + 2 ≤ k := fun k hk => (h.hk.base k hk).1
 have hmem := fun {k : Nat} (hm : M1 k) => (s.mem k (h.lt k hm)).2 hm
 refine ⟨⟨s.keep h.x (fun hh => by have := hn _ hh; omega), hmem h.mx, s.lt h.lt⟩, fun {w2} s2 hx => ?_⟩
 have S' := h.S.transNew s (fun k hk => by have := hn k hk; omega)
 exact ⟨s2.lt (s.lt h.lt), S'.transNew s2 (fun k hk => by subst hk; exact e16), hmem h.mo, hmem h.mx, hmem h.ml, hmem h.md, hmem h.mr, s2.keep (s.keep h.o (fun hh => by have := hn _ hh; omega)) e1, hx, s2.keep (s.keep h.l (fun hh => by have := hn _ hh; omega)) (Ne.symm e3),
  s2.keep (s.keep h.d (fun hh => by have := hn _ hh; omega)) (by omega), s2.keep (s.keep h.r (fun hh => by have := hn _ hh; omega)) (by omega), s2.keep (s.keep h.s (fun hh => by have := hn _ hh; omega)) e10, s2.keep (s.keep h.n (fun hh => by have := hn _ hh; omega)) e13, h.ne, (h.hb.le s.le).le s2.le,
  hk.step s2 (fun k hk' hh => by have := (hk.base k hk').1; omega)⟩
end
def MakeJ (M : PSet) (w0 : World) (l : List Po) (v : Value) (bo bx bl D bs bn : Nat) (st : Obj) (i : Nat) (w : World) : Prop :=
 ∃ (M1 : PSet) (vb vk : Value), MkSt M w0 v bo bx bl D bs bn st vb vk (totPo (l.take i)) (lastPo (-1) (l.take i)) (putPo (-1) (l.take i)) (blks l ((i + 7) / 8)) M1 w ∧ (i % 8 = 0 ∨ i = l.length) ∧ i ≤ l.length
theorem makeJ0 {M : PSet} {w0 w2 w3 w5 w6 w7 : World} {v : Value} {l : List Po} {bo bx bl bs bn : Nat} {st : Obj} (S6 : Step M w0 (ins (ins (ins M bx) bo) bl) w6 none') (s7 : Step (ins (ins (ins M bx) bo) bl) w6 (ins (ins (ins M bx) bo) bl) w7 none') (hM : Lt M w0)
  (e1 : bo < w6.heap.size) (e2 : bx < w6.heap.size) (e3 : bl < w6.heap.size) (n1 : bo ≠ bx) (n2 : bo ≠ bl) (n3 : bx ≠ bl)
  (hO : w6.heap[bo]? = some (.cells #[.pointer (some ⟨bx, 0, none⟩)] 129 (0, 0))) (hX : w6.heap[bx]? = some (.cells #[.slice none 0 0, .slice none 0 0, .int .i64 0] 193 (0, 0))) (hL : w6.heap[bl]? = some (.cells #[.int .i64 (-1)] 3 (0, 0)))
  (hS : w7.heap[bs]? = some (.cells #[v] 107 (0, 0))) (hN : w7.heap[bn]? = some (.cells #[.int .i64 8] 3 (0, 0))) (hbs : w6.heap.size ≤ bs) (hbn : w6.heap.size ≤ bn)
  (g1 : w0.heap.size ≤ bo) (g2 : w0.heap.size ≤ bx) (g3 : w0.heap.size ≤ bl) :
  MakeJ M w0 l v bo bx bl w7.heap.size bs bn st 0 ((w7.alloc (.deferred (some []))).alloc st) := by
 have sA : Step (ins (ins (ins M bx) bo) bl) w7 (ins (ins (ins (ins M bx) bo) bl) w7.heap.size) (w7.alloc (.deferred (some []))) none' := (step_alloc _ w7 _).own (Nat.le_refl _) (by simp)
 have sB : Step (ins (ins (ins (ins M bx) bo) bl) w7.heap.size) (w7.alloc (.deferred (some []))) (ins (ins (ins (ins (ins M bx) bo) bl) w7.heap.size) (w7.heap.size + 1)) ((w7.alloc (.deferred (some []))).alloc st) none' := (step_alloc _ _ _).own (by simp) (by simp)
 have z7 := s7.size
 have hs7 := lt_of_get hS
 have hn7 := lt_of_get hN
 have S := ((S6.trans0 s7).trans0 sA).trans0 sB
 have hD : (w7.alloc (.deferred (some []))).heap[w7.heap.size]? = some (.deferred (some [])) := heap_alloc_at w7 _
 have hR : ((w7.alloc (.deferred (some []))).alloc st).heap[w7.heap.size + 1]? = some st := by have := heap_alloc_at (w7.alloc (.deferred (some []))) st; rwa [World.size_alloc] at this
 have z0 := S6.size
 refine ⟨_, .slice none 0 0, .slice none 0 0, ⟨S.lt hM, S, ?_, ?_, ?_, ?_, .inl rfl, sB.same0 (sA.same0 (s7.same0 hO)), sB.same0 (sA.same0 (s7.same0 hX)), sB.same0 (sA.same0 (s7.same0 hL)), sB.same0 hD, hR, sB.same0 (sA.same0 hS), sB.same0 (sA.same0 hN), by omega, V_nil, Own.nil _ _ _ _ _⟩, .inl rfl, Nat.zero_le _⟩
 ·exact .inr (.inr (.inr (.inl rfl)))
 ·exact .inr (.inr (.inr (.inr (.inl rfl))))
 ·exact .inr (.inr (.inl rfl))
 ·exact .inr (.inl rfl)
set_option maxHeartbeats 4000000 in
theorem Make_spec {M : PSet} {w0 : World} {v : Value} {l : List Po} (hM : Lt M w0) (hv : ((RT.po).sl).V M w0 l v) (hps : ∀ p ∈ l, p.2.length ≤ 1099511627776) (hbl : (putPo (-1) l).length ≤ 35184372088832) (hll : l.length ≤ 1099511627776) (htot : totPo l ≤ 4611686018427387904) :
  Spec Tryz.prog 126 #[v] w0 (fun v' w' => Step M w0 M w' none' ∧ (mayPo (-1) l = true → ∃ p, v' = .tuple #[p, .int .i64 0] ∧ PtrTo RT.li M w' p (mkLi l)) ∧ (mayPo (-1) l = false → v' = .tuple #[.pointer none, .int .i64 1])) := by
 have hlen := V_sl_len hv
 refine spec_ofM (args := [_]) (fn := Tryz.f126) Tryz.func126 rfl (n := 85) Tryz.ntmps126 ?_
 refine T.seq ?_
 refine T.region ?_
 refine Rg.assign rfl rfl ?_
 refine Rg.assign rfl rfl ?_
 refine Rg.nil ?_
 refine T.seq ?_
 refine T.seq ?_
 refine T.region ?_
 refine Rg.move rfl rfl ?_
 refine Rg.call rfl rfl E171 (pMay_spec hM hv) (fun r w1 h1 => ?_)
 obtain ⟨rfl, s1⟩ := h1
 refine Rg.not rfl rfl ?_
 refine Rg.eqv (v' := .bool (decide (¬ mayPo (-1) l = true))) (by simp) ?_
 refine Rg.nil ?_
 refine T.ifp rfl (fun c1 => ?_) (fun c1 => ?_)
 ·refine T.seq ?_
  refine T.region ?_
  refine Rg.assign rfl rfl ?_
  refine Rg.assign rfl rfl ?_
  refine Rg.nil ?_
  refine T.ret ?_
  exact KretM2' rfl rfl rfl ⟨s1, fun h => absurd h c1, fun _ => rfl⟩
 ·have hmay := Decidable.not_not.1 c1
  refine T.skip ?_
  refine T.seq ?_
  refine T.region ?_
  refine Rg.build (places := [(0, 1), (1, 1), (2, 1)]) Tryz.underlying193 I193 B193 rfl rfl (out := [.slice none 0 0, .slice none 0 0, .int .i64 0]) rfl ?_
  refine Rg.box M rfl rfl (fun bx w2 hbx hbx' hX s2 => ?_)
  change w2.heap[bx]? = some (.cells #[.slice none 0 0, .slice none 0 0, .int .i64 0] 193 (0, 0)) at hX
  refine Rg.alloc (ins M bx) I129 rfl (fun bo w3 hbo hbo' hO s3 => ?_)
  refine Rg.storec (M := ins (ins M bx) bo) I129 rfl rfl hO rfl rfl (.inl rfl) (fun w4 hO4 s4 => ?_)
  refine Rg.nil ?_
  refine T.seq ?_
  refine T.region ?_
  refine Rg.alloc (ins (ins M bx) bo) I3 rfl (fun bl w5 hbl5 hbl5' hL s5 => ?_)
  refine Rg.storec (M := ins (ins (ins M bx) bo) bl) I3 rfl rfl hL rfl rfl (.inl rfl) (fun w6 hL6 s6 => ?_)
  have z1 := s1.size; have z2 := s2.size; have z3 := s3.size; have z4 := s4.size; have z5 := s5.size; have z6 := s6.size
  have S6 : Step M w0 (ins (ins (ins M bx) bo) bl) w6 none' := ((((s1.trans0 s2).trans0 s3).transNew s4 (fun k hk => by subst hk; omega)).trans0 s5).transNew s6 (fun k hk => by subst hk; omega)
  have hO6 := s6.keep (s5.same0 hO4) (show bo ≠ bl by omega)
  have hX6 := s6.keep (s5.same0 (s4.keep (s3.same0 hX) (show bx ≠ bo by omega))) (show bx ≠ bl by omega)
  refine Rg.nil ?_
  refine T.seq ?_
  refine T.seq ?_
  refine T.region ?_
  refine Rg.move rfl rfl ?_
  refine Rg.call rfl rfl E172 (Chunk_spec (M := ins (ins (ins M bx) bo) bl) (S6.lt hM) (hv.le S6.le)) (fun r w7 h7 => ?_)
  obtain ⟨bs, bn, rfl, hS7, hN7, hbs, hbn, s7⟩ := h7
  have z7 := s7.size
  have hbs' := lt_of_get hS7
  have hbn' := lt_of_get hN7
  refine Rg.nil ?_
  refine T.block ?_
  refine T.range (gf := 213) (lb := [.pointer (some ⟨bs, 0, none⟩), .pointer (some ⟨bn, 0, none⟩)].toArray) rfl E213 (fun rec hrec => ?_)
  obtain ⟨D, hD⟩ : ∃ D, D = w7.heap.size := ⟨_, rfl⟩
  rw [← hD] at hrec ⊢
  have h0 : MakeJ M w0 l v bo bx bl D bs bn (.loop (rec .ready none)) 0 ((w7.alloc (.deferred (some []))).alloc (.loop (rec .ready none))) := by
   rw [hD] at hrec ⊢
   exact makeJ0 (w2 := w7) (w3 := w7) (w5 := w7) S6 s7 hM (by omega) (by omega) (by omega) (by omega) (by omega) (by omega) hO6 hX6 hL6 hS7 hN7 hbs hbn (by omega) (by omega) (by omega)
  refine Spec.mono (Chunk1_spec (M := M) (wv := w0) (J := MakeJ M w0 l v bo bx bl D bs bn (.loop (rec .ready none))) (Jx := fun _ => False) hv (fun i w w' ⟨M1, vb, vk, h, h2⟩ s => ⟨M1, vb, vk, h.step (s.any M1), h2⟩) (fun i w ⟨M1, vb, vk, h, h2⟩ => ⟨h.s, h.n⟩) (fun i wr u hJ hi hu => ?_) h0) (fun _ w3 h3 => ?_)
  ·obtain ⟨M1, vb, vk, h, hi8, hil⟩ := hJ
   refine yield_rec (ps := [17]) (vs := [u]) hrec h.r rfl (by decide) ?_
   refine T.region ?_
   refine Rg.assign rfl rfl ?_
   refine Rg.nil ?_
   refine ⟨rfl, h.r, ?_⟩
   have h1 := h.setR (st' := .loop (rec .busy none)) h.r
   generalize wr.putObj (D + 1) _ = wB at h1 ⊢
   have hO := h1.o; have hX := h1.x; have hL := h1.l; have hB := h1.hb; have hlt := h1.lt
   have hown : ((l.drop i).take 8).length ≤ 8 := by rw [List.length_take]; omega
   have howl : ((l.drop i).take 8).length = min 8 (l.length - i) := by rw [List.length_take, List.length_drop]
   obtain ⟨q1, q2, q3, q4, q5, q6, q7, q8, q9, q10, q11, q12, q13, q14, q15, q16, q17, q18⟩ := h1.ne
   refine T.block ?_
   refine T.seq ?_
   apply T.drawL (M := M1) (n := 85) _ mixed [] [Asr.eq _, Asr.eq _, Asr.eq _, Asr.eq _, Asr.eq _, Asr.eq _, Asr.eq _, Asr.eq _, Asr.eq _, Asr.mk' (fun p w' => ∃ bq, p = .pointer (some ⟨bq, 0, none⟩) ∧ wB.heap.size ≤ bq ∧ w'.heap[bq]? = some (.cells #[.int .i64 0, .int .i64 0, .int .i64 0, .int .i64 0] 195 (0, 0))) (fun ⟨bq, h1, h2, h3⟩ s => ⟨bq, h1, h2, s.same0 h3⟩)]
   ·rfl
   ·rfl
   ·rfl
   ·rfl
   ·exact fun p hp => by cases hp
   ·exact UOk.none
   ·refine OblsS.cons ?_ ?_
    ·intro wD E sD
     refine Rg.loadc Tryz.underlying129 rfl rfl rfl (Step.same0 sD (by assumption)) rfl ?_
     exact Rg.nil ⟨rfl, rfl, _, rfl, rfl, Step.refl _ _⟩
    refine OblsS.cons ?_ ?_
    ·intro wD E sD
     intro x_ hx_; have hx_ : x_ = _ := hx_; subst x_
     refine Rg.nilCheck rfl ⟨_, rfl⟩ rfl ?_
     exact Rg.nil ⟨rfl, rfl, _, rfl, rfl, Step.refl _ _⟩
    refine OblsS.cons ?_ ?_
    ·intro wD E sD
     intro x_ hx_; have hx_ : x_ = _ := hx_; subst x_
     refine Rg.fieldc Tryz.underlying193 rfl rfl I147 (by decide) rfl rfl ?_
     exact Rg.nil ⟨rfl, rfl, _, rfl, rfl, Step.refl _ _⟩
    refine OblsS.cons ?_ ?_
    ·intro wD E sD
     intro x_ hx_; have hx_ : x_ = _ := hx_; subst x_
     refine Rg.loadc Tryz.underlying147 rfl rfl rfl (Step.same0 sD (by assumption)) rfl ?_
     exact Rg.nil ⟨rfl, rfl, _, rfl, rfl, Step.refl _ _⟩
    refine OblsS.cons ?_ ?_
    ·intro wD E sD
     intro x_ hx_; have hx_ : x_ = _ := hx_; subst x_
     first | refine Rg.lensl Tryz.underlying147 rfl (by assumption) rfl ?_ | refine Rg.lenown Tryz.underlying147 rfl (by assumption) rfl ?_
     exact Rg.nil ⟨rfl, rfl, _, rfl, rfl, Step.refl _ _⟩
    refine OblsS.cons ?_ ?_
    ·intro wD E sD
     refine Rg.loadc Tryz.underlying3 rfl rfl rfl (Step.same0 sD (by assumption)) rfl ?_
     exact Rg.nil ⟨rfl, rfl, _, rfl, rfl, Step.refl _ _⟩
    refine OblsS.cons ?_ ?_
    ·intro wD E sD
     refine Rg.move rfl rfl ?_
     exact Rg.nil ⟨rfl, rfl, _, rfl, rfl, Step.refl _ _⟩
    refine OblsS.cons ?_ ?_
    ·intro wD E sD
     intro x_ hx_; have hx_ : x_ = _ := hx_; subst x_
     first | refine Rg.lensl Tryz.underlying107 rfl (by assumption) rfl ?_ | refine Rg.lenown Tryz.underlying107 rfl (by assumption) rfl ?_
     exact Rg.nil ⟨rfl, rfl, _, rfl, rfl, Step.refl _ _⟩
    refine OblsS.cons ?_ ?_
    ·intro wD E sD
     intro x_ hx_; have hx_ : x_ = _ := hx_; subst x_
     intro x_ hx_; have hx_ : x_ = _ := hx_; subst x_
     intro x_ hx_; have hx_ : x_ = _ := hx_; subst x_
     refine Rg.build (places := [(0, 1), (1, 1), (2, 1), (3, 1)]) Tryz.underlying195 I195 B195 rfl ⟨_, _, rfl, rfl, _, _, rfl, rfl, _, _, rfl, rfl, rfl⟩ (out := [.int .i64 (putPo (-1) (l.take i)).length, .int .i64 (lastPo (-1) (l.take i)), .int .i64 0, .int .i64 ((l.drop i).take 8).length]) ⟨0, [_], rfl, rfl, by simp [Value.cells], 1, [_], rfl, rfl, by simp [Value.cells], 3, [_], rfl, rfl, by simp [Value.cells], rfl⟩ ?_
     exact Rg.nil ⟨rfl, rfl, _, rfl, rfl, Step.refl _ _⟩
    refine OblsS.cons ?_ ?_
    ·intro wD E sD
     refine Rg.alloc M1 I195 rfl (fun bq wq e1 e2 e3 s => ?_)
     exact Rg.nil ⟨rfl, rfl, _, rfl, ⟨bq, rfl, Nat.le_trans sD.size e1, e3⟩, s.back⟩
    exact OblsS.nil
   ·intro wD7 sD7
    intro x_ hx_; have hx_ : x_ = _ := hx_; subst x_
    intro x_ hx_; have hx_ : x_ = _ := hx_; subst x_
    intro x_ hx_; have hx_ : x_ = _ := hx_; subst x_
    intro x_ hx_; have hx_ : x_ = _ := hx_; subst x_
    intro x_ hx_; have hx_ : x_ = _ := hx_; subst x_
    intro x_ hx_; have hx_ : x_ = _ := hx_; subst x_
    intro x_ hx_; have hx_ : x_ = _ := hx_; subst x_
    intro x_ hx_; have hx_ : x_ = _ := hx_; subst x_
    intro x_ hx_; have hx_ : x_ = _ := hx_; subst x_
    intro v7_9 hv7_9
    obtain ⟨bq, rfl, hq1, hq2⟩ := hv7_9
    have hq3 := lt_of_get hq2
    have sQ : Step M1 wB (ins M1 bq) wD7 none' := sD7.own hq1 hq3
    refine Rg.storeaggc (M := ins M1 bq) (vs := [.int .i64 (putPo (-1) (l.take i)).length, .int .i64 (lastPo (-1) (l.take i)), .int .i64 0, .int .i64 ((l.drop i).take 8).length]) I195 rfl rfl (by intro x hx; simp at hx; rcases hx with rfl | rfl | rfl | rfl <;> rfl) rfl rfl hq2 (.inl rfl) (fun wQ hQ sQ2 => ?_)
    refine Rg.nil ⟨rfl, ?_⟩
    have h2 := h1.step (sQ.transNew sQ2 (fun k hk => by subst hk; exact hq1))
    have hqv : ∀ k, vk.ownBlock = some k → k ≠ bq := fun k hk => by have := (h1.hk.base k hk).2; omega
    have hDq : D + 1 < bq := by have := lt_of_get h1.r; omega
    have h3 : MkSt M w0 v bo bx bl D bs bn (.loop (rec .busy none)) vb vk (totPo (l.take (i + 0))) (lastPo (-1) (l.take (i + 0))) (putPo (-1) (l.take (i + 0))) (blks l ((i + 7) / 8)) (ins M1 bq) wQ := h2
    obtain ⟨M2, hM2⟩ : ∃ M2, M2 = ins M1 bq := ⟨_, rfl⟩
    rw [← hM2] at h3
    refine T.seq ?_
    refine T.seq ?_
    refine T.region ?_
    refine Rg.move rfl rfl ?_
    first | refine Rg.lensl Tryz.underlying107 rfl (by assumption) rfl ?_ | refine Rg.lenown Tryz.underlying107 rfl (by assumption) rfl ?_
    refine Rg.move rfl rfl ?_
    refine Rg.nil ?_
    refine T.block ?_
    refine T.loop (σ := Nat × Value) (fun s => [(4, .pointer (some ⟨bo, 0, none⟩)), (5, .pointer (some ⟨bl, 0, none⟩)), (6, u), (7, .pointer (some ⟨bq, 0, none⟩)), (27, u), (28, .int .i64 ((l.drop i).take 8).length), (29, .int .i64 s.1)]) (fun s w => s.1 ≤ ((l.drop i).take 8).length ∧ w.heap[bq]? = some (.cells #[.int .i64 (putPo (-1) (l.take i)).length, .int .i64 (lastPo (-1) (l.take i)), .int .i64 0, .int .i64 ((l.drop i).take 8).length] 195 (0, 0)) ∧ MkSt M w0 v bo bx bl D bs bn (.loop (rec .busy none)) s.2 vk (totPo (l.take (i + s.1))) (lastPo (-1) (l.take (i + s.1))) (putPo (-1) (l.take (i + s.1))) (blks l ((i + 7) / 8)) M2 w) (fun s => ((l.drop i).take 8).length - s.1) (0, vb) (.cons rfl (.cons rfl (.cons rfl (.cons rfl (.cons rfl (.cons rfl (.cons rfl .nil))))))) ?_ ?_
    ·exact ⟨Nat.zero_le _, hQ, h3⟩
    ·rintro ⟨j, vb⟩ wj ⟨hj, hQ, h4⟩
     dsimp only at hj hQ h4 ⊢
     have hlt := h4.lt
     refine T.seq ?_
     refine T.region ?_
     refine Rg.ilt rfl rfl rfl ?_
     refine Rg.nil ?_
     refine T.seq ?_
     refine T.ifp rfl (fun c9 => ?_) (fun c9 => ?_)
     ·refine T.skip ?_
      refine T.seq ?_
      refine T.block ?_
      refine T.seq ?_
      refine T.region ?_
      obtain ⟨⟨d, ps⟩, hx⟩ : ∃ x, l[i + j]? = some x := ⟨_, List.getElem?_eq_getElem (by omega)⟩
      obtain ⟨f1, f2, f3, f4, f5, f6⟩ := may_at hmay hx
      obtain ⟨f7, f8⟩ := risesB_iff.1 f4
      have fps := hps _ (List.mem_of_getElem? hx)
      have fb := putPo_take_le l (i + j)
      have ft := totPo_le l (i + j)
      have ft2 := totPo_le l (i + j + 1)
      rw [totPo_take hx] at ft2
      have ftk := putPo_take (-1) hx
      have ftl := putPo_take_le l (i + j + 1)
      simp only at fps
      refine Rg.idx (M := M2) Tryz.underlying107 I153 rfl rfl rfl (hu.le h4.S.le) (Le.refl _ _) (by omega) (fun u10_0 a10_0 hg10_0 hu10_0 => ?_)
      obtain rfl : (d, ps) = a10_0 := Eq.symm (Option.some.inj (hg10_0.symm.trans (by rw [Int.toNat_natCast, List.getElem?_take, if_pos (by omega), List.getElem?_drop]; exact hx)))
      refine Rg.loadagg (M := M2) (A := RT.po) Tryz.underlying153 rfl I153 (by decide) rfl rfl rfl (by assumption) (by repeat (first | exact Le.refl _ _ | refine Le.trans (Step.le (by assumption)) ?_)) (fun v10_1 hv10_1 => ?_)
      refine Rg.newagg (A := RT.po) (M := M2) I153 rfl rfl rfl rfl rfl (by assumption) (by repeat (first | exact Le.refl _ _ | refine Le.trans (Step.le (by assumption)) ?_)) (by first | assumption | exact Step.lt (by assumption) (by assumption) | exact Step.lt (by assumption) (Step.lt (by assumption) (by assumption))) (fun u10_2 w10_2 hu10_2 s10_2 z10_2 => ?_)
      refine Rg.nil ?_
      refine T.seq ?_
      have h5 := h4.step s10_2
      have hO := h5.o; have hX := h5.x; have hL := h5.l; have hB := h5.hb; have hlt := h5.lt
      have hp0 := hu10_2
      apply T.drawL (M := M2) (n := 85) _ mixed [] [Asr.eq _, Asr.eq _, Asr.eq _, Asr.eq _, Asr.eq _, Asr.ptr (RT.int .i64) d, Asr.eq (.int .i64 d), Asr.eq _, Asr.eq _, Asr.eq (.int .i64 (((d - lastPo (-1) (l.take (i + j)) - 1).toNat : Nat) : Int)), Asr.V (RT.u8.sl) (putPo (-1) (l.take (i + j)) ++ put (d - lastPo (-1) (l.take (i + j)) - 1).toNat), Asr.eq _, Asr.eq _]
      ·rfl
      ·rfl
      ·rfl
      ·rfl
      ·exact fun p hp => by cases hp
      ·exact UOk.none
      ·refine OblsS.cons ?_ ?_
       ·intro wD E sD
        refine Rg.loadc Tryz.underlying129 rfl rfl rfl (Step.same0 sD (by assumption)) rfl ?_
        exact Rg.nil ⟨rfl, rfl, _, rfl, rfl, Step.refl _ _⟩
       refine OblsS.cons ?_ ?_
       ·intro wD E sD
        refine Rg.loadc Tryz.underlying129 rfl rfl rfl (Step.same0 sD (by assumption)) rfl ?_
        exact Rg.nil ⟨rfl, rfl, _, rfl, rfl, Step.refl _ _⟩
       refine OblsS.cons ?_ ?_
       ·intro wD E sD
        intro x_ hx_; have hx_ : x_ = _ := hx_; subst x_
        refine Rg.nilCheck rfl ⟨_, rfl⟩ rfl ?_
        exact Rg.nil ⟨rfl, rfl, _, rfl, rfl, Step.refl _ _⟩
       refine OblsS.cons ?_ ?_
       ·intro wD E sD
        intro x_ hx_; have hx_ : x_ = _ := hx_; subst x_
        refine Rg.fieldc Tryz.underlying193 rfl rfl I147 (by decide) rfl rfl ?_
        exact Rg.nil ⟨rfl, rfl, _, rfl, rfl, Step.refl _ _⟩
       refine OblsS.cons ?_ ?_
       ·intro wD E sD
        intro x_ hx_; have hx_ : x_ = _ := hx_; subst x_
        refine Rg.loadc Tryz.underlying147 rfl rfl rfl (Step.same0 sD (by assumption)) rfl ?_
        exact Rg.nil ⟨rfl, rfl, _, rfl, rfl, Step.refl _ _⟩
       refine OblsS.cons ?_ ?_
       ·intro wD E sD
        refine Rg.fieldAddr (M := M2) (A := RT.po) (B := RT.int .i64) Tryz.underlying153 rfl rfl I3 (by decide) (po0) rfl rfl (by decide) (by assumption) (by repeat (first | exact Le.refl _ _ | refine Le.trans (Step.le (by assumption)) ?_)) (fun u11_5 hu11_5 => ?_)
        exact Rg.nil ⟨rfl, rfl, _, rfl, by assumption, Step.refl _ _⟩
       refine OblsS.cons ?_ ?_
       ·intro wD E sD
        intro v5 hv5
        refine Rg.loadi64 (M := M2) Tryz.underlying3 rfl rfl (by assumption) (by repeat (first | exact Le.refl _ _ | refine Le.trans (Step.le (by assumption)) ?_)) (fun in11_6 => ?_)
        exact Rg.nil ⟨rfl, rfl, _, rfl, rfl, Step.refl _ _⟩
       refine OblsS.cons ?_ ?_
       ·intro wD E sD
        refine Rg.loadc Tryz.underlying3 rfl rfl rfl (Step.same0 sD (by assumption)) rfl ?_
        exact Rg.nil ⟨rfl, rfl, _, rfl, rfl, Step.refl _ _⟩
       refine OblsS.cons ?_ ?_
       ·intro wD E sD
        intro x_ hx_; have hx_ : x_ = _ := hx_; subst x_
        intro x_ hx_; have hx_ : x_ = _ := hx_; subst x_
        refine Rg.isub rfl rfl rfl (by omega) ?_
        exact Rg.nil ⟨rfl, rfl, _, rfl, rfl, Step.refl _ _⟩
       refine OblsS.cons ?_ ?_
       ·intro wD E sD
        intro x_ hx_; have hx_ : x_ = _ := hx_; subst x_
        refine Rg.isub rfl rfl rfl (by omega) ?_
        refine Rg.eqv (v' := .int .i64 (((d - lastPo (-1) (l.take (i + j)) - 1).toNat : Nat) : Int)) (by congr 1; omega) ?_
        exact Rg.nil ⟨rfl, rfl, _, rfl, rfl, Step.refl _ _⟩
       refine OblsS.cons ?_ ?_
       ·intro wD E sD
        intro x_ hx_; have hx_ : x_ = _ := hx_; subst x_
        intro x_ hx_; have hx_ : x_ = _ := hx_; subst x_
        refine Rg.call rfl rfl E173 (Put_spec (M := M2) (sD.lt hlt) (hB.le sD.le) (by omega) (by omega)) (fun rP wP hP => ?_)
        exact Rg.nil ⟨rfl, rfl, _, rfl, hP.2, hP.1⟩
       refine OblsS.cons ?_ ?_
       ·intro wD E sD
        intro x_ hx_; have hx_ : x_ = _ := hx_; subst x_
        intro x_ hx_; have hx_ : x_ = _ := hx_; subst x_
        intro x_ hx_; have hx_ : x_ = _ := hx_; subst x_
        intro x_ hx_; have hx_ : x_ = _ := hx_; subst x_
        intro x_ hx_; have hx_ : x_ = _ := hx_; subst x_
        intro x_ hx_; have hx_ : x_ = _ := hx_; subst x_
        intro v5 hv5
        intro x_ hx_; have hx_ : x_ = _ := hx_; subst x_
        intro x_ hx_; have hx_ : x_ = _ := hx_; subst x_
        intro x_ hx_; have hx_ : x_ = _ := hx_; subst x_
        intro x_ hx_; have hx_ : x_ = _ := hx_; subst x_
        intro v10 hv10
        refine Rg.nilCheck rfl ⟨_, rfl⟩ rfl ?_
        exact Rg.nil ⟨rfl, rfl, _, rfl, rfl, Step.refl _ _⟩
       refine OblsS.cons ?_ ?_
       ·intro wD E sD
        intro x_ hx_; have hx_ : x_ = _ := hx_; subst x_
        intro x_ hx_; have hx_ : x_ = _ := hx_; subst x_
        intro x_ hx_; have hx_ : x_ = _ := hx_; subst x_
        intro x_ hx_; have hx_ : x_ = _ := hx_; subst x_
        intro x_ hx_; have hx_ : x_ = _ := hx_; subst x_
        intro x_ hx_; have hx_ : x_ = _ := hx_; subst x_
        intro v5 hv5
        intro x_ hx_; have hx_ : x_ = _ := hx_; subst x_
        intro x_ hx_; have hx_ : x_ = _ := hx_; subst x_
        intro x_ hx_; have hx_ : x_ = _ := hx_; subst x_
        intro x_ hx_; have hx_ : x_ = _ := hx_; subst x_
        intro v10 hv10
        refine Rg.fieldc Tryz.underlying193 rfl rfl I147 (by decide) rfl rfl ?_
        exact Rg.nil ⟨rfl, rfl, _, rfl, rfl, Step.refl _ _⟩
       exact OblsS.nil
      ·intro wD11 sD11
       intro x_ hx_; have hx_ : x_ = _ := hx_; subst x_
       intro x_ hx_; have hx_ : x_ = _ := hx_; subst x_
       intro x_ hx_; have hx_ : x_ = _ := hx_; subst x_
       intro x_ hx_; have hx_ : x_ = _ := hx_; subst x_
       intro x_ hx_; have hx_ : x_ = _ := hx_; subst x_
       intro v11_5 hv11_5
       intro x_ hx_; have hx_ : x_ = _ := hx_; subst x_
       intro x_ hx_; have hx_ : x_ = _ := hx_; subst x_
       intro x_ hx_; have hx_ : x_ = _ := hx_; subst x_
       intro x_ hx_; have hx_ : x_ = _ := hx_; subst x_
       intro v11_10 hv11_10
       intro x_ hx_; have hx_ : x_ = _ := hx_; subst x_
       intro x_ hx_; have hx_ : x_ = _ := hx_; subst x_
       have h6 := h5.step sD11
       have hp6 := hp0.le (by decide) sD11.le
       refine Rg.storec (M := M2) I147 rfl rfl h6.x rfl (V_one hv11_10 rfl rfl) h6.mx (fun w11 hX11 s11 => ?_)
       refine Rg.nil ⟨rfl, ?_⟩
       have h7 := h6.setX s11 hX11 (RT.V.le s11.le hv11_10) h6.hk
       have hp7 := hp6.le (by decide) s11.le
       refine T.seq ?_
       have hO := h7.o; have hX := h7.x; have hB := h7.hb; have hlt := h7.lt
       have fbl : (putPo (-1) (l.take (i + j)) ++ put (d - lastPo (-1) (l.take (i + j)) - 1).toNat).length ≤ 35184372088832 := by rw [ftk] at ftl; simp only [List.length_append] at ftl ⊢; omega
       apply T.drawE (M := M2) mixed [(13, fun k => k = bx)] [Asr.eq _, Asr.eq _, Asr.eq _, Asr.eq _, Asr.eq _, Asr.ptr ((RT.int .i64).sl) ps, Asr.V ((RT.int .i64).sl) ps, ⟨fun t w => ∃ x, t = .tuple #[x, .int .i64 0] ∧ (RT.u8.sl).V M2 w (putPo (-1) (l.take (i + j)) ++ put (d - lastPo (-1) (l.take (i + j)) - 1).toNat ++ putRising ps) x, allB, fun ⟨x, h1, h2⟩ s _ => ⟨x, h1, h2.le s.le⟩⟩, ⟨fun t w => ∃ x, t = .tuple #[x, .int .i64 0] ∧ (RT.u8.sl).V M2 w (putPo (-1) (l.take (i + j)) ++ put (d - lastPo (-1) (l.take (i + j)) - 1).toNat ++ putRising ps) x, allB, fun ⟨x, h1, h2⟩ s _ => ⟨x, h1, h2.le s.le⟩⟩, Asr.V (RT.u8.sl) (putPo (-1) (l.take (i + j)) ++ put (d - lastPo (-1) (l.take (i + j)) - 1).toNat ++ putRising ps), Asr.eq (.int .i64 0), Asr.eq _, Asr.eq _, ⟨fun _ w => ∃ x, w.heap[bx]? = some (.cells #[x, vk, .int .i64 (totPo (l.take (i + j)))] 193 (0, 0)) ∧ (RT.u8.sl).V M2 w (putPo (-1) (l.take (i + j)) ++ put (d - lastPo (-1) (l.take (i + j)) - 1).toNat ++ putRising ps) x, fun k => k ≠ bx, fun ⟨x, h1, h2⟩ s hN => ⟨x, s.keep h1 (fun hb => hN _ hb rfl), h2.le s.le⟩⟩]
       ·rfl
       ·intro p hp b hb
        simp only [List.mem_singleton] at hp
        subst hp
        cases hb
        exact h7.mx
       ·exact ⟨fun _ _ _ _ => trivial, ⟨fun _ _ _ _ => trivial, ⟨fun _ _ _ _ => trivial, ⟨fun _ _ _ _ => trivial, ⟨fun _ _ _ _ => trivial, ⟨fun _ _ _ _ => trivial, ⟨fun _ _ _ _ => trivial, ⟨fun _ _ _ _ => trivial, ⟨fun _ _ _ _ => trivial, ⟨fun _ _ _ _ => trivial, ⟨fun _ _ _ _ => trivial, ⟨fun _ _ _ _ => trivial, ⟨fun _ _ _ _ => trivial, ⟨fun p hp => by simp at hp, trivial⟩⟩⟩⟩⟩⟩⟩⟩⟩⟩⟩⟩⟩⟩
       ·refine Obls.cons ?_ ?_
        ·intro wD E sD
         replace sD : Step M2 _ M2 wD none' := sD
         refine Rg.loadc Tryz.underlying129 rfl rfl rfl (Step.same0 sD (by assumption)) rfl ?_
         exact Rg.nil ⟨rfl, rfl, _, rfl, rfl, Step.refl _ _⟩
        refine Obls.cons ?_ ?_
        ·intro wD E sD
         replace sD : Step M2 _ M2 wD none' := sD
         refine Rg.loadc Tryz.underlying129 rfl rfl rfl (Step.same0 sD (by assumption)) rfl ?_
         exact Rg.nil ⟨rfl, rfl, _, rfl, rfl, Step.refl _ _⟩
        refine Obls.cons ?_ ?_
        ·intro wD E sD
         replace sD : Step M2 _ M2 wD none' := sD
         intro x_ hx_; have hx_ : x_ = _ := hx_; subst x_
         refine Rg.nilCheck rfl ⟨_, rfl⟩ rfl ?_
         exact Rg.nil ⟨rfl, rfl, _, rfl, rfl, Step.refl _ _⟩
        refine Obls.cons ?_ ?_
        ·intro wD E sD
         replace sD : Step M2 _ M2 wD none' := sD
         intro x_ hx_; have hx_ : x_ = _ := hx_; subst x_
         refine Rg.fieldc Tryz.underlying193 rfl rfl I147 (by decide) rfl rfl ?_
         exact Rg.nil ⟨rfl, rfl, _, rfl, rfl, Step.refl _ _⟩
        refine Obls.cons ?_ ?_
        ·intro wD E sD
         replace sD : Step M2 _ M2 wD none' := sD
         intro x_ hx_; have hx_ : x_ = _ := hx_; subst x_
         refine Rg.loadc Tryz.underlying147 rfl rfl rfl (Step.same0 sD (by assumption)) rfl ?_
         exact Rg.nil ⟨rfl, rfl, _, rfl, rfl, Step.refl _ _⟩
        refine Obls.cons ?_ ?_
        ·intro wD E sD
         replace sD : Step M2 _ M2 wD none' := sD
         refine Rg.fieldAddr (M := M2) (A := RT.po) (B := (RT.int .i64).sl) Tryz.underlying153 rfl rfl I32 (by decide) po1 rfl rfl (by decide) hp7 sD.le (fun uf huf => ?_)
         exact Rg.nil ⟨rfl, rfl, _, rfl, huf, Step.refl _ _⟩
        refine Obls.cons ?_ ?_
        ·intro wD E sD
         replace sD : Step M2 _ M2 wD none' := sD
         intro v5 hv5
         refine Rg.load (M := M2) Tryz.underlying32 rfl rfl rfl rfl rfl (show PtrTo ((RT.int .i64).sl) M2 wD v5 ps from hv5) (Le.refl _ _) (fun uf huf => ?_)
         exact Rg.nil ⟨rfl, rfl, _, rfl, huf, Step.refl _ _⟩
        refine Obls.cons ?_ ?_
        ·intro wD E sD
         replace sD : Step M2 _ M2 wD none' := sD
         intro x_ hx_; have hx_ : x_ = _ := hx_; subst x_
         intro v6 hv6
         refine Rg.call rfl rfl E174 (PutRising_spec (M := M2) (sD.lt hlt) (hB.le sD.le) (show ((RT.int .i64).sl).V M2 wD ps v6 from hv6) (by omega)) (fun rP wP hP => ?_)
         obtain ⟨xP, sP, hP1, hP2⟩ := hP
         rw [if_pos f7] at hP1 hP2
         exact Rg.nil ⟨rfl, rfl, _, rfl, ⟨xP, hP1, hP2⟩, sP⟩
        refine Obls.cons ?_ ?_
        ·intro wD E sD
         replace sD : Step M2 _ M2 wD none' := sD
         intro v7 hv7
         refine Rg.move rfl rfl ?_
         exact Rg.nil ⟨rfl, rfl, _, rfl, hv7, Step.refl _ _⟩
        refine Obls.cons ?_ ?_
        ·intro wD E sD
         replace sD : Step M2 _ M2 wD none' := sD
         intro v8 hv8
         obtain ⟨xP, rfl, hP2⟩ := hv8
         refine Rg.extract rfl rfl rfl ?_
         exact Rg.nil ⟨rfl, rfl, _, rfl, hP2, Step.refl _ _⟩
        refine Obls.cons ?_ ?_
        ·intro wD E sD
         replace sD : Step M2 _ M2 wD (fun k => k = bx) := sD
         intro v8 hv8
         obtain ⟨xP, rfl, hP2⟩ := hv8
         refine Rg.extract rfl rfl rfl ?_
         exact Rg.nil ⟨rfl, rfl, _, rfl, rfl, Step.refl _ _⟩
        refine Obls.cons ?_ ?_
        ·intro wD E sD
         replace sD : Step M2 _ M2 wD (fun k => k = bx) := sD
         intro x_ hx_; have hx_ : x_ = _ := hx_; subst x_
         intro x_ hx_; have hx_ : x_ = _ := hx_; subst x_
         intro x_ hx_; have hx_ : x_ = _ := hx_; subst x_
         intro x_ hx_; have hx_ : x_ = _ := hx_; subst x_
         intro x_ hx_; have hx_ : x_ = _ := hx_; subst x_
         intro x_ hx_; have hx_ : x_ = _ := hx_; subst x_
         intro v5 hv5
         intro v6 hv6
         intro v7 hv7
         intro v8 hv8
         intro v9 hv9
         refine Rg.nilCheck rfl ⟨_, rfl⟩ rfl ?_
         exact Rg.nil ⟨rfl, rfl, _, rfl, rfl, Step.refl _ _⟩
        refine Obls.cons ?_ ?_
        ·intro wD E sD
         replace sD : Step M2 _ M2 wD none' := sD
         intro x_ hx_; have hx_ : x_ = _ := hx_; subst x_
         intro x_ hx_; have hx_ : x_ = _ := hx_; subst x_
         intro x_ hx_; have hx_ : x_ = _ := hx_; subst x_
         intro x_ hx_; have hx_ : x_ = _ := hx_; subst x_
         intro x_ hx_; have hx_ : x_ = _ := hx_; subst x_
         intro x_ hx_; have hx_ : x_ = _ := hx_; subst x_
         intro v5 hv5
         intro v6 hv6
         intro v7 hv7
         intro v8 hv8
         intro v9 hv9
         refine Rg.fieldc Tryz.underlying193 rfl rfl I147 (by decide) rfl rfl ?_
         exact Rg.nil ⟨rfl, rfl, _, rfl, rfl, Step.refl _ _⟩
        refine Obls.cons ?_ ?_
        ·intro wD E sD
         replace sD : Step M2 _ M2 wD none' := sD
         intro x_ hx_; have hx_ : x_ = _ := hx_; subst x_
         intro v9 hv9
         intro v7 hv7
         intro x_ hx_; have hx_ : x_ = _ := hx_; subst x_
         intro x_ hx_; have hx_ : x_ = _ := hx_; subst x_
         intro x_ hx_; have hx_ : x_ = _ := hx_; subst x_
         intro x_ hx_; have hx_ : x_ = _ := hx_; subst x_
         intro x_ hx_; have hx_ : x_ = _ := hx_; subst x_
         intro v5 hv5
         intro v6 hv6
         intro v7 hv7
         intro v8 hv8
         intro v9 hv9
         refine Rg.storec (M := M2) I147 rfl rfl (Step.same0 sD hX) rfl (V_one (A := RT.u8.sl) hv9 rfl rfl) h7.mx (fun wS hXS sS => ?_)
         exact Rg.nil ⟨rfl, rfl, undef, rfl, ⟨_, hXS, RT.V.le (A := RT.u8.sl) sS.le hv9⟩, sS⟩
        exact Obls.nil
       ·intro wD12 sD12
        replace sD12 : Step M2 _ M2 wD12 (fun k => k = bx) := sD12
        intro x_ hx_; have hx_ : x_ = _ := hx_; subst x_
        intro x_ hx_; have hx_ : x_ = _ := hx_; subst x_
        intro x_ hx_; have hx_ : x_ = _ := hx_; subst x_
        intro x_ hx_; have hx_ : x_ = _ := hx_; subst x_
        intro x_ hx_; have hx_ : x_ = _ := hx_; subst x_
        intro v12_5 hv12_5
        intro v12_6 hv12_6
        intro v12_7 hv12_7
        intro v12_8 hv12_8
        intro v12_9 hv12_9
        intro x_ hx_; have hx_ : x_ = _ := hx_; subst x_
        intro x_ hx_; have hx_ : x_ = _ := hx_; subst x_
        intro x_ hx_; have hx_ : x_ = _ := hx_; subst x_
        intro v12_13 hv12_13
        obtain ⟨v12, hX12, hB12⟩ := hv12_13
        have h8 := h7.setX sD12 hX12 hB12 h7.hk
        have hp8 := hp7.le (by decide) sD12.le
        refine T.seq ?_
        have hO := h8.o; have hX := h8.x
        apply T.drawL (M := M2) (n := 85) _ mixed [] [Asr.eq _, Asr.eq _, Asr.eq _, Asr.eq _, Asr.ptr ((RT.int .i64).sl) ps, Asr.V ((RT.int .i64).sl) ps, Asr.eq (.int .i64 ps.length), Asr.eq _, Asr.eq _, Asr.eq _]
        ·rfl
        ·rfl
        ·rfl
        ·rfl
        ·exact fun p hp => by cases hp
        ·exact UOk.none
        ·refine OblsS.cons ?_ ?_
         ·intro wD E sD
          refine Rg.loadc Tryz.underlying129 rfl rfl rfl (Step.same0 sD (by assumption)) rfl ?_
          exact Rg.nil ⟨rfl, rfl, _, rfl, rfl, Step.refl _ _⟩
         refine OblsS.cons ?_ ?_
         ·intro wD E sD
          intro x_ hx_; have hx_ : x_ = _ := hx_; subst x_
          refine Rg.nilCheck rfl ⟨_, rfl⟩ rfl ?_
          exact Rg.nil ⟨rfl, rfl, _, rfl, rfl, Step.refl _ _⟩
         refine OblsS.cons ?_ ?_
         ·intro wD E sD
          intro x_ hx_; have hx_ : x_ = _ := hx_; subst x_
          refine Rg.fieldc Tryz.underlying193 rfl rfl I3 (by decide) rfl rfl ?_
          exact Rg.nil ⟨rfl, rfl, _, rfl, rfl, Step.refl _ _⟩
         refine OblsS.cons ?_ ?_
         ·intro wD E sD
          intro x_ hx_; have hx_ : x_ = _ := hx_; subst x_
          refine Rg.loadc Tryz.underlying3 rfl rfl rfl (Step.same0 sD (by assumption)) rfl ?_
          exact Rg.nil ⟨rfl, rfl, _, rfl, rfl, Step.refl _ _⟩
         refine OblsS.cons ?_ ?_
         ·intro wD E sD
          refine Rg.fieldAddr (M := M2) (A := RT.po) (B := (RT.int .i64).sl) Tryz.underlying153 rfl rfl I32 (by decide) po1 rfl rfl (by decide) hp8 sD.le (fun uf huf => ?_)
          exact Rg.nil ⟨rfl, rfl, _, rfl, huf, Step.refl _ _⟩
         refine OblsS.cons ?_ ?_
         ·intro wD E sD
          intro v4 hv4
          refine Rg.load (M := M2) Tryz.underlying32 rfl rfl rfl rfl rfl (show PtrTo ((RT.int .i64).sl) M2 wD v4 ps from hv4) (Le.refl _ _) (fun uf huf => ?_)
          exact Rg.nil ⟨rfl, rfl, _, rfl, huf, Step.refl _ _⟩
         refine OblsS.cons ?_ ?_
         ·intro wD E sD
          intro v5 hv5
          refine Rg.lensl Tryz.underlying32 rfl (show ((RT.int .i64).sl).V M2 wD ps v5 from hv5) rfl ?_
          exact Rg.nil ⟨rfl, rfl, _, rfl, rfl, Step.refl _ _⟩
         refine OblsS.cons ?_ ?_
         ·intro wD E sD
          intro x_ hx_; have hx_ : x_ = _ := hx_; subst x_
          intro x_ hx_; have hx_ : x_ = _ := hx_; subst x_
          refine Rg.iadd rfl rfl rfl (by omega) ?_
          exact Rg.nil ⟨rfl, rfl, _, rfl, rfl, Step.refl _ _⟩
         refine OblsS.cons ?_ ?_
         ·intro wD E sD
          intro x_ hx_; have hx_ : x_ = _ := hx_; subst x_
          intro x_ hx_; have hx_ : x_ = _ := hx_; subst x_
          intro x_ hx_; have hx_ : x_ = _ := hx_; subst x_
          intro x_ hx_; have hx_ : x_ = _ := hx_; subst x_
          intro x_ hx_; have hx_ : x_ = _ := hx_; subst x_
          intro v4 hv4
          intro v5 hv5
          intro x_ hx_; have hx_ : x_ = _ := hx_; subst x_
          intro x_ hx_; have hx_ : x_ = _ := hx_; subst x_
          refine Rg.nilCheck rfl ⟨_, rfl⟩ rfl ?_
          exact Rg.nil ⟨rfl, rfl, _, rfl, rfl, Step.refl _ _⟩
         refine OblsS.cons ?_ ?_
         ·intro wD E sD
          intro x_ hx_; have hx_ : x_ = _ := hx_; subst x_
          intro x_ hx_; have hx_ : x_ = _ := hx_; subst x_
          intro x_ hx_; have hx_ : x_ = _ := hx_; subst x_
          intro x_ hx_; have hx_ : x_ = _ := hx_; subst x_
          intro x_ hx_; have hx_ : x_ = _ := hx_; subst x_
          intro v4 hv4
          intro v5 hv5
          intro x_ hx_; have hx_ : x_ = _ := hx_; subst x_
          intro x_ hx_; have hx_ : x_ = _ := hx_; subst x_
          refine Rg.fieldc Tryz.underlying193 rfl rfl I3 (by decide) rfl rfl ?_
          exact Rg.nil ⟨rfl, rfl, _, rfl, rfl, Step.refl _ _⟩
         exact OblsS.nil
        ·intro wD13 sD13
         intro x_ hx_; have hx_ : x_ = _ := hx_; subst x_
         intro x_ hx_; have hx_ : x_ = _ := hx_; subst x_
         intro x_ hx_; have hx_ : x_ = _ := hx_; subst x_
         intro x_ hx_; have hx_ : x_ = _ := hx_; subst x_
         intro v13_4 hv13_4
         intro v13_5 hv13_5
         intro x_ hx_; have hx_ : x_ = _ := hx_; subst x_
         intro x_ hx_; have hx_ : x_ = _ := hx_; subst x_
         intro x_ hx_; have hx_ : x_ = _ := hx_; subst x_
         intro x_ hx_; have hx_ : x_ = _ := hx_; subst x_
         have h9 := h8.step sD13
         refine Rg.storec (M := M2) I3 rfl rfl h9.x rfl rfl h9.mx (fun w13 hX13 s13 => ?_)
         refine Rg.nil ⟨rfl, ?_⟩
         have h10 := h9.setX s13 hX13 (h9.hb.le s13.le) h9.hk
         have hp13 := (hp8.le (by decide) sD13.le).le (by decide) s13.le
         refine T.region ?_
         refine Rg.fieldAddr (M := M2) (A := RT.po) (B := RT.int .i64) Tryz.underlying153 rfl rfl I3 (by decide) po0 rfl rfl (by decide) hp13 (Le.refl _ _) (fun u14_0 hu14_0 => ?_)
         refine Rg.loadi64 (M := M2) Tryz.underlying3 rfl rfl hu14_0 (Le.refl _ _) (fun _ => ?_)
         refine Rg.eqv (v' := .int .i64 d) rfl ?_
         refine Rg.storec (M := M2) I3 rfl rfl h10.l rfl rfl h10.ml (fun w14 hL14 s14 => ?_)
         have h11 := h10.setLast s14 hL14
         refine Rg.nil ?_
         refine T.region ?_
         refine Rg.iadd rfl rfl rfl (by omega) ?_
         refine Rg.move rfl rfl ?_
         refine Rg.nil ?_
         refine ⟨rfl, (j + 1, v12), (.cons rfl (.cons rfl (.cons rfl (.cons rfl (.cons rfl (.cons rfl (.cons rfl .nil))))))), ?_, ?_⟩
         ·refine ⟨by simp only; omega, ?_, ?_⟩
          ·exact s14.keep (s13.keep (sD13.same0 (sD12.keep (s11.keep (sD11.same0 (s10_2.same0 hQ)) (by omega)) (by omega))) (by omega)) (by omega)
          ·simp only
           rw [show i + (j + 1) = i + j + 1 from by omega, totPo_take hx, f5, ftk]
           exact h11
         ·simp only; omega
     ·refine T.exit ?_
      refine T.seq ?_
      refine T.region ?_
      obtain rfl : j = ((l.drop i).take 8).length := by omega
      have hbq : M2 bq := by rw [hM2]; exact .inl rfl
      refine Rg.loadc Tryz.underlying3 rfl rfl rfl h4.l rfl ?_
      refine Rg.fieldc (o' := 2) Tryz.underlying195 rfl rfl I3 (by decide) rfl rfl ?_
      refine Rg.storec (M := M2) I3 rfl rfl hQ rfl rfl hbq (fun w16 hQ16 s16 => ?_)
      have h16 := h4.other s16 hDq hqv
      change w16.heap[bq]? = some (.cells [.int .i64 (putPo (-1) (l.take i)).length, .int .i64 (lastPo (-1) (l.take i)), .int .i64 (lastPo (-1) (l.take (i + ((l.drop i).take 8).length))), .int .i64 ((l.drop i).take 8).length].toArray 195 (0, 0)) at hQ16
      refine Rg.nil ?_
      have hO := h16.o; have hX := h16.x; have hk16 := h16.hk
      have hvo : ∀ k, vk.ownBlock = some k → k ≠ bo := fun k hk => by have := (hk16.base k hk).1; omega
      have hr16 := lt_of_get h16.r
      have g1 := lastPo_rng l (-1) hmay (by omega) i
      have g2 := lastPo_rng l (-1) hmay (by omega) (i + ((l.drop i).take 8).length)
      have g3 := putPo_take_le l i
      apply T.drawL (M := M2) (n := 85) _ mixed [(7, fun k => vk.ownBlock = some k)] [Asr.eq _, Asr.eq _, Asr.eq _, Asr.eq _, Asr.eq _, Asr.eq (.agg [.int .i64 (putPo (-1) (l.take i)).length, .int .i64 (lastPo (-1) (l.take i)), .int .i64 (lastPo (-1) (l.take (i + ((l.drop i).take 8).length))), .int .i64 ((l.drop i).take 8).length].toArray), Asr.V ((RT.bl).sl) [(((putPo (-1) (l.take i)).length : Int), lastPo (-1) (l.take i), lastPo (-1) (l.take (i + ((l.drop i).take 8).length)), (((l.drop i).take 8).length : Int))], ⟨fun t w => ∃ M3, Own RT.bl 195 M3 w (D + 2) t (blks l ((i + 7) / 8) ++ [(((putPo (-1) (l.take i)).length : Int), lastPo (-1) (l.take i), lastPo (-1) (l.take (i + ((l.drop i).take 8).length)), (((l.drop i).take 8).length : Int))]) ∧ Step M2 w16 M3 w (fun k => vk.ownBlock = some k), none', fun ⟨M3, h1, h2⟩ s hN => ⟨M3, h1.step0 ((s.widen hN (fun _ h => h.elim)).any M3), h2.trans0 ((s.widen hN (fun _ h => h.elim)).any M3)⟩⟩, Asr.eq _, Asr.eq _]
      ·rfl
      ·rfl
      ·rfl
      ·rfl
      ·intro p hp b hb
       simp only [List.mem_singleton] at hp
       subst hp
       exact hk16.mut_ b hb
      ·exact ⟨fun _ _ _ _ => trivial, ⟨fun _ _ _ _ => trivial, ⟨fun _ _ _ _ => trivial, ⟨fun _ _ _ _ => trivial, ⟨fun _ _ _ _ => trivial, ⟨fun _ _ _ _ => trivial, ⟨fun _ _ _ _ => trivial, ⟨fun p hp => by simp at hp, ⟨fun _ _ _ _ => trivial, ⟨fun _ _ _ _ => trivial, trivial⟩⟩⟩⟩⟩⟩⟩⟩⟩⟩
      ·refine OblsS.cons ?_ ?_
       ·intro wD E sD
        replace sD : Step M2 _ M2 wD (fun k => vk.ownBlock = some k) := sD
        refine Rg.loadc Tryz.underlying129 rfl rfl rfl (sD.keep hO (fun hb => hvo _ hb rfl)) rfl ?_
        exact Rg.nil ⟨rfl, rfl, _, rfl, rfl, Step.refl _ _⟩
       refine OblsS.cons ?_ ?_
       ·intro wD E sD
        replace sD : Step M2 _ M2 wD (fun k => vk.ownBlock = some k) := sD
        refine Rg.loadc Tryz.underlying129 rfl rfl rfl (sD.keep hO (fun hb => hvo _ hb rfl)) rfl ?_
        exact Rg.nil ⟨rfl, rfl, _, rfl, rfl, Step.refl _ _⟩
       refine OblsS.cons ?_ ?_
       ·intro wD E sD
        replace sD : Step M2 _ M2 wD (fun k => vk.ownBlock = some k) := sD
        intro x_ hx_; have hx_ : x_ = _ := hx_; subst x_
        refine Rg.nilCheck rfl ⟨_, rfl⟩ rfl ?_
        exact Rg.nil ⟨rfl, rfl, _, rfl, rfl, Step.refl _ _⟩
       refine OblsS.cons ?_ ?_
       ·intro wD E sD
        replace sD : Step M2 _ M2 wD (fun k => vk.ownBlock = some k) := sD
        intro x_ hx_; have hx_ : x_ = _ := hx_; subst x_
        refine Rg.fieldc Tryz.underlying193 rfl rfl I191 (by decide) rfl rfl ?_
        exact Rg.nil ⟨rfl, rfl, _, rfl, rfl, Step.refl _ _⟩
       refine OblsS.cons ?_ ?_
       ·intro wD E sD
        replace sD : Step M2 _ M2 wD none' := sD
        intro x_ hx_; have hx_ : x_ = _ := hx_; subst x_
        refine Rg.loadc Tryz.underlying191 rfl rfl rfl (Step.same0 sD (by assumption)) rfl ?_
        exact Rg.nil ⟨rfl, rfl, _, rfl, rfl, Step.refl _ _⟩
       refine OblsS.cons ?_ ?_
       ·intro wD E sD
        replace sD : Step M2 _ M2 wD (fun k => vk.ownBlock = some k) := sD
        refine Rg.loadaggc (vs := [.int .i64 (putPo (-1) (l.take i)).length, .int .i64 (lastPo (-1) (l.take i)), .int .i64 (lastPo (-1) (l.take (i + ((l.drop i).take 8).length))), .int .i64 ((l.drop i).take 8).length]) Tryz.underlying195 rfl I195 rfl rfl rfl (sD.keep hQ16 (fun hb => hqv _ hb rfl)) ?_
        exact Rg.nil ⟨rfl, rfl, _, rfl, rfl, Step.refl _ _⟩
       refine OblsS.cons ?_ ?_
       ·intro wD E sD
        replace sD : Step M2 _ M2 wD none' := sD
        intro x_ hx_; have hx_ : x_ = _ := hx_; subst x_
        refine Rg.sl1 (A := RT.bl) (hn := by decide) (M := M2) Tryz.underlying191 I195 (by decide) rfl rfl (sD.lt h16.lt) (V_bl (by omega) (by omega) (by omega) (by omega)) (.inl rfl) (fun uS wS hS sS => ?_)
        exact Rg.nil ⟨rfl, rfl, _, rfl, hS, sS⟩
       refine OblsS.cons ?_ ?_
       ·intro wD E sD
        replace sD : Step M2 _ M2 wD none' := sD
        intro x_ hx_; have hx_ : x_ = _ := hx_; subst x_
        intro v6 hv6
        refine Rg.append (M := M2) (base := D + 2) Tryz.underlying191 I195 rfl rfl rfl rfl (hk16.step0 sD) (show ((RT.bl).sl).V M2 wD [(((putPo (-1) (l.take i)).length : Int), lastPo (-1) (l.take i), lastPo (-1) (l.take (i + ((l.drop i).take 8).length)), (((l.drop i).take 8).length : Int))] v6 from hv6) (Le.refl _ _) (by simp [blks]; omega) (by simp [blks]; omega) (by have := sD.size; omega) (fun v3 M3 w3 ho3 s3 => ?_)
        exact Rg.nil ⟨rfl, rfl, _, rfl, ⟨M3, ho3, (sD.widen (fun _ h => h.elim) hk16.mut_).trans s3 (fun b _ hb => hb)⟩, s3.back⟩
       refine OblsS.cons ?_ ?_
       ·intro wD E sD
        replace sD : Step M2 _ M2 wD (fun k => vk.ownBlock = some k) := sD
        intro x_ hx_; have hx_ : x_ = _ := hx_; subst x_
        intro x_ hx_; have hx_ : x_ = _ := hx_; subst x_
        intro x_ hx_; have hx_ : x_ = _ := hx_; subst x_
        intro x_ hx_; have hx_ : x_ = _ := hx_; subst x_
        intro x_ hx_; have hx_ : x_ = _ := hx_; subst x_
        intro x_ hx_; have hx_ : x_ = _ := hx_; subst x_
        intro x_ hx_; have hx_ : x_ = _ := hx_; subst x_
        intro v6 hv6
        intro v7 hv7
        refine Rg.nilCheck rfl ⟨_, rfl⟩ rfl ?_
        exact Rg.nil ⟨rfl, rfl, _, rfl, rfl, Step.refl _ _⟩
       refine OblsS.cons ?_ ?_
       ·intro wD E sD
        replace sD : Step M2 _ M2 wD (fun k => vk.ownBlock = some k) := sD
        intro x_ hx_; have hx_ : x_ = _ := hx_; subst x_
        intro x_ hx_; have hx_ : x_ = _ := hx_; subst x_
        intro x_ hx_; have hx_ : x_ = _ := hx_; subst x_
        intro x_ hx_; have hx_ : x_ = _ := hx_; subst x_
        intro x_ hx_; have hx_ : x_ = _ := hx_; subst x_
        intro x_ hx_; have hx_ : x_ = _ := hx_; subst x_
        intro x_ hx_; have hx_ : x_ = _ := hx_; subst x_
        intro v6 hv6
        intro v7 hv7
        refine Rg.fieldc Tryz.underlying193 rfl rfl I191 (by decide) rfl rfl ?_
        exact Rg.nil ⟨rfl, rfl, _, rfl, rfl, Step.refl _ _⟩
       exact OblsS.nil
      ·intro wD17 sD17
       replace sD17 : Step M2 _ M2 wD17 (fun k => vk.ownBlock = some k) := sD17
       intro x_ hx_; have hx_ : x_ = _ := hx_; subst x_
       intro x_ hx_; have hx_ : x_ = _ := hx_; subst x_
       intro x_ hx_; have hx_ : x_ = _ := hx_; subst x_
       intro x_ hx_; have hx_ : x_ = _ := hx_; subst x_
       intro x_ hx_; have hx_ : x_ = _ := hx_; subst x_
       intro x_ hx_; have hx_ : x_ = _ := hx_; subst x_
       intro v17_6 hv17_6
       intro v17_7 hv17_7
       intro x_ hx_; have hx_ : x_ = _ := hx_; subst x_
       intro x_ hx_; have hx_ : x_ = _ := hx_; subst x_
       obtain ⟨M3, ho3, sR⟩ := hv17_7
       obtain ⟨⟨hx3, hm3, hlt3⟩, hgo⟩ := h16.grow sR ho3
       refine Rg.storec (M := M3) I191 rfl rfl hx3 rfl (by obtain ⟨_, _, he, _⟩ := ho3.isSlice; rw [he]; rfl) hm3 (fun w17 hX17 s17 => ?_)
       refine Rg.nil ⟨rfl, ?_⟩
       have h17 := hgo s17 hX17
       have h18 := h17.setR (st' := .loop (rec .ready none)) h17.r
       have hE : i + ((l.drop i).take 8).length = min (i + 8) l.length := by omega
       rw [hE, blk_next (by omega) hi] at h18
       exact ⟨h17.r, true, rfl, fun _ => ⟨M3, _, _, h18, by omega, by omega⟩, fun h => by cases h⟩
  ·obtain ⟨Mz, vb, vk, h, _, _⟩ := h3.resolve_right (fun h => h)
   left
   rw [List.take_length] at h
   have h5 := h.setR (st' := .loop (rec .exhausted none)) h.r
   refine ⟨h.r, ?_⟩
   generalize w3.putObj (D + 1) _ = wE at h5 ⊢
   refine T.seq ?_
   refine T.region ?_
   refine Rg.loadc Tryz.underlying129 rfl rfl rfl h5.o rfl ?_
   refine Rg.assign rfl rfl ?_
   refine Rg.assign rfl rfl ?_
   refine Rg.nil ?_
   refine T.ret ?_
   obtain ⟨q1, q2, q3, q4, q5, q6, q7, q8, q9, q10, q11, q12, q13, q14, q15, q16, q17, q18⟩ := h5.ne
   have sZ : Step Mz wE Mz (wE.putObj D (.deferred none)) (fun k => k = D) := step_putObj h5.md
   have SZ := h5.S.transNew sZ (fun k hk => by subst hk; omega)
   have ht := totPo_nonneg l
   refine KretM2 rfl rfl rfl h5.d ⟨SZ.back, fun _ => ⟨_, rfl, ?_⟩, fun hf => by rw [hmay] at hf; cases hf⟩
   exact li_mk (sZ.keep h5.x (by omega)) (fun hh => by have := hM _ hh; omega) ((h5.hb.le sZ.le).le (Le.close hM SZ)) (Own.close hM SZ ((h5.hk.step sZ (fun k hk hh => by have := (h5.hk.base k hk).1; omega)).rebase (by omega)) (by simp [blks]; omega)) (by omega)
end Go.K
namespace Go.K
open Go.Proofs
namespace TKBldG
theorem I107 : TI Tryz.prog 107 (.slice none 0 0) 1 24 := by unfold TI; kernel_rfl
theorem I188 : TI Tryz.prog 188 (.slice none 0 0) 1 24 := by unfold TI; kernel_rfl
theorem E126 : Enters Tryz.prog 126 := enters Tryz.func126 rfl (by decide)
theorem E175 : Enters Tryz.prog 175 := enters Tryz.func175 rfl (by decide)
end TKBldG
open TKBldG
set_option linter.unusedVariables false
set_option linter.unusedSimpArgs false
set_option maxRecDepth 10000
theorem index_spec {M : PSet} {l : List (List Po)} {v0 : Value} {g : FuncId} {cap : List Value} {B : Nat} {J : Nat → PSet → World → Prop} {bad : List Po → Bool} (w0 : World) (hM : Lt M w0) (hv : (((RT.po).sl).sl).V M w0 l v0) (hg : Enters Tryz.prog g) (hJ : J 0 M w0) (hst : ∀ i M w M' w', J i M w → Step M w M' w' none' → J i M' w') (ht : ∀ i M w x vx, J i M w → Lt M w → l[i]? = some x → ((RT.po).sl).V M w x vx → Spec Tryz.prog g ([vx] ++ cap).toArray w (fun v w' => ∃ M', Lt M' w' ∧ v = .bool (bad x) ∧ (bad x = false → J (i + 1) M' w') ∧ Step M w M' w' (mine M B))) :
  Spec Tryz.prog 175 #[v0, .func (.func g) #[] cap.toArray] w0 (fun v w => ∃ M' k, v = .int .i64 k ∧ -1 ≤ k ∧ Lt M' w ∧ Step M w0 M' w (mine M B) ∧ (k = -1 → (∀ x ∈ l, bad x = false) ∧ J l.length M' w) ∧ (0 ≤ k → ∃ x ∈ l, bad x = true)) := by
 have hlen := V_sl_len hv
 refine spec_of (args := [_, _]) (fn := Tryz.f175) Tryz.func175 rfl (n := 19) Tryz.ntmps175 ?_
 have S : Step M w0 M w0 (mine M B) := (Step.refl _ _).widen (fun _ h => h.elim) (fun _ h => h.2)
 refine T.seq ?_
 refine T.region ?_
 refine Rg.assign rfl rfl ?_
 refine Rg.nil ?_
 refine T.seq ?_
 refine T.seq ?_
 refine T.region ?_
 refine Rg.move rfl rfl ?_
 refine Rg.lensl Tryz.underlying56 rfl hv rfl ?_
 refine Rg.move rfl rfl ?_
 refine Rg.nil ?_
 refine T.block ?_
 refine T.loop (σ := Nat) (fun q => [(0, v0), (1, .func (.func g) #[] cap.toArray), (6, v0), (7, .int .i64 (l.length : Int)), (8, .int .i64 (q : Int))]) (fun q w => ∃ M', Lt M' w ∧ Step M w0 M' w (mine M B) ∧ (((RT.po).sl).sl).V M' w l v0 ∧ J q M' w ∧ q ≤ l.length ∧ ∀ x ∈ l.take q, bad x = false) (fun q => l.length - q) 0 (.cons rfl (.cons rfl (.cons rfl (.cons rfl (.cons rfl .nil))))) ?_ ?_
 ·exact ⟨M, hM, S, hv, hJ, Nat.zero_le _, fun x h => by simp at h⟩
 ·clear hM S hv hJ
  rintro i w ⟨M1, hM, S, hv, hJ, hi, hno⟩
  refine T.seq ?_
  refine T.region ?_
  refine Rg.ilt rfl rfl rfl ?_
  refine Rg.nil ?_
  refine T.seq ?_
  refine T.ifp rfl (fun c2 => ?_) (fun c2 => ?_)
  ·refine T.skip ?_
   refine T.seq ?_
   refine T.block ?_
   refine T.seq ?_
   refine T.region ?_
   refine Rg.move rfl rfl ?_
   refine Rg.assign rfl rfl ?_
   refine Rg.nil ?_
   refine T.seq ?_
   refine T.region ?_
   refine Rg.move rfl rfl ?_
   refine Rg.move rfl rfl ?_
   refine Rg.move rfl rfl ?_
   refine Rg.idx (M := M1) Tryz.underlying56 I107 rfl rfl rfl hv (Le.refl _ _) (by omega) (fun u x hg4 hu => ?_)
   rw [Int.toNat_natCast] at hg4 --@ptr ((RT.po).sl) ;; x
   refine Rg.load (M := M1) Tryz.underlying107 rfl rfl rfl rfl rfl hu (Le.refl _ _) (fun vx hvx => ?_)
   refine Rg.callv (first := []) (captured := cap) (xs := [.tmp 15]) rfl rfl rfl hg (ht i _ _ x vx hJ hM hg4 hvx) (fun r4 w4 hc => ?_)
   obtain ⟨M4, hM4, rfl, hJ4, s4⟩ := hc
   refine Rg.eqv (v' := .bool (decide (bad x = true))) (by simp) ?_
   have S4 := S.trans s4 (fun k hk h => ⟨h.1, (S.mem k hk).1 h.2⟩)
   refine Rg.nil ?_
   refine T.ifp rfl (fun c4 => ?_) (fun c4 => ?_)
   ·refine T.seq ?_
    refine T.region ?_
    refine Rg.move rfl rfl ?_
    refine Rg.assign rfl rfl ?_
    refine Rg.nil ?_
    refine T.ret ?_
    exact Kret1 rfl rfl ⟨M4, _, rfl, by omega, hM4, S4, fun h => absurd h (by omega), fun _ => ⟨x, List.mem_of_getElem? hg4, c4⟩⟩
   ·refine T.skip ?_
    refine T.region ?_
    refine Rg.iadd rfl rfl rfl (by omega) ?_
    refine Rg.move rfl rfl ?_
    refine Rg.nil ?_
    refine ⟨rfl, i + 1, (.cons rfl (.cons rfl (.cons rfl (.cons rfl (.cons rfl .nil))))), ?_, ?_⟩
    ·have hb : bad x = false := by simpa using c4
     exact ⟨M4, hM4, S4, hv.le s4.le, hJ4 hb, by omega, fun y hy => by
      rw [List.take_add_one, hg4, Option.toList_some, List.mem_append, List.mem_singleton] at hy
      rcases hy with hy | rfl
      ·exact hno y hy
      ·exact hb⟩
    ·omega
  ·refine T.exit ?_
   refine T.seq ?_
   refine T.region ?_
   refine Rg.assign rfl rfl ?_
   refine Rg.nil ?_
   refine T.ret ?_
   rw [List.take_of_length_le (by omega)] at hno
   have e : i = l.length := by omega
   subst e
   exact Kret1 rfl rfl ⟨_, _, rfl, by omega, hM, S, fun _ => ⟨hno, hJ⟩, fun h => absurd h (by omega)⟩
theorem contains_spec {M : PSet} {l : List (List Po)} {v0 : Value} {g : FuncId} {cap : List Value} {B : Nat} {J : Nat → PSet → World → Prop} {bad : List Po → Bool} (w0 : World) (hM : Lt M w0) (hv : (((RT.po).sl).sl).V M w0 l v0) (hg : Enters Tryz.prog g) (hJ : J 0 M w0) (hst : ∀ i M w M' w', J i M w → Step M w M' w' none' → J i M' w') (ht : ∀ i M w x vx, J i M w → Lt M w → l[i]? = some x → ((RT.po).sl).V M w x vx → Spec Tryz.prog g ([vx] ++ cap).toArray w (fun v w' => ∃ M', Lt M' w' ∧ v = .bool (bad x) ∧ (bad x = false → J (i + 1) M' w') ∧ Step M w M' w' (mine M B))) :
  Spec Tryz.prog 127 #[v0, .func (.func g) #[] cap.toArray] w0 (fun v w => ∃ M' k, v = .bool (decide (0 ≤ k)) ∧ -1 ≤ k ∧ Lt M' w ∧ Step M w0 M' w (mine M B) ∧ (k = -1 → (∀ x ∈ l, bad x = false) ∧ J l.length M' w) ∧ (0 ≤ k → ∃ x ∈ l, bad x = true)) := by
 refine spec_of (args := [_, _]) (fn := Tryz.f127) Tryz.func127 rfl (n := 9) Tryz.ntmps127 ?_
 refine T.seq ?_
 refine T.region ?_
 refine Rg.assign rfl rfl ?_
 refine Rg.nil ?_
 refine T.seq ?_
 refine T.region ?_
 refine Rg.move rfl rfl ?_
 refine Rg.move rfl rfl ?_
 refine Rg.call rfl rfl E175 (index_spec w0 hM hv hg hJ hst ht) (fun r w1 hc => ?_)
 obtain ⟨M1, k, rfl, hk, h2⟩ := hc
 refine Rg.ige rfl rfl rfl ?_
 refine Rg.assign rfl rfl ?_
 refine Rg.nil ?_
 refine T.ret ?_
 exact Kret1 rfl rfl ⟨M1, k, rfl, hk, h2⟩
def lastD (x : List Po) : Int := match x.getLast? with | some p => p.1 | none => -1
def badP (n : Int) (x : List Po) : Bool := !mayPo (-1) x || x.isEmpty || decide (n ≤ lastD x)
theorem lastD_at {x : List Po} {p : Po} (h : x[x.length - 1]? = some p) : lastD x = p.1 := by
 unfold lastD; rw [List.getLast?_eq_getElem?, h]
structure Room (x : List Po) : Prop where
 ps : ∀ p ∈ x, p.2.length ≤ 1099511627776
 by_ : (putPo (-1) x).length ≤ 35184372088832
 ln : x.length ≤ 1099511627776
 tot : totPo x ≤ 4611686018427387904
def RT.cell : RT Value where
 n := 1
 agg := false
 R := fun _ _ x vs => vs = [x] ∧ x.oneCell' = true
 len := by rintro _ _ x vs ⟨rfl, _⟩; rfl
 one := by rintro _ _ x vs ⟨rfl, h⟩ v hv; simp at hv; subst hv; exact h
 le := fun _ h => h
theorem V_cellv {M : PSet} {w : World} {v : Value} (h : v.oneCell' = true) : RT.cell.V M w v v := ⟨[v], ⟨rfl, h⟩, rfl⟩
theorem AllR.cells {α : Type} {A : RT α} (hA : A.n = 1) {M : PSet} {w : World} : ∀ {xs : List α} {C : List Value}, AllR A M w xs C → ∃ ys : List Value, AllR RT.cell M w ys C ∧ ys.length = xs.length
 |[], C, h => ⟨[], h, rfl⟩
 |x :: xs, C, h => by
  obtain ⟨vs, r, h1, h2, h3⟩ := h
  obtain ⟨ys, h4, h5⟩ := AllR.cells hA h3
  have hl := A.len h2
  match vs, hl, h1, h2 with
  |[v], _, h1, h2 => exact ⟨v :: ys, ⟨[v], r, h1, ⟨rfl, A.one h2 v (by simp)⟩, h4⟩, by simp [h5]⟩
  |[], hl, _, _ => simp at hl; omega
  |_ :: _ :: _, hl, _, _ => simp at hl; omega
theorem Own.cells {α : Type} {A : RT α} (hA : A.n = 1) {e : TypeId} {M : PSet} {w : World} {base : Nat} {v : Value} {xs : List α} (h : Own A e M w base v xs) : ∃ ys : List Value, Own RT.cell e M w base v ys ∧ ys.length = xs.length := by
 obtain ⟨⟨C, hr, ha⟩, hm⟩ := h
 obtain ⟨ys, h1, h2⟩ := ha.cells hA
 exact ⟨ys, ⟨⟨C, by rw [h2, show RT.cell.n = A.n from hA.symm]; exact hr, h1⟩, hm⟩, h2⟩
def OddJ (bl bn : Nat) (n : Int) (ls : List (List Po)) (B : Nat) (i : Nat) (M : PSet) (w : World) : Prop := ∃ vl, w.heap[bl]? = some (.cells #[vl] 188 (0, 0)) ∧ M bl ∧ B ≤ bl ∧ w.heap[bn]? = some (.cells #[.int .i64 n] 3 (0, 0)) ∧ M bn ∧ Own ((RT.li).ptr) 129 M w B vl ((ls.take i).map mkLi)
theorem OddJ.step0 {bl bn : Nat} {n : Int} {ls : List (List Po)} {B i : Nat} {M M' : PSet} {w w' : World} (h : OddJ bl bn n ls B i M w) (s : Step M w M' w' none') : OddJ bl bn n ls B i M' w' := by
 obtain ⟨vl, h1, h2, h3, h4, h5, h6⟩ := h
 exact ⟨vl, s.same0 h1, (s.mem _ (lt_of_get h1)).2 h2, h3, s.same0 h4, (s.mem _ (lt_of_get h4)).2 h5, h6.step0 s⟩
theorem odd_ok {M : PSet} {bl bn B i : Nat} {n : Int} {ls : List (List Po)} {x : List Po} {v0 : Value} (w0 : World) (hM : Lt M w0) (hB : B ≤ w0.heap.size) (hJ : OddJ bl bn n ls B i M w0) (hx : ls[i]? = some x) (hv : ((RT.po).sl).V M w0 x v0) (hr : Room x) (hil : i ≤ 1000000000) (hm : mayPo (-1) x = true) :
  Spec Tryz.prog 125 #[v0, .pointer (some ⟨bl, 0, none⟩), .pointer (some ⟨bn, 0, none⟩)] w0 (fun v w => ∃ M', Lt M' w ∧ v = .bool (badP n x) ∧ (badP n x = false → OddJ bl bn n ls B (i + 1) M' w) ∧ Step M w0 M' w (mine M B)) := by
 have hlen := V_sl_len hv
 obtain ⟨vl, gl, m_gl, hBl, gn, m_gn, ho⟩ := hJ
 have nln : bl ≠ bn := fun h => by rw [h, gn] at gl; simp at gl
 refine spec_of (args := [_, _, _]) (fn := Tryz.f125) Tryz.func125 rfl (n := 34) Tryz.ntmps125 ?_
 have S : Step M w0 M w0 (mine M B) := (Step.refl _ _).widen (fun _ h => h.elim) (fun _ h => h.2)
 refine T.seq ?_
 refine T.region ?_
 refine Rg.assign rfl rfl ?_
 refine Rg.nil ?_
 refine T.seq ?_
 refine T.region ?_
 refine Rg.move rfl rfl ?_
 refine Rg.call rfl rfl E126 (Make_spec hM hv hr.ps hr.by_ hr.ln hr.tot) (fun r1 w1 hc => ?_)
 obtain ⟨s1, hok, hno⟩ := hc
 obtain ⟨p, rfl, hp⟩ := hok hm --@step s1
 --@vf hp*
 have := lt_of_get gl
 replace m_gl := (s1.mem _ this).2 m_gl
 replace gl := s1.same0 gl
 have := lt_of_get gn
 replace m_gn := (s1.mem _ this).2 m_gn
 replace gn := s1.same0 gn
 replace hv := hv.le s1.le
 replace ho := ho.step0 s1
 replace hM := s1.lt hM
 have := S.size
 replace S := S.trans0 s1
 refine Rg.move rfl rfl ?_
 refine Rg.extract rfl rfl rfl ?_
 refine Rg.extract rfl rfl rfl ?_
 refine Rg.assign rfl rfl ?_
 refine Rg.assign rfl rfl ?_
 refine Rg.nil ?_
 refine T.seq ?_
 refine T.region ?_
 refine Rg.loadc Tryz.underlying188 rfl rfl rfl gl rfl ?_
 refine Rg.eqv (v' := vl) rfl ?_
 refine Rg.move rfl rfl ?_
 refine Rg.sl1 (A := ((RT.li).ptr)) (hn := by decide) (M := M) Tryz.underlying188 I129 (by decide) rfl rfl hM (V_ptr.2 hp) (.inr ⟨rfl, rfl⟩) (fun u2_2 w2_2 hu2_2 s2_2 => ?_)
 have := lt_of_get gl
 replace m_gl := (s2_2.mem _ this).2 m_gl
 replace gl := s2_2.same0 gl
 have := lt_of_get gn
 replace m_gn := (s2_2.mem _ this).2 m_gn
 replace gn := s2_2.same0 gn
 replace hv := hv.le s2_2.le
 replace hp := hp.le (by decide) s2_2.le
 replace ho := ho.step0 s2_2
 replace hM := s2_2.lt hM
 have := S.size
 replace S := S.trans0 s2_2
 refine Rg.append (M := M) (base := B) Tryz.underlying188 I129 rfl rfl rfl rfl ho hu2_2 (Le.refl _ _) (by simp; omega) (by simp; omega) (by have := S.size; omega) (fun u2_3 M2_3 w2_3 ho2_3 s2_3 => ?_)
 have := lt_of_get gl
 replace m_gl := (s2_3.mem _ this).2 m_gl
 replace gl := s2_3.keep gl (fun h => by first | exact ho.notIter gl h | exact ho.neT gl (by decide) h | (have := (ho.base _ h).1; omega))
 have := lt_of_get gn
 replace m_gn := (s2_3.mem _ this).2 m_gn
 replace gn := s2_3.keep gn (fun h => by first | exact ho.notIter gn h | exact ho.neT gn (by decide) h | (have := (ho.base _ h).1; omega))
 replace hv := hv.le s2_3.le
 replace hp := hp.le (by decide) s2_3.le
 replace hu2_2 := hu2_2.le s2_3.le
 replace hM := s2_3.lt hM
 have := S.size
 replace S := S.trans s2_3 (fun k hk h => ⟨(ho.base k h).1, (S.mem k hk).1 (ho.mut_ k h)⟩)
 replace ho := ho2_3
 refine Rg.storec (M := M2_3) I188 rfl rfl gl rfl (by obtain ⟨_, _, he, _⟩ := ho.isSlice; rw [he]; rfl) m_gl (fun w2_4 g2_4 s2_4 => ?_)
 change w2_4.heap[_]? = some (Obj.cells #[u2_3] _ _) at g2_4
 have := lt_of_get gl
 replace m_gl := (s2_4.mem _ this).2 m_gl
 have := lt_of_get gn
 replace m_gn := (s2_4.mem _ this).2 m_gn
 replace gn := s2_4.keep gn (fun hk => by have hk : _ = _ := hk; omega)
 replace hv := hv.le s2_4.le
 replace hp := hp.le (by decide) s2_4.le
 replace hu2_2 := hu2_2.le s2_4.le
 replace ho := ho.step s2_4 (fun c hc (h : c = bl) => ho.neT gl (by decide) (h ▸ hc))
 replace hM := s2_4.lt hM
 have := S.size
 replace S := S.trans s2_4 (fun k hk h => by have h : _ = _ := h; subst h; first | (exfalso; omega) | (show _ ≤ _; omega) | exact ⟨by omega, (S.mem _ hk).1 ((s2_4.mem _ (lt_of_get gl)).1 m_gl)⟩ | exact .inl rfl | exact .inr rfl | exact .inr (.inl rfl) | exact .inr (.inr rfl) | exact rfl)
 have gl_ := g2_4
 clear gl
 have gl := gl_
 clear gl_
 refine Rg.nil ?_
 refine T.seq ?_
 apply T.drawQ0 mixed rfl rfl
 intro wD3 sA3
 have sD3 := sA3 M2_3
 have := lt_of_get gl
 replace m_gl := (sD3.mem _ this).2 m_gl
 replace gl := sD3.same0 gl
 have := lt_of_get gn
 replace m_gn := (sD3.mem _ this).2 m_gn
 replace gn := sD3.same0 gn
 replace hv := hv.le sD3.le
 replace hp := hp.le (by decide) sD3.le
 replace hu2_2 := hu2_2.le sD3.le
 replace ho := ho.step0 sD3
 replace hM := sD3.lt hM
 have := S.size
 replace S := S.trans0 sD3
 refine Rg.move rfl rfl ?_
 refine Rg.nil ⟨rfl, rfl, rfl, ?_⟩
 refine Rg.ine rfl rfl rfl ?_
 refine Rg.nil ⟨rfl, rfl, rfl, ?_⟩
 refine Rg.move rfl rfl ?_
 refine Rg.nil ⟨rfl, rfl, rfl, ?_⟩
 refine Rg.gfalse (g := 18) rfl ((by decide)) ?_
 refine Rg.gyes rfl rfl ?_
 refine Rg.move rfl rfl ?_
 refine Rg.nil ⟨rfl, rfl, rfl, ?_⟩
 refine Rg.gyes rfl rfl ?_
 refine Rg.lensl Tryz.underlying107 rfl hv rfl ?_
 refine Rg.nil ⟨rfl, rfl, rfl, ?_⟩
 refine Rg.gyes rfl rfl ?_
 refine Rg.ieq rfl rfl rfl ?_
 refine Rg.nil ⟨rfl, rfl, rfl, ?_⟩
 refine Rg.pickf rfl rfl rfl ?_
 refine Rg.nil ⟨rfl, rfl, rfl, ?_⟩
 refine Rg.move rfl rfl ?_
 refine Rg.nil ⟨rfl, rfl, rfl, ?_⟩
 refine Rg.gsplitp (g := 23) rfl (fun g3_7 => ?_) (fun g3_7 => ?_)
 ·refine Rg.gno rfl rfl rfl rfl ?_
  refine Rg.nil ⟨rfl, rfl, rfl, ?_⟩
  refine Rg.gno rfl rfl rfl rfl ?_
  refine Rg.nil ⟨rfl, rfl, rfl, ?_⟩
  refine Rg.gno rfl rfl rfl rfl ?_
  refine Rg.nil ⟨rfl, rfl, rfl, ?_⟩
  refine Rg.gno rfl rfl rfl rfl ?_
  refine Rg.nil ⟨rfl, rfl, rfl, ?_⟩
  refine Rg.gno rfl rfl rfl rfl ?_
  refine Rg.nil ⟨rfl, rfl, rfl, ?_⟩
  refine Rg.gno rfl rfl rfl rfl ?_
  refine Rg.nil ⟨rfl, rfl, rfl, ?_⟩
  refine Rg.gno rfl rfl rfl rfl ?_
  refine Rg.nil ⟨rfl, rfl, rfl, ?_⟩
  refine Rg.gno rfl rfl rfl rfl ?_
  refine Rg.nil ⟨rfl, rfl, rfl, ?_⟩
  refine Rg.gno rfl rfl rfl rfl ?_
  refine Rg.nil ⟨rfl, rfl, rfl, ?_⟩
  refine Rg.pickt rfl rfl rfl ?_
  refine Rg.nil ⟨rfl, rfl, rfl, ?_⟩
  refine Rg.assign rfl rfl ?_
  refine Rg.nil ⟨rfl, rfl, rfl, ?_⟩
  refine QRg.nil ?_
  refine T.ret ?_
  first
  |(have hbt : badP n x = true := by
     have : x = [] := List.length_eq_zero_iff.1 (by omega)
     simp [badP, this]
    rw [hbt]; exact Kret1 rfl rfl ⟨_, hM, rfl, (fun h => by cases h), S⟩)
  |(have hne : x.isEmpty = false := by cases x with
     |nil => simp at g3_7
     |cons a t => rfl
    have hbv : badP n x = decide (n ≤ q.1) := by unfold badP; rw [hm, hne, lastD_at hq]; rfl
    rw [hbv]
    exact Kret1 rfl rfl ⟨_, hM, rfl, fun _ => ⟨_, gl, m_gl, hBl, gn, m_gn, by rw [List.take_add_one, hx, Option.toList_some, List.map_append]; exact ho⟩, S⟩)
 ·refine Rg.gyes rfl rfl ?_
  refine Rg.move rfl rfl ?_
  refine Rg.nil ⟨rfl, rfl, rfl, ?_⟩
  refine Rg.gyes rfl rfl ?_
  refine Rg.move rfl rfl ?_
  refine Rg.nil ⟨rfl, rfl, rfl, ?_⟩
  refine Rg.gyes rfl rfl ?_
  refine Rg.lensl Tryz.underlying107 rfl hv rfl ?_
  refine Rg.nil ⟨rfl, rfl, rfl, ?_⟩
  refine Rg.gyes rfl rfl ?_
  refine Rg.isub rfl rfl rfl (by omega) ?_
  refine Rg.nil ⟨rfl, rfl, rfl, ?_⟩
  refine Rg.gyes rfl rfl ?_
  obtain ⟨q, hq⟩ : ∃ q, x[x.length - 1]? = some q := ⟨_, List.getElem?_eq_getElem (by omega)⟩
  refine Rg.idx (M := M2_3) Tryz.underlying107 I153 rfl rfl rfl hv (Le.refl _ _) (by omega) (fun u3 a hg3 hu3 => ?_)
  obtain rfl : q = a := Option.some.inj (hq.symm.trans (by rw [show ((x.length : Int) - 1).toNat = x.length - 1 from by omega] at hg3; exact hg3)) --@ptr RT.po ;; (q.1, q.2)
  refine Rg.nil ⟨rfl, rfl, rfl, ?_⟩
  refine Rg.gyes rfl rfl ?_
  refine Rg.fieldAddr (M := M2_3) (A := RT.po) (B := RT.int .i64) Tryz.underlying153 rfl rfl I3 (by decide) (po0) rfl rfl (by decide) (by assumption) (by repeat (first | exact Le.refl _ _ | refine Le.trans (Step.le (by assumption)) ?_)) (fun u3_13 hu3_13 => ?_)
  refine Rg.nil ⟨rfl, rfl, rfl, ?_⟩
  refine Rg.gyes rfl rfl ?_
  refine Rg.loadi64 (M := M2_3) Tryz.underlying3 rfl rfl (by assumption) (by repeat (first | exact Le.refl _ _ | refine Le.trans (Step.le (by assumption)) ?_)) (fun in3_14 => ?_)
  refine Rg.eqv (v' := .int .i64 (q.1)) rfl ?_
  replace in3_14 : -9223372036854775808 ≤ (q.1 : Int) ∧ q.1 ≤ 9223372036854775807 := in3_14
  refine Rg.nil ⟨rfl, rfl, rfl, ?_⟩
  refine Rg.gyes rfl rfl ?_
  refine Rg.loadc Tryz.underlying3 rfl rfl rfl gn rfl ?_
  refine Rg.eqv (v' := .int .i64 n) rfl ?_
  refine Rg.nil ⟨rfl, rfl, rfl, ?_⟩
  refine Rg.gyes rfl rfl ?_
  refine Rg.ige rfl rfl rfl ?_
  refine Rg.nil ⟨rfl, rfl, rfl, ?_⟩
  refine Rg.pickf rfl rfl rfl ?_
  refine Rg.nil ⟨rfl, rfl, rfl, ?_⟩
  refine Rg.assign rfl rfl ?_
  refine Rg.nil ⟨rfl, rfl, rfl, ?_⟩
  refine QRg.nil ?_
  refine T.ret ?_
  first
  |(have hbt : badP n x = true := by
     have : x = [] := List.length_eq_zero_iff.1 (by omega)
     simp [badP, this]
    rw [hbt]; exact Kret1 rfl rfl ⟨_, hM, rfl, (fun h => by cases h), S⟩)
  |(have hne : x.isEmpty = false := by cases x with
     |nil => simp at g3_7
     |cons a t => rfl
    have hbv : badP n x = decide (n ≤ q.1) := by unfold badP; rw [hm, hne, lastD_at hq]; rfl
    rw [hbv]
    exact Kret1 rfl rfl ⟨_, hM, rfl, fun _ => ⟨_, gl, m_gl, hBl, gn, m_gn, by rw [List.take_add_one, hx, Option.toList_some, List.map_append]; exact ho⟩, S⟩)
theorem odd_bad {M : PSet} {bl bn B i : Nat} {n : Int} {ls : List (List Po)} {x : List Po} {v0 : Value} (w0 : World) (hM : Lt M w0) (hB : B ≤ w0.heap.size) (hJ : OddJ bl bn n ls B i M w0) (hx : ls[i]? = some x) (hv : ((RT.po).sl).V M w0 x v0) (hr : Room x) (hil : i ≤ 1000000000) (hm : mayPo (-1) x = false) :
  Spec Tryz.prog 125 #[v0, .pointer (some ⟨bl, 0, none⟩), .pointer (some ⟨bn, 0, none⟩)] w0 (fun v w => ∃ M', Lt M' w ∧ v = .bool (badP n x) ∧ (badP n x = false → OddJ bl bn n ls B (i + 1) M' w) ∧ Step M w0 M' w (mine M B)) := by
 have hlen := V_sl_len hv
 obtain ⟨vl, gl, m_gl, hBl, gn, m_gn, ho0⟩ := hJ
 have nln : bl ≠ bn := fun h => by rw [h, gn] at gl; simp at gl
 obtain ⟨ys, ho, hyl⟩ := ho0.cells rfl
 rw [List.length_map, List.length_take] at hyl
 clear ho0
 refine spec_of (args := [_, _, _]) (fn := Tryz.f125) Tryz.func125 rfl (n := 34) Tryz.ntmps125 ?_
 have S : Step M w0 M w0 (mine M B) := (Step.refl _ _).widen (fun _ h => h.elim) (fun _ h => h.2)
 refine T.seq ?_
 refine T.region ?_
 refine Rg.assign rfl rfl ?_
 refine Rg.nil ?_
 refine T.seq ?_
 refine T.region ?_
 refine Rg.move rfl rfl ?_
 refine Rg.call rfl rfl E126 (Make_spec hM hv hr.ps hr.by_ hr.ln hr.tot) (fun r1 w1 hc => ?_)
 obtain ⟨s1, hok, hno⟩ := hc
 obtain rfl := hno hm --@step s1
 have := lt_of_get gl
 replace m_gl := (s1.mem _ this).2 m_gl
 replace gl := s1.same0 gl
 have := lt_of_get gn
 replace m_gn := (s1.mem _ this).2 m_gn
 replace gn := s1.same0 gn
 replace hv := hv.le s1.le
 replace ho := ho.step0 s1
 replace hM := s1.lt hM
 have := S.size
 replace S := S.trans0 s1
 refine Rg.move rfl rfl ?_
 refine Rg.extract rfl rfl rfl ?_
 refine Rg.extract rfl rfl rfl ?_
 refine Rg.assign rfl rfl ?_
 refine Rg.assign rfl rfl ?_
 refine Rg.nil ?_
 refine T.seq ?_
 refine T.region ?_
 refine Rg.loadc Tryz.underlying188 rfl rfl rfl gl rfl ?_
 refine Rg.eqv (v' := vl) rfl ?_
 refine Rg.move rfl rfl ?_
 refine Rg.sl1 (A := RT.cell) (hn := by decide) (M := M) Tryz.underlying188 I129 (by decide) rfl rfl hM (V_cellv (v := .pointer none) rfl) (.inr ⟨rfl, rfl⟩) (fun u2_2 w2_2 hu2_2 s2_2 => ?_)
 have := lt_of_get gl
 replace m_gl := (s2_2.mem _ this).2 m_gl
 replace gl := s2_2.same0 gl
 have := lt_of_get gn
 replace m_gn := (s2_2.mem _ this).2 m_gn
 replace gn := s2_2.same0 gn
 replace hv := hv.le s2_2.le
 replace ho := ho.step0 s2_2
 replace hM := s2_2.lt hM
 have := S.size
 replace S := S.trans0 s2_2
 refine Rg.append (M := M) (base := B) Tryz.underlying188 I129 rfl rfl rfl rfl ho hu2_2 (Le.refl _ _) (by simp; omega) (by simp; omega) (by have := S.size; omega) (fun u2_3 M2_3 w2_3 ho2_3 s2_3 => ?_)
 have := lt_of_get gl
 replace m_gl := (s2_3.mem _ this).2 m_gl
 replace gl := s2_3.keep gl (fun h => by first | exact ho.notIter gl h | exact ho.neT gl (by decide) h | (have := (ho.base _ h).1; omega))
 have := lt_of_get gn
 replace m_gn := (s2_3.mem _ this).2 m_gn
 replace gn := s2_3.keep gn (fun h => by first | exact ho.notIter gn h | exact ho.neT gn (by decide) h | (have := (ho.base _ h).1; omega))
 replace hv := hv.le s2_3.le
 replace hu2_2 := hu2_2.le s2_3.le
 replace hM := s2_3.lt hM
 have := S.size
 replace S := S.trans s2_3 (fun k hk h => ⟨(ho.base k h).1, (S.mem k hk).1 (ho.mut_ k h)⟩)
 replace ho := ho2_3
 refine Rg.storec (M := M2_3) I188 rfl rfl gl rfl (by obtain ⟨_, _, he, _⟩ := ho.isSlice; rw [he]; rfl) m_gl (fun w2_4 g2_4 s2_4 => ?_)
 change w2_4.heap[_]? = some (Obj.cells #[u2_3] _ _) at g2_4
 have := lt_of_get gl
 replace m_gl := (s2_4.mem _ this).2 m_gl
 have := lt_of_get gn
 replace m_gn := (s2_4.mem _ this).2 m_gn
 replace gn := s2_4.keep gn (fun hk => by have hk : _ = _ := hk; omega)
 replace hv := hv.le s2_4.le
 replace hu2_2 := hu2_2.le s2_4.le
 replace ho := ho.step s2_4 (fun c hc (h : c = bl) => ho.neT gl (by decide) (h ▸ hc))
 replace hM := s2_4.lt hM
 have := S.size
 replace S := S.trans s2_4 (fun k hk h => by have h : _ = _ := h; subst h; first | (exfalso; omega) | (show _ ≤ _; omega) | exact ⟨by omega, (S.mem _ hk).1 ((s2_4.mem _ (lt_of_get gl)).1 m_gl)⟩ | exact .inl rfl | exact .inr rfl | exact .inr (.inl rfl) | exact .inr (.inr rfl) | exact rfl)
 have gl_ := g2_4
 clear gl
 have gl := gl_
 clear gl_
 refine Rg.nil ?_
 refine T.seq ?_
 apply T.drawQ0 mixed rfl rfl
 intro wD3 sA3
 have sD3 := sA3 M2_3
 have := lt_of_get gl
 replace m_gl := (sD3.mem _ this).2 m_gl
 replace gl := sD3.same0 gl
 have := lt_of_get gn
 replace m_gn := (sD3.mem _ this).2 m_gn
 replace gn := sD3.same0 gn
 replace hv := hv.le sD3.le
 replace hu2_2 := hu2_2.le sD3.le
 replace ho := ho.step0 sD3
 replace hM := sD3.lt hM
 have := S.size
 replace S := S.trans0 sD3
 refine Rg.move rfl rfl ?_
 refine Rg.nil ⟨rfl, rfl, rfl, ?_⟩
 refine Rg.ine rfl rfl rfl ?_
 refine Rg.nil ⟨rfl, rfl, rfl, ?_⟩
 refine Rg.move rfl rfl ?_
 refine Rg.nil ⟨rfl, rfl, rfl, ?_⟩
 refine Rg.gtrue (g := 18) rfl ((by decide)) ?_
 refine Rg.gno rfl rfl rfl rfl ?_
 refine Rg.nil ⟨rfl, rfl, rfl, ?_⟩
 refine Rg.gno rfl rfl rfl rfl ?_
 refine Rg.nil ⟨rfl, rfl, rfl, ?_⟩
 refine Rg.gno rfl rfl rfl rfl ?_
 refine Rg.nil ⟨rfl, rfl, rfl, ?_⟩
 refine Rg.pickt rfl rfl rfl ?_
 refine Rg.nil ⟨rfl, rfl, rfl, ?_⟩
 refine Rg.move rfl rfl ?_
 refine Rg.nil ⟨rfl, rfl, rfl, ?_⟩
 refine Rg.gno rfl rfl rfl rfl ?_
 refine Rg.nil ⟨rfl, rfl, rfl, ?_⟩
 refine Rg.gno rfl rfl rfl rfl ?_
 refine Rg.nil ⟨rfl, rfl, rfl, ?_⟩
 refine Rg.gno rfl rfl rfl rfl ?_
 refine Rg.nil ⟨rfl, rfl, rfl, ?_⟩
 refine Rg.gno rfl rfl rfl rfl ?_
 refine Rg.nil ⟨rfl, rfl, rfl, ?_⟩
 refine Rg.gno rfl rfl rfl rfl ?_
 refine Rg.nil ⟨rfl, rfl, rfl, ?_⟩
 refine Rg.gno rfl rfl rfl rfl ?_
 refine Rg.nil ⟨rfl, rfl, rfl, ?_⟩
 refine Rg.gno rfl rfl rfl rfl ?_
 refine Rg.nil ⟨rfl, rfl, rfl, ?_⟩
 refine Rg.gno rfl rfl rfl rfl ?_
 refine Rg.nil ⟨rfl, rfl, rfl, ?_⟩
 refine Rg.gno rfl rfl rfl rfl ?_
 refine Rg.nil ⟨rfl, rfl, rfl, ?_⟩
 refine Rg.pickt rfl rfl rfl ?_
 refine Rg.nil ⟨rfl, rfl, rfl, ?_⟩
 refine Rg.assign rfl rfl ?_
 refine Rg.nil ⟨rfl, rfl, rfl, ?_⟩
 refine QRg.nil ?_
 refine T.ret ?_
 have hbt : badP n x = true := by simp [badP, hm]
 rw [hbt]; exact Kret1 rfl rfl ⟨_, hM, rfl, (fun h => by cases h), S⟩
theorem odd_spec {M : PSet} {bl bn B i : Nat} {n : Int} {ls : List (List Po)} {x : List Po} {v0 : Value} (w0 : World) (hM : Lt M w0) (hB : B ≤ w0.heap.size) (hJ : OddJ bl bn n ls B i M w0) (hx : ls[i]? = some x) (hv : ((RT.po).sl).V M w0 x v0) (hr : Room x) (hil : i ≤ 1000000000) :
  Spec Tryz.prog 125 #[v0, .pointer (some ⟨bl, 0, none⟩), .pointer (some ⟨bn, 0, none⟩)] w0 (fun v w => ∃ M', Lt M' w ∧ v = .bool (badP n x) ∧ (badP n x = false → OddJ bl bn n ls B (i + 1) M' w) ∧ Step M w0 M' w (mine M B)) := by
 cases hm : mayPo (-1) x with
 |true => exact odd_ok w0 hM hB hJ hx hv hr hil hm
 |false => exact odd_bad w0 hM hB hJ hx hv hr hil hm
end Go.K
namespace Go.K
open Go.Proofs
namespace TKBldH
theorem I56 : TI Tryz.prog 56 (.slice none 0 0) 1 24 := by unfold TI; kernel_rfl
theorem I58 : TI Tryz.prog 58 (.agg #[(.slice none 0 0), (.slice none 0 0), (.slice none 0 0), (.slice none 0 0)]) 4 96 := by unfold TI; kernel_rfl
theorem I125 : TI Tryz.prog 125 (.agg #[(.slice none 0 0), (.slice none 0 0), (.pointer none)]) 3 56 := by unfold TI; kernel_rfl
theorem I188 : TI Tryz.prog 188 (.slice none 0 0) 1 24 := by unfold TI; kernel_rfl
theorem B125 : placesOf Tryz.prog 125 = [(0, 1), (1, 1), (2, 1)].map some := by kernel_rfl
theorem E63 : Enters Tryz.prog 63 := enters Tryz.func63 rfl (by decide)
theorem E76 : Enters Tryz.prog 76 := enters Tryz.func76 rfl (by decide)
theorem E124 : Enters Tryz.prog 124 := enters Tryz.func124 rfl (by decide)
theorem E125 : Enters Tryz.prog 125 := enters Tryz.func125 rfl (by decide)
theorem E127 : Enters Tryz.prog 127 := enters Tryz.func127 rfl (by decide)
theorem E128 : Enters Tryz.prog 128 := enters Tryz.func128 rfl (by decide)
end TKBldH
open TKBldH
set_option linter.unusedVariables false
set_option linter.unusedSimpArgs false
set_option maxRecDepth 10000
def okP (p : Pa) : Bool := decide (p.1.length = p.2.1.length) && rises (-1) p.2.1 && p.2.2.2.all (fun x => !badP (p.1.length : Int) x) && decide (p.2.2.1.length = p.2.2.2.length) && upB none p.2.2.1
def seP (p : Pa) : Se := (p.1, p.2.1, p.2.2.1, p.2.2.2.map mkLi)
structure RoomP (p : Pa) : Prop where
 a : p.1.length ≤ 1000000000
 b : p.2.1.length ≤ 1000000000
 c : p.2.2.1.length ≤ 1000000000
 d : p.2.2.2.length ≤ 1000000000
 e : ∀ x ∈ p.2.2.2, Room x
theorem make1_spec {M : PSet} {p : Pa} {v0 : Value} (w0 : World) (hM : Lt M w0) (hv : RT.pa.V M w0 p v0) (hR : RoomP p) :
  Spec Tryz.prog 76 #[v0] w0 (fun v w => Step M w0 M w none' ∧ (okP p = true → PtrTo RT.se M w v (seP p)) ∧ (okP p = false → v = .pointer none)) := by
 have hM0 := hM
 obtain ⟨hRa, hRb, hRc, hRd, hRe⟩ := hR
 refine spec_of (args := [_]) (fn := Tryz.f76) Tryz.func76 rfl (n := 45) Tryz.ntmps76 ?_
 have S : Step M w0 M w0 none' := (Step.refl _ _).widen (fun _ h => h.elim) (fun _ h => h.elim)
 refine T.seq ?_
 refine T.region ?_
 refine Rg.boxp (A := RT.pa) rfl rfl hM hv rfl (fun u0 w1 hu0 s0 _ => ?_) --@step s0
 --@vf hu0*
 --@ptr RT.pa ;; (p.1, p.2.1, p.2.2.1, p.2.2.2)
 replace hM := s0.lt hM
 have := S.size
 replace S := S.trans0 s0
 refine Rg.assign rfl rfl ?_
 refine Rg.nil ?_
 refine T.seq ?_
 refine T.region ?_
 refine Rg.fieldAddr (M := M) (A := RT.pa) (B := (RT.int .i64).sl) Tryz.underlying58 rfl rfl I32 (by decide) (pa0) rfl rfl (by decide) (by assumption) (by repeat (first | exact Le.refl _ _ | refine Le.trans (Step.le (by assumption)) ?_)) (fun u1_0 hu1_0 => ?_)
 refine Rg.load (M := M) Tryz.underlying32 rfl rfl rfl rfl rfl (by assumption) (by repeat (first | exact Le.refl _ _ | refine Le.trans (Step.le (by assumption)) ?_)) (fun v1_1 hv1_1 => ?_)
 replace hv1_1 : ((RT.int .i64).sl).V M _ p.1 v1_1 := hv1_1
 refine Rg.lensl Tryz.underlying32 rfl hv1_1 rfl ?_
 refine Rg.alloc M I3 rfl (fun b1_3 w1_3 p1_3 q1_3 g1_3 s1_3 => ?_)
 obtain ⟨M_1_3, eM_1_3⟩ : ∃ M', M' = ins M b1_3 := ⟨_, rfl⟩
 rw [← eM_1_3] at s1_3
 have m_g1_3 : M_1_3 b1_3 := by rw [eM_1_3]; exact .inl rfl
 change w1_3.heap[b1_3]? = some (.cells #[.int .i64 0] _ _) at g1_3
 replace hu0 := hu0.le (by decide) s1_3.le
 replace hM := s1_3.lt hM
 have := S.size
 replace S := S.trans0 s1_3
 refine Rg.storec (M := M_1_3) I3 rfl rfl g1_3 rfl (rfl) m_g1_3 (fun w1_4 g1_4 s1_4 => ?_)
 change w1_4.heap[_]? = some (Obj.cells #[.int .i64 (p.1.length : Int)] _ _) at g1_4
 have := lt_of_get g1_3
 replace m_g1_3 := (s1_4.mem _ this).2 m_g1_3
 replace hu0 := hu0.le (by decide) s1_4.le
 replace hM := s1_4.lt hM
 have := S.size
 replace S := S.trans s1_4 (fun k hk h => by have h : _ = _ := h; subst h; first | (exfalso; omega) | (show _ ≤ _; omega) | exact ⟨by omega, (S.mem _ hk).1 ((s1_4.mem _ (lt_of_get g1_3)).1 m_g1_3)⟩ | exact .inl rfl | exact .inr rfl | exact .inr (.inl rfl) | exact .inr (.inr rfl) | exact rfl)
 have g1_3_ := g1_4
 clear g1_3
 have g1_3 := g1_3_
 clear g1_3_
 refine Rg.nil ?_
 refine T.seq ?_
 refine T.seq ?_
 refine T.region ?_
 refine Rg.fieldAddr (M := M_1_3) (A := RT.pa) (B := (RT.int .i64).sl) Tryz.underlying58 rfl rfl I32 (by decide) (pa1) rfl rfl (by decide) (by assumption) (by repeat (first | exact Le.refl _ _ | refine Le.trans (Step.le (by assumption)) ?_)) (fun u2_0 hu2_0 => ?_)
 refine Rg.load (M := M_1_3) Tryz.underlying32 rfl rfl rfl rfl rfl (by assumption) (by repeat (first | exact Le.refl _ _ | refine Le.trans (Step.le (by assumption)) ?_)) (fun v2_1 hv2_1 => ?_)
 replace hv2_1 : ((RT.int .i64).sl).V M_1_3 _ p.2.1 v2_1 := hv2_1
 refine Rg.lensl Tryz.underlying32 rfl hv2_1 rfl ?_
 refine Rg.loadc Tryz.underlying3 rfl rfl rfl g1_3 rfl ?_
 refine Rg.eqv (v' := .int .i64 (p.1.length : Int)) rfl ?_
 refine Rg.ine rfl rfl rfl ?_
 refine Rg.move rfl rfl ?_
 refine Rg.gsplitp (g := 16) rfl (fun g2_5 => ?_) (fun g2_5 => ?_)
 ·refine Rg.gno rfl rfl rfl rfl ?_
  refine Rg.gno rfl rfl rfl rfl ?_
  refine Rg.gno rfl rfl rfl rfl ?_
  refine Rg.gno rfl rfl rfl rfl ?_
  refine Rg.pickt rfl rfl rfl ?_
  refine Rg.nil ?_
  refine T.ift rfl ?_
  refine T.seq ?_
  refine T.region ?_
  refine Rg.assign rfl rfl ?_
  refine Rg.nil ?_
  refine T.ret ?_
  have eb : okP p = false := by
   unfold okP
   first
   |(rw [decide_eq_false (show ¬ p.1.length = p.2.1.length by omega)]; simp; done)
   |(simp [c2]; done)
  exact Kret1 rfl rfl ⟨S.back, fun h => by (rw [eb] at h; cases h), fun _ => rfl⟩
 ·have e12 : p.1.length = p.2.1.length := by omega
  refine Rg.gyes rfl rfl ?_
  refine Rg.fieldAddr (M := M_1_3) (A := RT.pa) (B := (RT.int .i64).sl) Tryz.underlying58 rfl rfl I32 (by decide) (pa1) rfl rfl (by decide) (by assumption) (by repeat (first | exact Le.refl _ _ | refine Le.trans (Step.le (by assumption)) ?_)) (fun u2_6 hu2_6 => ?_)
  refine Rg.gyes rfl rfl ?_
  refine Rg.load (M := M_1_3) Tryz.underlying32 rfl rfl rfl rfl rfl (by assumption) (by repeat (first | exact Le.refl _ _ | refine Le.trans (Step.le (by assumption)) ?_)) (fun v2_7 hv2_7 => ?_)
  replace hv2_7 : ((RT.int .i64).sl).V M_1_3 _ p.2.1 v2_7 := hv2_7
  refine Rg.gyes rfl rfl ?_
  refine Rg.call rfl rfl E124 (rise_spec _ hv2_7) (fun r wc hc => ?_)
  obtain ⟨rfl, rfl⟩ := hc
  refine Rg.gyes rfl rfl ?_
  refine Rg.not rfl rfl ?_
  refine Rg.eqv (v' := .bool (decide (¬ rises (-1) p.2.1 = true))) (by simp) ?_
  refine Rg.pickf rfl rfl rfl ?_
  refine Rg.nil ?_
  refine T.ifp rfl (fun c2 => ?_) (fun c2 => ?_)
  ·refine T.seq ?_
   refine T.region ?_
   refine Rg.assign rfl rfl ?_
   refine Rg.nil ?_
   refine T.ret ?_
   have eb : okP p = false := by
    unfold okP
    first
    |(rw [decide_eq_false (show ¬ p.1.length = p.2.1.length by omega)]; simp; done)
    |(simp [c2]; done)
   exact Kret1 rfl rfl ⟨S.back, fun h => by (rw [eb] at h; cases h), fun _ => rfl⟩
  ·have er : rises (-1) p.2.1 = true := Decidable.not_not.1 c2
   refine T.skip ?_
   refine T.seq ?_
   refine T.region ?_
   refine Rg.alloc M_1_3 I188 rfl (fun b4_0 w4_0 p4_0 q4_0 g4_0 s4_0 => ?_)
   obtain ⟨M_4_0, eM_4_0⟩ : ∃ M', M' = ins M_1_3 b4_0 := ⟨_, rfl⟩
   rw [← eM_4_0] at s4_0
   have m_g4_0 : M_4_0 b4_0 := by rw [eM_4_0]; exact .inl rfl
   change w4_0.heap[b4_0]? = some (.cells #[.slice none 0 0] _ _) at g4_0
   have := lt_of_get g1_3
   replace m_g1_3 := (s4_0.mem _ this).2 m_g1_3
   replace g1_3 := s4_0.same0 g1_3
   replace hu0 := hu0.le (by decide) s4_0.le
   replace hM := s4_0.lt hM
   have := S.size
   replace S := S.trans0 s4_0
   refine Rg.nil ?_
   refine T.seq ?_
   refine T.region ?_
   refine Rg.makeFunc (xs := []) (ys := [.tmp 4, .tmp 3]) rfl rfl rfl ?_
   refine Rg.assign rfl rfl ?_
   refine Rg.nil ?_
   refine T.seq ?_
   refine T.seq ?_
   refine T.region ?_
   refine Rg.fieldAddr (M := M_4_0) (A := RT.pa) (B := ((RT.po).sl).sl) Tryz.underlying58 rfl rfl I56 (by decide) (pa3) rfl rfl (by decide) (by assumption) (by repeat (first | exact Le.refl _ _ | refine Le.trans (Step.le (by assumption)) ?_)) (fun u6_0 hu6_0 => ?_)
   refine Rg.load (M := M_4_0) Tryz.underlying56 rfl rfl rfl rfl rfl (by assumption) (by repeat (first | exact Le.refl _ _ | refine Le.trans (Step.le (by assumption)) ?_)) (fun v6_1 hv6_1 => ?_)
   replace hv6_1 : (((RT.po).sl).sl).V M_4_0 _ p.2.2.2 v6_1 := hv6_1
   refine Rg.move rfl rfl ?_
   refine Rg.call rfl rfl E127 (contains_spec (cap := [.pointer (some ⟨b4_0, 0, none⟩), .pointer (some ⟨b1_3, 0, none⟩)]) (B := w0.heap.size) (J := OddJ b4_0 b1_3 (p.1.length : Int) p.2.2.2 w0.heap.size) (bad := badP (p.1.length : Int)) _ hM hv6_1 E125 ⟨_, g4_0, m_g4_0, by omega, g1_3, m_g1_3, Own.nil _ _ _ _ _⟩ (fun i M w M' w' h s => h.step0 s) (fun i M w x vx hJ hM hx hvx => odd_spec w hM (by obtain ⟨_, h1, _, h2, _⟩ := hJ; have := lt_of_get h1; omega) hJ hx hvx (hRe x (List.mem_of_getElem? hx)) (by have := (List.getElem?_eq_some_iff.1 hx).1; omega))) (fun r6 w6 hc => ?_)
   obtain ⟨M6, k6, rfl, hk6, hM6, s6, hk7, hk8⟩ := hc
   replace hu0 := hu0.le (by decide) s6.le
   replace S := S.transOwn s6 (Nat.le_refl _)
   refine Rg.nil ?_
   refine T.ifp rfl (fun c6 => ?_) (fun c6 => ?_)
   ·obtain ⟨x6, hx6, hb6⟩ := hk8 c6
    have eb : okP p = false := by
     unfold okP
     have : p.2.2.2.all (fun x => !badP (p.1.length : Int) x) = false := List.all_eq_false.2 ⟨x6, hx6, by simp [hb6]⟩
     simp [this]
    refine T.seq ?_
    refine T.region ?_
    refine Rg.assign rfl rfl ?_
    refine Rg.nil ?_
    refine T.ret ?_
    exact Kret1 rfl rfl ⟨S.back, fun h => by (rw [eb] at h; cases h), fun _ => rfl⟩
   ·refine T.skip ?_
    refine T.seq ?_
    refine T.region ?_
    obtain ⟨hb6, ⟨vl, gl, _, _, _, _, hol⟩⟩ := hk7 (by omega)
    rw [List.take_of_length_le (Nat.le_refl _)] at hol
    have hvl : (((RT.li).ptr).sl).V M w6 (p.2.2.2.map mkLi) vl := hol.close hM0 S (by simp; omega)
    replace hu0 : PtrTo RT.pa M w6 u0 p := hu0.le (by decide) (Le.close hM0 S)
    replace S := S.back
    replace hM := S.lt hM0
    refine Rg.fieldAddr (M := M) (A := RT.pa) (B := RT.str.sl) Tryz.underlying58 rfl rfl I55 (by decide) pa2 rfl rfl (by decide) hu0 (Le.refl _ _) (fun u8_0 hu8_0 => ?_) --@ptr RT.str.sl ;; p.2.2.1
    --@M M
    --@drop g1_3 g4_0
    --@vf hvl
    --@fact2 gl ;; @s.same0 gl ;; sorry
    refine Rg.load (M := M) Tryz.underlying55 rfl rfl rfl rfl rfl (by assumption) (by repeat (first | exact Le.refl _ _ | refine Le.trans (Step.le (by assumption)) ?_)) (fun v8_1 hv8_1 => ?_)
    replace hv8_1 : (RT.str.sl).V M _ p.2.2.1 v8_1 := hv8_1
    refine Rg.loadc Tryz.underlying188 rfl rfl rfl gl rfl ?_
    refine Rg.eqv (v' := vl) rfl ?_
    refine Rg.call rfl rfl E128 (dmake_spec _ hM hv8_1 hvl (by omega) (by simp; omega)) (fun r8 w8 hc => ?_)
    obtain ⟨pd, rfl, hpd, s8⟩ := hc --@step s8
    replace hu0 := hu0.le (by decide) s8.le
    replace hvl := hvl.le s8.le
    replace gl := s8.same0 gl
    replace hM := s8.lt hM
    have := S.size
    replace S := S.trans0 s8
    refine Rg.move rfl rfl ?_
    refine Rg.extract rfl rfl rfl ?_
    refine Rg.extract rfl rfl rfl ?_
    refine Rg.assign rfl rfl ?_
    refine Rg.assign rfl rfl ?_
    refine Rg.nil ?_
    refine T.seq ?_
    refine T.seq ?_
    refine T.region ?_
    refine Rg.move rfl rfl ?_
    refine Rg.ine rfl rfl rfl ?_
    refine Rg.nil ?_
    refine T.ifp rfl (fun c9 => ?_) (fun c9 => ?_)
    ·have eb : okP p = false := by
      by_cases h : okP p = true
      ·unfold okP at h
       simp only [Bool.and_eq_true, decide_eq_true_eq] at h
       exact absurd (by rw [if_pos ⟨by simp [h.1.2], h.2⟩]) c9
      ·simpa using h
     refine T.seq ?_
     refine T.region ?_
     refine Rg.assign rfl rfl ?_
     refine Rg.nil ?_
     refine T.ret ?_
     exact Kret1 rfl rfl ⟨S.back, fun h => by (rw [eb] at h; cases h), fun _ => rfl⟩
    ·have e9 : (p.2.2.1.length = (p.2.2.2.map mkLi).length ∧ upB none p.2.2.1 = true) := by
      by_cases h : (p.2.2.1.length = (p.2.2.2.map mkLi).length ∧ upB none p.2.2.1 = true)
      ·exact h
      ·exact absurd (by rw [if_neg h]; decide) c9
     replace hpd := hpd e9.1 e9.2
     refine T.skip ?_
     refine T.seq ?_
     apply T.drawP [0, 1, 3, 4, 6, 2, 5, 7, 8, 9] 5 [2, 3, 4] 2 none' mixed
     ·simp +decide only [ren, renO, List.map_cons, List.map_nil, List.getD_cons_zero, List.getD_cons_succ, List.map_toArray, Option.map_some, Option.map_none, List.idxOf_cons, cond_true, cond_false, Nat.reduceBEq, Nat.reduceAdd, beq_self_eq_true]; rfl
     ·rfl
     ·rfl
     ·rfl
     ·rfl
     ·rfl
     ·rfl
     intro wD11 sA11
     have sD11 := sA11 M
     replace hu0 := hu0.le (by decide) sD11.le
     replace hvl := hvl.le sD11.le
     replace gl := sD11.same0 gl
     replace hM := sD11.lt hM
     have := S.size
     replace S := S.trans0 sD11
     refine Rg.fieldAddr (M := M) (A := RT.pa) (B := (RT.int .i64).sl) Tryz.underlying58 rfl rfl I32 (by decide) (pa0) rfl rfl (by decide) (by assumption) (by repeat (first | exact Le.refl _ _ | refine Le.trans (Step.le (by assumption)) ?_)) (fun u11_0 hu11_0 => ?_)
     refine Rg.nil ⟨rfl, rfl, rfl, ?_⟩
     refine Rg.load (M := M) Tryz.underlying32 rfl rfl rfl rfl rfl (by assumption) (by repeat (first | exact Le.refl _ _ | refine Le.trans (Step.le (by assumption)) ?_)) (fun v11_1 hv11_1 => ?_)
     replace hv11_1 : ((RT.int .i64).sl).V M _ p.1 v11_1 := hv11_1
     refine Rg.nil ⟨rfl, rfl, rfl, ?_⟩
     refine Rg.fieldAddr (M := M) (A := RT.pa) (B := (RT.int .i64).sl) Tryz.underlying58 rfl rfl I32 (by decide) (pa1) rfl rfl (by decide) (by assumption) (by repeat (first | exact Le.refl _ _ | refine Le.trans (Step.le (by assumption)) ?_)) (fun u11_2 hu11_2 => ?_)
     refine Rg.nil ⟨rfl, rfl, rfl, ?_⟩
     refine Rg.load (M := M) Tryz.underlying32 rfl rfl rfl rfl rfl (by assumption) (by repeat (first | exact Le.refl _ _ | refine Le.trans (Step.le (by assumption)) ?_)) (fun v11_3 hv11_3 => ?_)
     replace hv11_3 : ((RT.int .i64).sl).V M _ p.2.1 v11_3 := hv11_3
     refine Rg.nil ⟨rfl, rfl, rfl, ?_⟩
     refine Rg.move rfl rfl ?_
     refine Rg.nil ⟨rfl, rfl, rfl, ?_⟩
     refine QRg.nil ?_
     obtain ⟨bb, oo, cs, ee, fr, rfl, hcell, _⟩ := hu11_2.float
     refine ⟨Floats.all ⟨FloatOk.field Tryz.underlying58 rfl I32 (by decide), ⟨FloatOk.load rfl hcell (fun h => h), ⟨FloatOk.move, trivial⟩⟩⟩, ?_⟩
     have kp := Keep.refl none' wD11
     refine Rg.call rfl rfl E63 (cloneInt hM hv11_1 (by omega)) (fun v5 w5 hc => ?_)
     obtain ⟨hv5, s5⟩ := hc
     replace hv11_3 := hv11_3.le s5.le
     replace hpd := (hpd.le (by decide) sD11.le).le (by decide) s5.le
     --@step s5
     --@vf hv5 hv11_3 hpd*
     replace hu0 := hu0.le (by decide) s5.le
     replace hvl := hvl.le s5.le
     replace gl := s5.same0 gl
     replace hM := s5.lt hM
     have := S.size
     replace S := S.trans0 s5
     refine (fun (kp : Keep _ _ _) => Rg.nil ⟨rfl, rfl, fun _ => kp, ?_⟩) (by first | exact kp | exact kp.go0 (by assumption) | exact kp.goN (by assumption) | exact kp.go (by assumption) (fun _ _ h => by first | exact h | exact h.elim))
     refine Rg.call rfl rfl E63 (cloneInt hM hv11_3 (by omega)) (fun v6 w6' hc => ?_)
     obtain ⟨hv6, s6'⟩ := hc --@step s6'
     --@vf hv6
     replace hu0 := hu0.le (by decide) s6'.le
     replace hvl := hvl.le s6'.le
     replace hv5 := hv5.le s6'.le
     replace hv11_3 := hv11_3.le s6'.le
     replace hpd := hpd.le (by decide) s6'.le
     replace gl := s6'.same0 gl
     replace hM := s6'.lt hM
     have := S.size
     replace S := S.trans0 s6'
     refine (fun (kp : Keep _ _ _) => Rg.nil ⟨rfl, rfl, fun _ => kp, ?_⟩) (by first | exact kp | exact kp.go0 (by assumption) | exact kp.goN (by assumption) | exact kp.go (by assumption) (fun _ _ h => by first | exact h | exact h.elim))
     refine Rg.build (places := [(0, 1), (1, 1), (2, 1)]) Tryz.underlying125 I125 B125 rfl ⟨_, _, rfl, rfl, _, _, rfl, rfl, _, _, rfl, rfl, rfl⟩ (out := [_, _, _]) ⟨0, [_], rfl, V_cells hv5, by simp [Value.cells], 1, [_], rfl, V_cells hv6, by simp [Value.cells], 2, [_], rfl, ptr_cells hpd, by simp [Value.cells], rfl⟩ ?_
     refine Rg.nil ⟨rfl, rfl, fun h => absurd rfl h, ?_⟩
     refine Rg.boxp (A := RT.se) (a := seP p) rfl rfl hM (V_se (x := seP p) hv5 hv6 hpd) rfl (fun u8 w8' hu8 s8' _ => ?_) --@step s8'
     replace hu0 := hu0.le (by decide) s8'.le
     replace hvl := hvl.le s8'.le
     replace hv5 := hv5.le s8'.le
     replace hv11_3 := hv11_3.le s8'.le
     replace hpd := hpd.le (by decide) s8'.le
     replace hv6 := hv6.le s8'.le
     replace gl := s8'.same0 gl
     replace hM := s8'.lt hM
     have := S.size
     replace S := S.trans0 s8'
     refine Rg.nil ⟨rfl, rfl, fun h => absurd rfl h, ?_⟩
     refine Rg.assign rfl rfl ?_
     refine Rg.nil ⟨rfl, rfl, fun h => absurd rfl h, ?_⟩
     refine TRg.nil ?_
     refine T.ret ?_
     have eb : okP p = true := by
      unfold okP
      rw [decide_eq_true e12, er, e9.2, decide_eq_true (by simpa using e9.1), List.all_eq_true.2 (fun x hx => by simp [hb6 x hx])]; rfl
     exact Kret1 rfl rfl ⟨S.back, fun _ => hu8, fun h => by (rw [eb] at h; cases h)⟩
theorem smake_spec {M : PSet} {p : Pa} {v0 : Value} (w0 : World) (hM : Lt M w0) (hv : RT.pa.V M w0 p v0) (hR : RoomP p) :
  Spec Tryz.prog 27 #[v0] w0 (fun v w => Step M w0 M w none' ∧ (okP p = true → ∃ s, v = .tuple #[s, .int .i64 0] ∧ PtrTo RT.se M w s (seP p)) ∧ (okP p = false → v = .tuple #[.pointer none, .int .i64 1])) := by
 refine spec_of (args := [_]) (fn := Tryz.f27) Tryz.func27 rfl (n := 10) Tryz.ntmps27 ?_
 have S : Step M w0 M w0 none' := (Step.refl _ _).widen (fun _ h => h.elim) (fun _ h => h.elim)
 refine T.seq ?_
 refine T.region ?_
 refine Rg.boxp (A := RT.pa) rfl rfl hM hv rfl (fun u0 w1 hu0 s0 _ => ?_) --@step s0
 --@vf hu0*
 --@ptr RT.pa ;; (p.1, p.2.1, p.2.2.1, p.2.2.2)
 replace hM := s0.lt hM
 have := S.size
 replace S := S.trans0 s0
 refine Rg.assign rfl rfl ?_
 refine Rg.assign rfl rfl ?_
 refine Rg.nil ?_
 refine T.seq ?_
 refine T.region ?_
 refine Rg.loadagg (M := M) (A := RT.pa) Tryz.underlying58 rfl I58 (by decide) rfl rfl rfl hu0 (Le.refl _ _) (fun v1 hv1 => ?_)
 refine Rg.call rfl rfl E76 (make1_spec _ hM hv1 hR) (fun r1 w2 hc => ?_)
 obtain ⟨s2, hok, hno⟩ := hc --@step s2
 obtain ⟨o1, ho1⟩ : ∃ o, r1 = .pointer o := by
  cases h : okP p with
  |true => obtain ⟨b, o, _, h1, _⟩ := hok h; exact ⟨_, h1⟩
  |false => exact ⟨none, hno h⟩
 subst ho1
 replace hu0 := hu0.le (by decide) s2.le
 replace hM := s2.lt hM
 have := S.size
 replace S := S.trans0 s2
 refine Rg.assign rfl rfl ?_
 refine Rg.nil ?_
 refine T.seq ?_
 refine T.seq ?_
 refine T.region ?_
 refine Rg.move rfl rfl ?_
 refine Rg.ptreq Tryz.underlying25 rfl rfl rfl ?_
 refine Rg.nil ?_
 refine T.ifp rfl (fun c2 => ?_) (fun c2 => ?_)
 ·refine T.seq ?_
  refine T.region ?_
  refine Rg.assign rfl rfl ?_
  refine Rg.assign rfl rfl ?_
  refine Rg.nil ?_
  refine T.ret ?_
  have eb : okP p = false := by
   by_cases h : okP p = true
   ·obtain ⟨b, o, _, h1, _⟩ := hok h; rw [c2] at h1; cases h1
   ·simpa using h
  exact Kret2 rfl rfl rfl ⟨S.back, fun h => by (rw [eb] at h; cases h), fun _ => rfl⟩
 ·refine T.skip ?_
  refine T.seq ?_
  refine T.region ?_
  refine Rg.move rfl rfl ?_
  refine Rg.assign rfl rfl ?_
  refine Rg.assign rfl rfl ?_
  refine Rg.nil ?_
  refine T.ret ?_
  have eb : okP p = true := by
   by_cases h : okP p = true
   ·exact h
   ·have := hno (by simpa using h); simp at this; exact absurd this c2
  exact Kret2 rfl rfl rfl ⟨S.back, fun _ => ⟨_, rfl, hok eb⟩, fun h => by (rw [eb] at h; cases h)⟩
end Go.K
namespace Go.K
set_option linter.unusedVariables false
set_option linter.unusedSimpArgs false
section
variable {P : Program} {r : Option Nat} {n : Nat} {L : Sl} {ds : List Deferred} {w : World} {K : Kt} {M : PSet} {F : List (Nat × PSet)}
def tailsOk (l : List Oper) (m q d : Nat) : Bool :=
 Nat.blt q m && behindF l [q] m ((l[m]?.map preds).getD []) && chainB l (m + 1) &&
 ((List.range' m (l.length - m)).all fun j => match l[j]? with
  |some o => tailOp o.op && (!(asks l o).contains d || (preds o).contains q)
  |none => true)
theorem tailsOk_get {l : List Oper} {m q d : Nat} (h : tailsOk l m q d = true) : q < m ∧ behindF l [q] m ((l[m]?.map preds).getD []) = true ∧ chainB l (m + 1) = true ∧ ∀ j o, m ≤ j → l[j]? = some o → tailOp o.op = true ∧ (d ∈ asks l o → q ∈ preds o) := by
 simp only [tailsOk, Bool.and_eq_true, Nat.blt_eq] at h
 obtain ⟨⟨⟨h1, h2⟩, h3⟩, h4⟩ := h
 refine ⟨h1, h2, h3, fun j o hj ho => ?_⟩
 have hlt := (List.getElem?_eq_some_iff.1 ho).1
 have := List.all_eq_true.1 h4 j (List.mem_range'_1.2 ⟨hj, by omega⟩)
 rw [ho] at this
 simp only [Bool.and_eq_true, Bool.or_eq_true, Bool.not_eq_true', List.contains_iff_mem] at this
 refine ⟨this.1, fun hd => ?_⟩
 rcases this.2 with h | h
 ·rw [← Bool.not_eq_true, List.contains_iff_mem] at h; exact absurd hd h
 ·exact h
structure TJ (P : Program) (r : Option Nat) (n : Nat) (l : List Oper) (m q d : Nat) (c : Value) (L : Sl) (K : Kt) (ds : List Deferred) (D : Nat → Prop) (a : Act) (w : World) (p : Nat) (ac : Act) (Lp : Sl) (wq : World) : Prop where
 p0 : m ≤ p
 p1 : p ≤ l.length
 dt : ∀ i, i < l.length → i ≠ q → (D i ↔ i < p)
 ag : Agree n ac Lp ds
 tr : TRg P r n l.toArray none' wq K 0 (l.drop p) Lp ds w
 yes : D q → a = ac
 no : ¬ D q → ac = a.put (some d) c ∧ ∀ t u, lk (baseL l q L) t = some u → a.tmps[t]? = some u
theorem put_comm (a : Act) {d : Nat} {e : Option Nat} (h : e ≠ some d) (c v : Value) : (a.put (some d) c).put e v = (a.put e v).put (some d) c := by
 cases e with
 |none => rfl
 |some e =>
  have hne : e ≠ d := fun h' => h (by rw [h'])
  simp only [Act.put]
  congr 1
  apply Array.ext_getElem?
  intro i
  simp only [Array.getElem?_setIfInBounds, Array.size_setIfInBounds]
  by_cases h1 : e = i <;> by_cases h2 : d = i <;> simp_all
theorem put_other (a : Act) {d t : Nat} (c : Value) (h : t ≠ d) : (a.put (some d) c).tmps[t]? = a.tmps[t]? := by rw [put_tmps, if_neg (fun e => h (by injection e with e; exact e.symm))]
theorem TJ.next {l : List Oper} {m q d : Nat} {c : Value} (hlex : lexOk l 0 = true) (hok : tailsOk l m q d = true) {oq : Oper} (hq : l[q]? = some oq) (hqd : oq.dst = some d) (hqq : quietOp oq.op = true) (hqg : oq.guard = none)
  (hrun : ∀ (ρ : Operand → Value) w, (∀ x u, ev (baseL l q L) x = some u → ρ x = u) → (execOp ρ oq).run P w = .ok (.value c) w)
  {Q : Exit → Act → World → Prop} {D : Nat → Prop} {a : Act} {w : World} {j : Nat} {o : Oper} {rest : List Nat} (ho : l[j]? = some o) (hnD : ¬ D j) (hp : ∀ k ∈ preds o, D k) {p : Nat} {ac : Act} {Lp : Sl} {wq : World} (hi : TJ P r n l m q d c L K ds D a w p ac Lp wq)
  (hk : ∀ a' w', (∃ p ac Lp wq, TJ P r n l m q d c L K ds (fun i => i = j ∨ D i) a' w' p ac Lp wq) → wpOpsIn (FW r) 0 P l.toArray Q rest a' w') : wpOpsIn (FW r) 0 P l.toArray Q (j :: rest) a w := by
 obtain ⟨hqm, _, hch, htl⟩ := tailsOk_get hok
 have hjl := (List.getElem?_eq_some_iff.1 ho).1
 by_cases hjq : j = q
 ·subst hjq
  rw [hq] at ho; cases ho
  obtain ⟨hac, hbase⟩ := hi.no hnD
  refine One.run (by simpa using hq) hqq (v := c) ?_ (hk _ _ ⟨p, ac, Lp, wq, hi.p0, hi.p1, fun i h1 h2 => ⟨fun h => (hi.dt i h1 h2).1 (h.resolve_left h2), fun h => .inr ((hi.dt i h1 h2).2 h)⟩, hi.ag, hi.tr, fun _ => by rw [hac, hqd], fun h => absurd (.inl rfl) h⟩)
  unfold One
  rw [if_pos (by simp [Region.wanted, hqg])]
  refine hrun a.eval w fun x u hx => ?_
  cases x with
  |tmp t => simp only [ev] at hx; simp [Act.eval, hbase t u hx]
  |const v => simp only [ev] at hx; cases hx; rfl
  |global g => simp only [ev] at hx; cases hx; rfl
  |func f => simp only [ev] at hx; cases hx; rfl
 ·have hjp : j = p := by
   have h1 : p ≤ j := by
    rcases Nat.lt_or_ge j p with h | h
    ·exact absurd ((hi.dt j hjl hjq).2 h) hnD
    ·exact h
   have := hi.p0
   rcases Nat.lt_or_ge m j with h | h
   ·have h2 := hp _ (chainB_get hch (j := j) (by omega) ho)
    have := (hi.dt (j - 1) (by omega) (by omega)).1 h2
    omega
   ·omega
  subst hjp
  obtain ⟨hto, hta⟩ := htl j o hi.p0 ho
  have hdst : o.dst ≠ some d := fun h => hjq (dst_unique hlex ho hq h hqd)
  have hag : ∀ t ∈ asks l o, a.tmps[t]? = ac.tmps[t]? := fun t ht => by
   by_cases hD : D q
   ·rw [hi.yes hD]
   ·rw [(hi.no hD).1, put_other]
    rintro rfl
    exact hD (hp q (hta ht))
  obtain ⟨hev, hwt⟩ := asks_eval hag
  have hdf : a.defers = ac.defers := by
   by_cases hD : D q
   ·rw [hi.yes hD]
   ·rw [(hi.no hD).1, put_defers]
  have htr := hi.tr
  rw [List.drop_eq_getElem_cons hjl, (List.getElem?_eq_some_iff.1 ho).2] at htr
  have h1 := Rg.run htr ac hi.ag
  refine one_move (by simpa using ho) hto hev hwt hdf h1 (fun e a w ⟨_, _, _, he, _⟩ => he) (fun v w' ⟨L', ds', hA, _, hds, _, htr'⟩ => ?_) (fun d' w' ⟨L', ds', hA, _, hds, _⟩ => ?_)
  ·rw [hds] at hA
   refine hk _ _ ⟨j + 1, ac.put o.dst v, L', wq, by have := hi.p0; omega, by omega, fun i h3 h4 => ?_, hA, htr', fun h => ?_, fun h => ?_⟩
   ·constructor
    ·rintro (h | h)
     ·omega
     ·have := (hi.dt i h3 h4).1 h; omega
    ·intro h
     rcases Nat.eq_or_lt_of_le (show i ≤ j by omega) with h5 | h5
     ·exact .inl h5
     ·exact .inr ((hi.dt i h3 h4).2 h5)
   ·rw [hi.yes (h.resolve_left (fun e => hjq e.symm))]
   ·have hD : ¬ D q := fun h' => h (.inr h')
    obtain ⟨hac, hbase⟩ := hi.no hD
    refine ⟨by rw [hac, put_comm a hdst], fun t u ht => ?_⟩
    obtain ⟨h3, h4⟩ := lk_filter (f := keepB l q) ht
    rw [put_tmps, if_neg, hbase t u ht]
    intro e
    simp only [keepB, List.all_eq_true] at h3
    have := h3 o (List.mem_of_getElem? ho)
    simp only [e, beq_self_eq_true, Bool.not_true, Bool.false_or, List.contains_iff_mem] at this
    exact hD (hp q this)
  ·have h3 := hA.defers
   rw [put_defers, hds] at h3
   have h4 := congrArg List.length h3
   rw [hi.ag.defers] at h4
   simp at h4
theorem DrawInv.tailed {l : List Oper} {wd : World} (m q d : Nat) (c : Value) {oq : Oper} (F : List (Nat × PSet)) (S : List (Asr M)) (hSm : S.length = m) (hml : Nat.blt m l.length = true) (hlex : lexOk l 0 = true) (hok : tailsOk l m q d = true)
  (hq : l[q]? = some oq) (hqd : oq.dst = some d) (hqq : quietOp oq.op = true) (hqg : oq.guard = none) (hS : S[q]? = some (Asr.eq c)) (hrun : ∀ (ρ : Operand → Value) w, (∀ x u, ev (baseL l q L) x = some u → ρ x = u) → (execOp ρ oq).run P w = .ok (.value c) w)
  (hEM : ∀ p ∈ F, ∀ b, p.2 b → M b) (hFq : ∀ p ∈ F, p.1 ≠ q) (hUk : StOk F l S) (hob : OblsS P r n F wd l S ds L l S 0)
  (hend : ∀ w', Step M wd M w' (unions (F.map (·.2))) → EndP w' (fun acc => TRg P r n l.toArray none' w' K 0 (l.drop m) (acc ++ baseL l l.length L) ds w') l S []) : DrawInv P r n l L ds wd K := by
 intro a0 ha
 obtain ⟨hqm, hbeh, hch, htl⟩ := tailsOk_get hok
 have hmlt : m < l.length := by simpa [Nat.blt_eq] using hml
 have start : ∀ (D : Nat → Prop) a w, (∀ i, i < m → i ≠ q → D i) → (∀ i, m ≤ i → i < l.length → ¬ D i) → (∀ i o, l[i]? = some o → D i → ∀ k ∈ preds o, D k) → Inv F S l wd L ds n (fun i => D i ∧ i < l.length) a w → ∃ p ac Lp wq, TJ P r n l m q d c L K ds D a w p ac Lp wq := by
  intro D a w hall hno hcl hi
  obtain ⟨ac, hac⟩ : ∃ ac, (D q → a = ac) ∧ (¬ D q → ac = a.put (some d) c) := by
   by_cases hD : D q
   ·exact ⟨a, fun _ => rfl, fun h => absurd hD h⟩
   ·exact ⟨_, fun h => absurd h hD, fun _ => rfl⟩
  have hqn : d < n ∨ n ≤ d := Nat.lt_or_ge d n
  have hsz : n ≤ ac.tmps.size := by
   by_cases hD : D q
   ·rw [← hac.1 hD]; exact hi.size
   ·rw [hac.2 hD, put_size]; exact hi.size
  have hdf : ac.defers = ds := by
   by_cases hD : D q
   ·rw [← hac.1 hD]; exact hi.defers
   ·rw [hac.2 hD, put_defers]; exact hi.defers
  have hother : ∀ t, t ≠ d → ac.tmps[t]? = a.tmps[t]? := fun t ht => by
   by_cases hD : D q
   ·rw [← hac.1 hD]
   ·rw [hac.2 hD, put_other a c ht]
  have hdsz : d < a.tmps.size := by
   have hg := hob.take.get q oq (by rw [List.getElem?_take, hSm, if_pos hqm]; exact hq)
   by_cases hD : D q
   ·obtain ⟨v, h1, _⟩ := hi.done q oq (Asr.eq c) d hq hS ⟨hD, by omega⟩ hqd
    exact (Array.getElem?_eq_some_iff.1 h1).1
   ·refine Classical.byContradiction fun hge => ?_
    obtain ⟨s, hs, hobq⟩ := hg
    rw [Nat.zero_add] at hobq
    rw [hS] at hs; cases hs
    have hpq : ∀ k ∈ preds oq, D k := fun k hk => by
     have := lexOk_preds hlex q oq hq k hk
     exact hall k (by omega) (by omega)
    have := Inv.next (r := r) (P := P) hi hlex hUk hEM (rest := []) (Q := fun _ a' _ => n ≤ a'.tmps.size ∧ ∃ v, a'.tmps[d]? = some v) ⟨Asr.eq c, hS, hobq⟩ hq (fun h => hD h.1) (fun k hk => ⟨hpq k hk, by have := lexOk_preds hlex q oq hq k hk; omega⟩) (fun a' w' hi' => by
     obtain ⟨v, h1, _⟩ := hi'.done q oq (Asr.eq c) d hq hS (.inl rfl) hqd
     exact ⟨hi'.size, v, h1⟩)
    have hone : One P r l.toArray w oq a c := by
     unfold One
     rw [if_pos (by simp [Region.wanted, hqg])]
     refine hrun a.eval w fun x u hx => ?_
     have hbase : ∀ t u, lk (baseL l q L) t = some u → a.tmps[t]? = some u := fun t u ht => by
      obtain ⟨h3, h4⟩ := lk_filter (f := keepB l q) ht
      refine hi.base t u h4 fun i o ho' hDi he => ?_
      simp only [keepB, List.all_eq_true] at h3
      have := h3 o (List.mem_of_getElem? ho')
      simp only [he, beq_self_eq_true, Bool.not_true, Bool.false_or, List.contains_iff_mem] at this
      exact hD (hcl i o ho' hDi.1 q this)
     cases x with
     |tmp t => simp only [ev] at hx; simp [Act.eval, hbase t u hx]
     |const v => simp only [ev] at hx; cases hx; rfl
     |global g => simp only [ev] at hx; cases hx; rfl
     |func f => simp only [ev] at hx; cases hx; rfl
    simp only [wpOpsIn, List.getElem?_toArray, hq] at this
    rw [if_pos (by simp [Region.wanted, hqg])] at this
    obtain ⟨_, h2⟩ := this
    unfold One at hone
    rw [if_pos (by simp [Region.wanted, hqg])] at hone
    rw [Oper.semAt_eq _ _ _ (quiet_notdefer hqq), hone] at h2
    rw [Oper.uponIn_value] at h2
    obtain ⟨_, v, h3⟩ := h2
    rw [hqd] at h3
    have := (Array.getElem?_eq_some_iff.1 h3).1
    simp [Act.put] at this
    exact hge this
  have hacd : ∃ v, ac.tmps[d]? = some v ∧ v = c := by
   by_cases hD : D q
   ·rw [← hac.1 hD]
    obtain ⟨v, h1, h2⟩ := hi.done q oq (Asr.eq c) d hq hS ⟨hD, by omega⟩ hqd
    exact ⟨v, h1, h2⟩
   ·refine ⟨c, ?_, rfl⟩
    rw [hac.2 hD, put_tmps, if_pos rfl]
    simp [Array.getElem?_setIfInBounds, hdsz]
  have hget : ∀ {i : Nat} {o : Oper}, (l.take m)[i]? = some o → l[i]? = some o ∧ i < m := fun {i o} h => by
   rw [List.getElem?_take] at h
   split at h
   ·exact ⟨h, by assumption⟩
   ·cases h
  have hst : Step M wd M w (unions (F.map (·.2))) := hi.step.widen (fun b ⟨p, hp, hD, hb⟩ => unions_iff.2 ⟨p.2, List.mem_map.2 ⟨p, hp, rfl⟩, hb⟩) (fun b hb => by
   obtain ⟨N, hN, hNb⟩ := unions_iff.1 hb
   obtain ⟨p, hp, rfl⟩ := List.mem_map.1 hN
   exact hEM p hp b hNb)
  have hE := (hend w hst).take
  rw [hSm] at hE
  obtain ⟨acc, h1, h2⟩ := EndP.use (a := ac) (l.take m) S [] (fun i o s h1 h2 h3 => by
    obtain ⟨h4, h5⟩ := hget h1
    by_cases hiq : i = q
    ·subst hiq; rw [hq] at h4; cases h4; rw [hqd] at h3; cases h3
    ·exact hi.fin i o s h4 h2 ⟨hall i h5 hiq, by omega⟩ h3)
   (fun i o s e h1 h2 h3 => by
    obtain ⟨h4, h5⟩ := hget h1
    by_cases hiq : i = q
    ·subst hiq
     rw [hq] at h4; cases h4
     rw [hqd] at h3; cases h3
     rw [hS] at h2; cases h2
     exact hacd
    ·obtain ⟨v, h6, h7⟩ := hi.done i o s e h4 h2 ⟨hall i h5 hiq, by omega⟩ h3
     exact ⟨v, by rw [hother e (fun he => hiq (dst_unique hlex h4 hq h3 (by rw [hqd, he])))]; exact h6, h7⟩)
   (fun t v h => by simp [lk] at h) hE
  refine ⟨m, ac, _, w, Nat.le_refl _, by omega, fun i h3 h4 => ⟨fun h => ?_, fun h => hall i h h4⟩, ⟨hsz, hdf, fun t v h => ?_⟩, h1, hac.1, fun hD => ⟨hac.2 hD, fun t u ht => ?_⟩⟩
  ·rcases Nat.lt_or_ge i m with h5 | h5
   ·exact h5
   ·exact absurd h (hno i h5 h3)
  ·rcases lk_append h with h | h
   ·exact h2 t v h
   ·obtain ⟨h3, h4⟩ := lk_filter (f := keepB l l.length) h
    have hne : ∀ (i : Nat) (o : Oper), l[i]? = some o → o.dst ≠ some t := fun i o ho' he => by
     simp only [keepB, List.all_eq_true] at h3
     have := h3 o (List.mem_of_getElem? ho')
     simp only [he, beq_self_eq_true, Bool.not_true, Bool.false_or, List.contains_iff_mem] at this
     have h7 := lexOk_preds hlex i o ho' _ this
     have h8 := (List.getElem?_eq_some_iff.1 ho').1
     omega
    rw [hother t (fun e => hne q oq hq (by rw [hqd, e]))]
    exact hi.base t v h4 fun i o ho' _ => hne i o ho'
  ·obtain ⟨h3, h4⟩ := lk_filter (f := keepB l q) ht
   refine hi.base t u h4 fun i o ho' hDi he => ?_
   simp only [keepB, List.all_eq_true] at h3
   have := h3 o (List.mem_of_getElem? ho')
   simp only [he, beq_self_eq_true, Bool.not_true, Bool.false_or, List.contains_iff_mem] at this
   exact hD (hcl i o ho' hDi.1 q this)
 refine ⟨fun D a w => ((∀ i, m ≤ i → i < l.length → ¬ D i) ∧ Inv F S l wd L ds n (fun i => D i ∧ i < l.length) a w) ∨ ∃ p ac Lp wq, TJ P r n l m q d c L K ds D a w p ac Lp wq, fun D D' a w hJ hD => ?_, fun Q D a w j o rest hj ho hnD hp hcl hJ hk => ?_, fun a w hJ => ?_, .inl ⟨fun i _ _ h => h, ?_⟩⟩
 ·rcases hJ with ⟨h1, h2⟩ | ⟨p, ac, Lp, wq, h⟩
  ·refine .inl ⟨fun i h3 h4 h5 => h1 i h3 h4 ((hD i h4).1 h5), ?_⟩
   have : (fun i => D' i ∧ i < l.length) = fun i => D i ∧ i < l.length := funext fun i => propext ⟨fun ⟨h3, h4⟩ => ⟨(hD i h4).1 h3, h4⟩, fun ⟨h3, h4⟩ => ⟨(hD i h4).2 h3, h4⟩⟩
   rw [this]; exact h2
  ·exact .inr ⟨p, ac, Lp, wq, h.p0, h.p1, fun i h3 h4 => (hD i h3).trans (h.dt i h3 h4), h.ag, h.tr, fun h3 => h.yes ((hD q (by omega)).1 h3), fun h3 => h.no fun h4 => h3 ((hD q (by omega)).2 h4)⟩
 ·rcases hJ with ⟨h1, h2⟩ | ⟨p, ac, Lp, wq, h⟩
  ·rcases Nat.lt_or_ge j m with hjm | hjm
   ·have hg := hob.take.get j o (by rw [List.getElem?_take, hSm, if_pos hjm]; exact ho)
    rw [Nat.zero_add] at hg
    refine h2.next hlex hUk hEM hg ho (fun h => hnD h.1) (fun k hk' => ⟨hp k hk', by have := lexOk_preds hlex j o ho k hk'; omega⟩) fun a' w' hi' => hk a' w' (.inl ⟨fun i h3 h4 h5 => ?_, ?_⟩)
    ·rcases h5 with h5 | h5
     ·omega
     ·exact h1 i h3 h4 h5
    ·have : (fun i => (i = j ∨ D i) ∧ i < l.length) = fun i => i = j ∨ D i ∧ i < l.length := funext fun i => propext ⟨fun ⟨h3, h4⟩ => h3.elim .inl fun h => .inr ⟨h, h4⟩, fun h => h.elim (fun h => ⟨.inl h, by omega⟩) fun h => ⟨.inr h.1, h.2⟩⟩
     rw [this]; exact hi'
   ·have hjm' : j = m := by
     rcases Nat.lt_or_ge m j with h | h
     ·have := hp _ (chainB_get hch (j := j) (by omega) ho)
      exact absurd this (h1 (j - 1) (by omega) (by omega))
     ·omega
    subst hjm'
    rw [ho] at hbeh
    obtain ⟨p, ac, Lp, wq, h⟩ := start D a w (fun i hi hiq => behindF_all (D := D) hcl j (preds o) hbeh hp i hi (by simpa using hiq)) h1 hcl h2
    exact h.next hlex hok hq hqd hqq hqg hrun ho hnD hp fun a' w' h' => hk a' w' (.inr h')
  ·exact h.next hlex hok hq hqd hqq hqg hrun ho hnD hp fun a' w' h' => hk a' w' (.inr h')
 ·rcases hJ with ⟨h1, _⟩ | ⟨p, ac, Lp, wq, h⟩
  ·exact absurd hmlt (h1 m (Nat.le_refl _) hmlt)
  ·have hpl : p = l.length := by
    rcases Nat.lt_or_ge p l.length with h3 | h3
    ·have h4 := (h.dt p h3 (by have := h.p0; omega)).1 h3
     omega
    ·have := h.p1; omega
   have htr := h.tr
   rw [hpl, List.drop_length] at htr
   exact ⟨Lp, ds, by rw [h.yes (by show q < l.length; omega)]; exact h.ag, htr⟩
 ·refine ⟨(Step.refl M wd).widen (fun _ h => h.elim) (fun b ⟨p, hp, _, hb⟩ => hEM p hp b hb), fun i o s _ _ h => h.1.elim, ha.size, ha.defers, fun i o s e _ _ h => h.1.elim, fun t v h _ => ha.at_ t v h, fun i o _ h => h.1.elim⟩
theorem T.drawR {id : Nat} {l l' : List Oper} (π : List Nat) (m q d : Nat) (c : Value) {oq : Oper} (F : List (Nat × PSet)) (S : List (Asr M)) (hm : P.follows .mixedOrders = true) (hren : ren π l = l') (hlex0 : lexOk l 0 = true) (hπ : permOk π l.length = true) (hSm : S.length = m) (hml : Nat.blt m l'.length = true) (hlex : lexOk l' 0 = true) (hok : tailsOk l' m q d = true)
  (hq : l'[q]? = some oq) (hqd : oq.dst = some d) (hqq : quietOp oq.op = true) (hqg : oq.guard = none) (hS : S[q]? = some (Asr.eq c)) (hrun : ∀ (ρ : Operand → Value) w, (∀ x u, ev (baseL l' q L) x = some u → ρ x = u) → (execOp ρ oq).run P w = .ok (.value c) w)
  (hEM : ∀ p ∈ F, ∀ b, p.2 b → M b) (hFq : ∀ p ∈ F, p.1 ≠ q) (hUk : StOk F l' S)
  (h : ∀ wD, (∀ M, Step M w M wD none') → OblsS P r n F wD l' S ds L l' S 0 ∧ ∀ w', Step M wD M w' (unions (F.map (·.2))) → EndP w' (fun acc => TRg P r n l'.toArray none' w' K 0 (l'.drop m) (acc ++ baseL l' l'.length L) ds w') l' S []) : T P r n (.region id l.toArray true) L ds w K := by
 subst hren
 exact DrawInv.t hm hlex0 fun wD hD => .perm π hπ hlex0 (.tailed m q d c F S hSm hml hlex hok hq hqd hqq hqg hS hrun hEM hFq hUk (h wD hD).1 (h wD hD).2)
theorem run_fieldc {s : TypeId} {fs : Array Field} {fd : Field} {j size o o' b : Nat} {zv : Value} {bytes : Nat} {x : Operand} {dst : Option Tmp} {ty : TypeId} {pos : String} {af : Array Edge} {gd : Option (Nat × Bool)} (hu : P.underlying s = some (.struct fs)) (hfd : fs[j]? = some fd) (ho : o + fd.offset = o') (hi : TI P fd.type zv size bytes) (hs : size ≠ 0)
  {ρ : Operand → Value} (hx : ρ x = .pointer (some ⟨b, o, none⟩)) (w : World) : (execOp ρ { dst, op := .fieldAddr s x j, type := ty, pos, after := af, guard := gd }).run P w = .ok (.value (.pointer (some ⟨b, o', none⟩))) w := by
 simp only [execOp, hx]
 simp [Instr.fieldAt, run_underlying hu, hfd, Instr.sureAddr, fieldPlace, hi.sizeOf, hs, ← ho, Addr.add_mid]
end
end Go.K
namespace Go.K
open Go.Proofs
set_option linter.unusedVariables false
set_option linter.unusedSimpArgs false
set_option maxRecDepth 10000
def lastE : Int → List En → Int
 |last, [] => last
 |_, e :: L => lastE e.2 L
def okL : Int → List En → Bool
 |_, [] => true
 |last, e :: L => decide (addE last e = 0) && okL e.2 L
theorem okL_at : ∀ {L : List En} {last : Int} {i : Nat} {e : En}, okL last L = true → L[i]? = some e → addE (lastE last (L.take i)) e = 0 ∧ lastE last (L.take (i + 1)) = e.2
 |[], _, _, _, _, h => by simp at h
 |x :: L, last, 0, e, h, hi => by
  simp only [okL, Bool.and_eq_true, decide_eq_true_eq] at h
  simp at hi; subst hi
  exact ⟨by simpa [lastE] using h.1, by simp [lastE]⟩
 |x :: L, last, i + 1, e, h, hi => by
  simp only [okL, Bool.and_eq_true, decide_eq_true_eq] at h
  have := okL_at h.2 (by simpa using hi)
  simpa [lastE] using this
theorem addE_fine {last : Int} {e : En} (h : addE last e = 0) : Fine e.1 ∧ last < e.2 := by
 unfold addE at h
 split at h
 ·rename_i h1; exact absurd h h1
 ·rename_i h1
  split at h
  ·cases h
  ·exact ⟨fine_of (by simpa using h1), by omega⟩
theorem okL_fine : ∀ {L : List En} {last : Int}, okL last L = true → ∀ e ∈ L, Fine e.1
 |[], _, _, e, h => by cases h
 |x :: L, last, h, e, he => by
  simp only [okL, Bool.and_eq_true, decide_eq_true_eq] at h
  rcases List.mem_cons.1 he with rfl | he
  ·exact (addE_fine h.1).1
  ·exact okL_fine h.2 e he
theorem okL_rises : ∀ {L : List En} {last : Int}, okL last L = true → rises last (L.map (·.2)) = true
 |[], _, _ => rfl
 |x :: L, last, h => by
  simp only [okL, Bool.and_eq_true, decide_eq_true_eq] at h
  simp only [List.map_cons, rises, Bool.and_eq_true, decide_eq_true_eq]
  exact ⟨(addE_fine h.1).2, okL_rises h.2⟩
def paOf (L : List En) : Pa := (L.map (·.1.1), L.map (·.2), keysOf L, (keysOf L).map (pk L))
theorem lastD_mem {x : List Po} (h : x ≠ []) : ∃ p ∈ x, lastD x = p.1 := by
 unfold lastD
 cases hl : x.getLast? with
 |none => exact absurd (List.getLast?_eq_none_iff.1 hl) h
 |some p => exact ⟨p, List.mem_of_getLast? hl, rfl⟩
theorem okP_of {L : List En} (h : okL (-1) L = true) (hn : L.length ≤ 1000000) : okP (paOf L) = true := by
 have hF := okL_fine h
 have h1 : (keysOf L).map (pk L) = (paOf L).2.2.2 := rfl
 unfold okP
 have e1 : decide ((paOf L).1.length = (paOf L).2.1.length) = true := by simp [paOf]
 have e2 : rises (-1) (paOf L).2.1 = true := okL_rises h
 have e3 : decide ((paOf L).2.2.1.length = (paOf L).2.2.2.length) = true := by simp [paOf]
 have e4 : upB none (paOf L).2.2.1 = true := upB_up (keys_up L)
 have e5 : (paOf L).2.2.2.all (fun x => !badP ((paOf L).1.length : Int) x) = true := by
  refine List.all_eq_true.2 fun x hx => ?_
  rw [← h1] at hx
  obtain ⟨k, hk, rfl⟩ := List.mem_map.1 hx
  have hne : pk L k ≠ [] := pkF_ne 0 (keys_mem.1 hk)
  have hemp : (pk L k).isEmpty = false := by
   cases h : pk L k with
   |nil => exact absurd h hne
   |cons a b => rfl
  have hmay : mayPo (-1) (pk L k) = true := pkF_may k L 0 (-1) hF (by omega) (by omega)
  obtain ⟨p, hp, hl⟩ := lastD_mem hne
  have := (pkF_at k L 0 hF).2 p hp
  have hlen : ((paOf L).1.length : Int) = L.length := by simp [paOf]
  simp only [badP, hmay, hemp, hlen, hl]
  rw [decide_eq_false (by omega)]; rfl
 rw [e1, e2, e3, e4, e5]; rfl
theorem room_pk {L : List En} (hF : ∀ e ∈ L, Fine e.1) (hn : L.length ≤ 1000000) (k : List UInt8) : Room (pk L k) := by
 have h1 := pkF_at k L 0 hF
 have hmay : mayPo (-1) (pk L k) = true := pkF_may k L 0 (-1) hF (by omega) (by omega)
 have hps : ∀ p ∈ pk L k, p.2.length ≤ 500 := fun p hp => (h1.2 p hp).2.2
 obtain ⟨h2, h3⟩ := putPo_len (pk L k) (-1) 500 (by omega) hmay hps (by omega)
 have hl : (pk L k).length ≤ L.length := h1.1
 exact ⟨fun p hp => by have := hps p hp; omega, by omega, by omega, by omega⟩
theorem room_pa {L : List En} (hF : ∀ e ∈ L, Fine e.1) (hn : L.length ≤ 1000000) : RoomP (paOf L) := by
 have hk : (keysOf L).length ≤ 500000000 := by
  have h1 := (keys_up L).nodup.length_le_of_subset (l₂ := keysL L) (fun x hx => keys_mem.1 hx)
  have := keysL_len hF; omega
 refine ⟨by simp [paOf]; omega, by simp [paOf]; omega, by simp only [paOf]; omega, by simp [paOf]; omega, fun x hx => ?_⟩
 obtain ⟨k, _, rfl⟩ := List.mem_map.1 hx
 exact room_pk hF hn k
theorem en_rng {M : PSet} {w : World} {e : En} {v : Value} (h : RT.en.V M w e v) : (-9223372036854775808 ≤ e.1.1 ∧ e.1.1 ≤ 9223372036854775807) ∧ -9223372036854775808 ≤ e.2 ∧ e.2 ≤ 9223372036854775807 := by
 obtain ⟨vs, ⟨va, vb, _, ⟨vc, vd, _, ⟨_, h1⟩, _⟩, ⟨_, h2⟩⟩, _⟩ := h
 exact ⟨h1, h2⟩
def ZP (B b : Nat) (vi vs : Value) : PSet := fun k => B ≤ k ∧ k ≠ b ∧ vi.ownBlock ≠ some k ∧ vs.ownBlock ≠ some k
theorem Own.keepL {κ : IntKind} {e : TypeId} {M M' N : PSet} {w w' : World} {base : Nat} {v : Value} {xs : List Int} (h : Own (RT.int κ) e (blkM v) w base v xs) (s : Step M w M' w' N) (hn : ∀ c, v.ownBlock = some c → ¬ N c) : Own (RT.int κ) e (blkM v) w' base v xs :=
 ((h.alli (M' := allM) (fun _ _ => trivial)).keepi s.all hn).lone
theorem Step.addV {M M' N : PSet} {w w' : World} (s : Step M w M' w' N) {v : Value} (hv : ∀ b, v.ownBlock = some b → b < w'.heap.size ∧ (w.heap.size ≤ b ∨ M' b)) : Step M w (insV M' v) w' N :=
 ⟨fun h k hk => hk.elim (fun h1 => (hv k h1).1) (fun h1 => s.lt h k h1), s.os, s.tape, s.output, s.size, fun k hk => ⟨fun h => by
  rcases h with h | h
  ·rcases (hv k h).2 with h1 | h1
   ·omega
   ·exact (s.mem k hk).1 h1
  ·exact (s.mem k hk).1 h, fun h => .inr ((s.mem k hk).2 h)⟩, s.same, s.sub⟩
end Go.K
namespace Go.K
open Go.Proofs
namespace TKSegA
theorem E120 : Enters Tryz.prog 120 := enters Tryz.func120 rfl (by decide)
theorem E168 : Enters Tryz.prog 168 := enters Tryz.func168 rfl (by decide)
end TKSegA
open TKSegA
set_option linter.unusedVariables false
set_option linter.unusedSimpArgs false
set_option maxRecDepth 10000
def ofZ (xs : List Int) (i : Int) : Int := if 0 ≤ i ∧ i < xs.length then xs.getD i.toNat 0 else -1
theorem of_spec {M : PSet} {xs : List Int} {v0 : Value} {i : Int} (w0 : World) (hv : ((RT.int .i64).sl).V M w0 xs v0) :
  Spec Tryz.prog 120 #[v0, .int .i64 i] w0 (fun v w => v = .int .i64 (ofZ xs i) ∧ w = w0) := by
 have hlen := V_sl_len hv
 refine spec_of (args := [_, _]) (fn := Tryz.f120) Tryz.func120 rfl (n := 17) Tryz.ntmps120 ?_
 refine T.seq ?_
 refine T.region ?_
 refine Rg.assign rfl rfl ?_
 refine Rg.nil ?_
 refine T.seq ?_
 refine T.seq ?_
 refine T.region ?_
 refine Rg.move rfl rfl ?_
 refine Rg.ilt rfl rfl rfl ?_
 refine Rg.move rfl rfl ?_
 refine Rg.gsplitp (g := 7) rfl (fun g1_2 => ?_) (fun g1_2 => ?_)
 ·refine Rg.gno rfl rfl rfl rfl ?_
  refine Rg.gno rfl rfl rfl rfl ?_
  refine Rg.gno rfl rfl rfl rfl ?_
  refine Rg.gno rfl rfl rfl rfl ?_
  refine Rg.pickt rfl rfl rfl ?_
  refine Rg.nil ?_
  refine T.ift rfl ?_
  refine T.seq ?_
  refine T.region ?_
  refine Rg.assign rfl rfl ?_
  refine Rg.nil ?_
  refine T.ret ?_
  have e : ofZ xs i = -1 := by unfold ofZ; rw [if_neg (by omega)]
  exact Kret1 rfl rfl ⟨by rw [e], rfl⟩
 ·refine Rg.gyes rfl rfl ?_
  refine Rg.move rfl rfl ?_
  refine Rg.gyes rfl rfl ?_
  refine Rg.move rfl rfl ?_
  refine Rg.gyes rfl rfl ?_
  refine Rg.lensl Tryz.underlying32 rfl hv rfl ?_
  refine Rg.gyes rfl rfl ?_
  refine Rg.ige rfl rfl rfl ?_
  refine Rg.pickf rfl rfl rfl ?_
  refine Rg.nil ?_
  refine T.ifp rfl (fun c1 => ?_) (fun c1 => ?_)
  ·refine T.seq ?_
   refine T.region ?_
   refine Rg.assign rfl rfl ?_
   refine Rg.nil ?_
   refine T.ret ?_
   have e : ofZ xs i = -1 := by unfold ofZ; rw [if_neg (by omega)]
   exact Kret1 rfl rfl ⟨by rw [e], rfl⟩
  ·refine T.skip ?_
   refine T.seq ?_
   refine T.region ?_
   refine Rg.move rfl rfl ?_
   refine Rg.move rfl rfl ?_
   refine Rg.idx (M := M) Tryz.underlying32 I3 rfl rfl rfl hv (Le.refl _ _) (by omega) (fun u x hg hu => ?_)
   refine Rg.loadi64 (M := M) Tryz.underlying3 rfl rfl hu (Le.refl _ _) (fun hin => ?_)
   refine Rg.assign rfl rfl ?_
   refine Rg.nil ?_
   refine T.ret ?_
   have e : ofZ xs i = x := by unfold ofZ; rw [if_pos (by omega), List.getD_eq_getElem?_getD, hg]; rfl
   exact Kret1 rfl rfl ⟨by rw [e], rfl⟩
theorem sseq_spec {M : PSet} {s : Se} {i : Int} {v0 : Value} (w0 : World) (hs : PtrTo RT.se M w0 v0 s) :
  Spec Tryz.prog 70 #[v0, .int .i64 i] w0 (fun v w => v = .int .i64 (ofZ s.2.1 i) ∧ w = w0) := by
 refine spec_of (args := [_, _]) (fn := Tryz.f70) Tryz.func70 rfl (n := 11) Tryz.ntmps70 ?_
 refine T.seq ?_
 refine T.region ?_
 refine Rg.assign rfl rfl ?_
 refine Rg.nil ?_
 refine T.seq ?_
 refine T.region ?_
 refine Rg.move rfl rfl ?_
 refine Rg.nilCheck rfl hs.isPtr rfl ?_
 refine Rg.fieldAddr (M := M) (A := RT.se) (B := (RT.int .i64).sl) Tryz.underlying125 rfl rfl I32 (by decide) se1 rfl rfl (by decide) hs (Le.refl _ _) (fun u1_2 hu1_2 => ?_)
 refine Rg.load (M := M) Tryz.underlying32 rfl rfl rfl rfl rfl hu1_2 (Le.refl _ _) (fun v1_2 hv1_2 => ?_)
 replace hv1_2 : ((RT.int .i64).sl).V M _ s.2.1 v1_2 := hv1_2
 refine Rg.move rfl rfl ?_
 refine Rg.call rfl rfl E120 (of_spec _ hv1_2) (fun r wc hc => ?_)
 obtain ⟨rfl, rfl⟩ := hc
 refine Rg.assign rfl rfl ?_
 refine Rg.nil ?_
 refine T.ret ?_
 exact Kret1 rfl rfl ⟨rfl, rfl⟩
theorem wrap_u64 {x : Int} (h : 0 ≤ x ∧ x < 18446744073709551616) : IntKind.u64.wrap x = x := by simp [IntKind.wrap, IntKind.bits, IntKind.signed]; omega
theorem half_u64 (x : Int) : x.fdiv (2 ^ min (1 : Int).toNat IntKind.u64.bits) = x / 2 := by
 rw [show (2 : Int) ^ min (1 : Int).toNat IntKind.u64.bits = 2 from by decide, Int.fdiv_eq_ediv_of_nonneg _ (by decide)]
theorem countP_cut {α : Type} {p : α → Bool} : ∀ {xs : List α} {i : Nat}, i ≤ xs.length → (∀ (k : Nat) x, k < i → xs[k]? = some x → p x = true) → (∀ (k : Nat) x, i ≤ k → xs[k]? = some x → p x = false) → xs.countP p = i
 |[], i, hi, _, _ => by simp at hi; simp [hi]
 |x :: xs, 0, _, _, h2 => by
  rw [List.countP_eq_zero.2]
  intro a ha
  obtain ⟨k, hk⟩ := List.mem_iff_getElem?.1 ha
  simp [h2 k a (Nat.zero_le _) hk]
 |x :: xs, i + 1, hi, h1, h2 => by
  rw [List.countP_cons_of_pos (h1 0 x (by omega) rfl), countP_cut (by simpa using hi) (fun k y hk hy => h1 (k + 1) y (by omega) (by simpa using hy)) (fun k y hk hy => h2 (k + 1) y (by omega) (by simpa using hy))]
theorem cmpNaN_spec {x : Int} (w0 : World) :
  Spec Tryz.prog 168 #[.int .i64 x] w0 (fun v w => v = .bool false ∧ w = w0) := by
 refine spec_of (args := [_]) (fn := Tryz.f168) Tryz.func168 rfl (n := 6) Tryz.ntmps168 ?_
 refine T.seq ?_
 refine T.region ?_
 refine Rg.assign rfl rfl ?_
 refine Rg.nil ?_
 refine T.seq ?_
 refine T.region ?_
 refine Rg.move rfl rfl ?_
 refine Rg.move rfl rfl ?_
 refine Rg.ine rfl rfl rfl ?_
 refine Rg.assign rfl rfl ?_
 refine Rg.nil ?_
 refine T.ret ?_
 exact Kret1 rfl rfl ⟨by simp, rfl⟩
end Go.K
namespace Go.K
open Go.Proofs
namespace TKSegB
theorem I188 : TI Tryz.prog 188 (.slice none 0 0) 1 24 := by unfold TI; kernel_rfl
theorem E123 : Enters Tryz.prog 123 := enters Tryz.func123 rfl (by decide)
theorem E169 : Enters Tryz.prog 169 := enters Tryz.func169 rfl (by decide)
theorem E170 : Enters Tryz.prog 170 := enters Tryz.func170 rfl (by decide)
end TKSegB
open TKSegB
set_option linter.unusedVariables false
set_option linter.unusedSimpArgs false
set_option maxRecDepth 10000
def plN (ns : List (List UInt8)) (k : List UInt8) : Nat := ns.countP fun x => decide (x < k)
theorem up_le {ns : List (List UInt8)} (h : UpT ns) {i j : Nat} {x y : List UInt8} (hij : i ≤ j) (hx : ns[i]? = some x) (hy : ns[j]? = some y) : ¬ y < x := by
 rcases Nat.eq_or_lt_of_le hij with rfl | h1
 ·rw [hx] at hy; cases hy; exact txt_irr x
 ·exact txt_asym (pair_idx h hx hy h1)
theorem plN_at {ns : List (List UInt8)} (h : UpT ns) {k : List UInt8} : (k ∈ ns → ns[plN ns k]? = some k) ∧ ∀ x, ns[plN ns k]? = some x → ¬ x < k := by
 have key : ∀ {ns : List (List UInt8)}, UpT ns → (k ∈ ns → ns[plN ns k]? = some k) ∧ ∀ x, ns[plN ns k]? = some x → ¬ x < k := by
  intro ns
  induction ns with
  |nil => exact fun _ => ⟨(fun h => by cases h), fun x h => by simp at h⟩
  |cons y ns ih =>
   intro h
   have h' := List.pairwise_cons.1 h
   by_cases hy : y < k
   ·have e : plN (y :: ns) k = plN ns k + 1 := by unfold plN; rw [List.countP_cons_of_pos (by simpa using hy)]
    rw [e]
    simp only [List.getElem?_cons_succ]
    refine ⟨fun hk => (ih h'.2).1 ?_, (ih h'.2).2⟩
    rcases List.mem_cons.1 hk with rfl | hk
    ·exact absurd hy (txt_irr _)
    ·exact hk
   ·have hall : ∀ x ∈ ns, ¬ x < k := fun x hx hlt => hy (txt_trans (h'.1 x hx) hlt)
    have e : plN (y :: ns) k = 0 := by
     unfold plN; rw [List.countP_eq_zero]
     intro a ha
     rcases List.mem_cons.1 ha with rfl | ha
     ·simpa using hy
     ·simpa using hall a ha
    rw [e]
    refine ⟨fun hk => ?_, fun x hx => by simp at hx; subst hx; exact hy⟩
    rcases List.mem_cons.1 hk with rfl | hk
    ·rfl
    ·exact absurd (h'.1 k hk) hy
 exact key h
def geN (ns : List (List UInt8)) (k : List UInt8) (i : Nat) : Bool := match ns[i]? with | some x => !decide (x < k) | none => true
theorem geN_at {ns : List (List UInt8)} {k x : List UInt8} {i : Nat} (h : ns[i]? = some x) : geN ns k i = !decide (x < k) := by unfold geN; rw [h]
theorem plN_is {ns : List (List UInt8)} (h : UpT ns) {k : List UInt8} : ns[plN ns k]? = some k ↔ k ∈ ns := ⟨fun h => List.mem_of_getElem? h, (plN_at h).1⟩
theorem least_spec {M : PSet} {n : Nat} {g : FuncId} {cap : List Value} {good : Nat → Bool} (w0 : World) (hg : Enters Tryz.prog g) (hmono : ∀ i j, i ≤ j → j < n → good i = true → good j = true) (hn : n ≤ 4611686018427387904) (ht : ∀ (i : Nat) w, i < n → Step M w0 M w none' → Spec Tryz.prog g ([.int .i64 (i : Int)] ++ cap : List Value).toArray w (fun v w' => v = .bool (good i) ∧ Step M w M w' none')) :
  Spec Tryz.prog 169 #[.int .i64 (n : Int), .func (.func g) #[] cap.toArray] w0 (fun v w => ∃ m : Nat, v = .int .i64 (m : Int) ∧ m ≤ n ∧ (∀ i, i < m → good i = false) ∧ (∀ i, m ≤ i → i < n → good i = true) ∧ Step M w0 M w none') := by
 refine spec_of (args := [_, _]) (fn := Tryz.f169) Tryz.func169 rfl (n := 23) Tryz.ntmps169 ?_
 refine T.seq ?_
 refine T.region ?_
 refine Rg.assign rfl rfl ?_
 refine Rg.nil ?_
 refine T.seq ?_
 refine T.region ?_
 refine Rg.assign rfl rfl ?_
 refine Rg.nil ?_
 refine T.seq ?_
 refine T.block ?_
 refine T.loop (σ := Nat × Nat) (fun q => [(0, .int .i64 (q.2 : Int)), (1, .func (.func g) #[] cap.toArray), (5, .int .i64 (q.1 : Int))]) (fun q w => Step M w0 M w none' ∧ q.1 ≤ q.2 ∧ q.2 ≤ n ∧ (∀ i, i < q.1 → good i = false) ∧ (∀ i, q.2 ≤ i → i < n → good i = true)) (fun q => q.2 - q.1) (0, n) (.cons rfl (.cons rfl (.cons rfl .nil))) ?_ ?_
 ·exact ⟨Step.refl _ _, Nat.zero_le _, Nat.le_refl _, fun i h => absurd h (Nat.not_lt_zero _), fun i h h' => by omega⟩
 ·rintro ⟨i, j⟩ w ⟨S, hij, hj, h1, h2⟩
  dsimp only at hij hj h1 h2 ⊢
  refine T.seq ?_
  refine T.seq ?_
  refine T.region ?_
  refine Rg.move rfl rfl ?_
  refine Rg.move rfl rfl ?_
  refine Rg.ilt rfl rfl rfl ?_
  refine Rg.nil ?_
  refine T.ifp rfl (fun c2 => ?_) (fun c2 => ?_)
  ·refine T.skip ?_
   refine T.block ?_
   refine T.seq ?_
   refine T.region ?_
   refine Rg.move rfl rfl ?_
   refine Rg.move rfl rfl ?_
   refine Rg.move rfl rfl ?_
   refine Rg.isub rfl rfl rfl (by omega) ?_
   refine Rg.idiv rfl rfl rfl (by omega) ?_
   refine Rg.iadd rfl rfl rfl (by omega) ?_
   refine Rg.eqv (v' := .int .i64 ((i + (j - i) / 2 : Nat) : Int)) (congrArg _ (by omega)) ?_
   refine Rg.assign rfl rfl ?_
   refine Rg.nil ?_
   refine T.seq ?_
   refine T.region ?_
   refine Rg.move rfl rfl ?_
   refine Rg.move rfl rfl ?_
   refine Rg.callv (first := []) (captured := cap) (xs := [.tmp 17]) rfl rfl rfl hg (vs := [.int .i64 ((i + (j - i) / 2 : Nat) : Int)]) (ht (i + (j - i) / 2) _ (by omega) S) (fun r4 w4 hc => ?_)
   obtain ⟨rfl, s4⟩ := hc
   refine Rg.eqv (v' := .bool (decide (good (i + (j - i) / 2) = true))) (by simp) ?_
   replace S := S.trans0 s4
   refine Rg.nil ?_
   refine T.ifp rfl (fun c4 => ?_) (fun c4 => ?_)
   ·refine T.region ?_
    refine Rg.move rfl rfl ?_
    refine Rg.assign rfl rfl ?_
    refine Rg.nil ?_
    refine ⟨rfl, (i, i + (j - i) / 2), (.cons rfl (.cons rfl (.cons rfl .nil))), ?_, ?_⟩
    ·exact ⟨S, by dsimp only; omega, by dsimp only; omega, h1, fun k hk hkn => hmono _ _ hk hkn c4⟩
    ·dsimp only; omega
   ·refine T.region ?_
    refine Rg.move rfl rfl ?_
    refine Rg.iadd rfl rfl rfl (by omega) ?_
    refine Rg.assign rfl rfl ?_
    refine Rg.nil ?_
    refine ⟨rfl, (i + (j - i) / 2 + 1, j), (.cons rfl (.cons rfl (.cons rfl .nil))), ?_, ?_⟩
    ·exact ⟨S, by dsimp only; omega, hj, fun k hk => by
      cases h : good k with
      |false => rfl
      |true => exact absurd (hmono k (i + (j - i) / 2) (by dsimp only at hk; omega) (by omega) h) c4, h2⟩
    ·dsimp only; omega
  ·refine T.exit ?_
   refine T.seq ?_
   refine T.region ?_
   refine Rg.move rfl rfl ?_
   refine Rg.assign rfl rfl ?_
   refine Rg.nil ?_
   refine T.ret ?_
   have e : i = j := by omega
   subst e
   exact Kret1 rfl rfl ⟨i, rfl, hj, h1, h2, S⟩
theorem place1_spec {M : PSet} {d : Di} {v0 : Value} {i bd bk : Nat} {k x : List UInt8} (w0 : World) (hd : PtrTo RT.di M w0 v0 d) (gd : w0.heap[bd]? = some (.cells #[v0] 123 (0, 0))) (gk : w0.heap[bk]? = some (.cells #[sv k] 9 (0, 0))) (hx : d.1[i]? = some x) :
  Spec Tryz.prog 170 #[.int .i64 (i : Int), .pointer (some ⟨bd, 0, none⟩), .pointer (some ⟨bk, 0, none⟩)] w0 (fun v w => v = .bool (!decide (x < k)) ∧ Step M w0 M w none') := by
 have hM : True := trivial
 refine spec_of (args := [_, _, _]) (fn := Tryz.f170) Tryz.func170 rfl (n := 14) Tryz.ntmps170 ?_
 refine T.seq ?_
 refine T.region ?_
 refine Rg.assign rfl rfl ?_
 refine Rg.nil ?_
 refine T.seq ?_
 apply T.drawQ0 mixed rfl rfl
 intro wD1 sA1
 have sD1 := sA1 M
 replace gd := sD1.same0 gd
 replace gk := sD1.same0 gk
 replace hd := hd.le (by decide) sD1.le
 refine Rg.loadc Tryz.underlying123 rfl rfl rfl gd rfl ?_
 refine Rg.eqv (v' := v0) rfl ?_
 refine Rg.nil ⟨rfl, rfl, rfl, ?_⟩
 refine Rg.nilCheck rfl hd.isPtr rfl ?_
 refine Rg.nil ⟨rfl, rfl, rfl, ?_⟩
 refine Rg.fieldAddr (M := M) (A := RT.di) (B := RT.str.sl) Tryz.underlying190 rfl rfl I55 (by decide) di0 rfl rfl (by decide) hd (Le.refl _ _) (fun pn hpn => ?_)
 refine Rg.nil ⟨rfl, rfl, rfl, ?_⟩
 refine Rg.load (M := M) Tryz.underlying55 rfl rfl rfl rfl rfl hpn (Le.refl _ _) (fun vn hvn => ?_)
 replace hvn : (RT.str.sl).V M _ d.1 vn := hvn
 refine Rg.nil ⟨rfl, rfl, rfl, ?_⟩
 refine Rg.move rfl rfl ?_
 refine Rg.nil ⟨rfl, rfl, rfl, ?_⟩
 have hil := (List.getElem?_eq_some_iff.1 hx).1
 refine Rg.idx (M := M) Tryz.underlying55 I9 rfl rfl rfl hvn (Le.refl _ _) (by omega) (fun u a hg hu => ?_)
 obtain rfl : x = a := Option.some.inj (hx.symm.trans (by simpa using hg))
 refine Rg.nil ⟨rfl, rfl, rfl, ?_⟩
 refine Rg.load (M := M) Tryz.underlying9 rfl rfl rfl rfl rfl hu (Le.refl _ _) (fun vx hvx => ?_)
 obtain rfl := V_strE hvx
 refine Rg.nil ⟨rfl, rfl, rfl, ?_⟩
 refine Rg.loadc Tryz.underlying9 rfl rfl rfl gk rfl ?_
 refine Rg.eqv (v' := sv k) rfl ?_
 refine Rg.nil ⟨rfl, rfl, rfl, ?_⟩
 refine Rg.strgeq rfl rfl rfl ?_
 refine Rg.nil ⟨rfl, rfl, rfl, ?_⟩
 refine Rg.assign rfl rfl ?_
 refine Rg.nil ⟨rfl, rfl, rfl, ?_⟩
 refine QRg.nil ?_
 refine T.ret ?_
 exact Kret1 rfl rfl ⟨by rw [decide_not], sD1⟩
theorem place_spec {M : PSet} {d : Di} {v0 : Value} {k : List UInt8} (w0 : World) (hM : Lt M w0) (hd : PtrTo RT.di M w0 v0 d) (hup : UpT d.1) :
  Spec Tryz.prog 123 #[v0, sv k] w0 (fun v w => v = .tuple #[.int .i64 (plN d.1 k : Int), .bool (decide (k ∈ d.1))] ∧ Step M w0 M w none') := by
 refine spec_of (args := [_, _]) (fn := Tryz.f123) Tryz.func123 rfl (n := 33) Tryz.ntmps123 ?_
 have S : Step M w0 M w0 none' := (Step.refl _ _).widen (fun _ h => h.elim) (fun _ h => h.elim)
 refine T.seq ?_
 refine T.region ?_
 refine Rg.box M rfl rfl (fun b0_0 w0_0 p0_0 q0_0 g0_0 s0_0 => ?_)
 replace g0_0 : w0_0.heap[b0_0]? = some (.cells #[v0] 123 (0, 0)) := by rw [ptr_cells hd] at g0_0; exact g0_0
 obtain ⟨M_0_0, eM_0_0⟩ : ∃ M', M' = ins M b0_0 := ⟨_, rfl⟩
 rw [← eM_0_0] at s0_0
 have m_g0_0 : M_0_0 b0_0 := by rw [eM_0_0]; exact .inl rfl
 replace hd := hd.le (by decide) s0_0.le
 replace hM := s0_0.lt hM
 have := S.size
 replace S := S.trans0 s0_0
 refine Rg.box M_0_0 rfl rfl (fun b0_1 w0_1 p0_1 q0_1 g0_1 s0_1 => ?_)
 obtain ⟨M_0_1, eM_0_1⟩ : ∃ M', M' = ins M_0_0 b0_1 := ⟨_, rfl⟩
 rw [← eM_0_1] at s0_1
 have m_g0_1 : M_0_1 b0_1 := by rw [eM_0_1]; exact .inl rfl
 change w0_1.heap[b0_1]? = some (.cells #[sv k] _ _) at g0_1
 have := lt_of_get g0_0
 replace m_g0_0 := (s0_1.mem _ this).2 m_g0_0
 replace g0_0 := s0_1.same0 g0_0
 replace hd := hd.le (by decide) s0_1.le
 replace hM := s0_1.lt hM
 have := S.size
 replace S := S.trans0 s0_1
 refine Rg.assign rfl rfl ?_
 refine Rg.assign rfl rfl ?_
 refine Rg.nil ?_
 refine T.seq ?_
 refine T.region ?_
 refine Rg.loadc Tryz.underlying123 rfl rfl rfl g0_0 rfl ?_
 refine Rg.eqv (v' := v0) rfl ?_
 refine Rg.nilCheck rfl hd.isPtr rfl ?_
 refine Rg.fieldAddr (M := M_0_1) (A := RT.di) (B := RT.str.sl) Tryz.underlying190 rfl rfl I55 (by decide) di0 rfl rfl (by decide) hd (Le.refl _ _) (fun pn hpn => ?_)
 refine Rg.load (M := M_0_1) Tryz.underlying55 rfl rfl rfl rfl rfl hpn (Le.refl _ _) (fun vn hvn => ?_)
 replace hvn : (RT.str.sl).V M_0_1 _ d.1 vn := hvn
 have hnl := V_sl_len hvn
 refine Rg.lensl Tryz.underlying55 rfl hvn rfl ?_
 refine Rg.makeFunc (xs := []) (ys := [.tmp 2, .tmp 3]) rfl rfl rfl ?_
 refine Rg.call rfl rfl E169 (least_spec (M := M_0_1) (n := d.1.length) (cap := [.pointer (some ⟨b0_0, 0, none⟩), .pointer (some ⟨b0_1, 0, none⟩)]) (good := geN d.1 k) _ E170 (fun i j hij hj h => by
  have hi := List.getElem?_eq_getElem (show i < d.1.length by omega)
  have hj2 := List.getElem?_eq_getElem hj
  rw [geN_at hi] at h
  rw [geN_at hj2]
  simp only [Bool.not_eq_true', decide_eq_false_iff_not] at h ⊢
  intro hlt
  rcases txt_tri d.1[i] d.1[j] with h1 | h1 | h1
  ·exact h (txt_trans h1 hlt)
  ·rw [h1] at h; exact h hlt
  ·exact up_le hup hij hi hj2 h1) (by omega) (fun i w hi s => by
  have hx := List.getElem?_eq_getElem hi
  rw [geN_at hx]
  exact place1_spec w (hd.le (by decide) s.le) (s.same0 g0_0) (s.same0 g0_1) hx)) (fun r1 w1 hc => ?_)
 obtain ⟨m, rfl, hm, hlo, hhi, s1⟩ := hc
 have em : plN d.1 k = m := countP_cut hm (fun i x hi hx => by have := hlo i hi; rw [geN_at hx] at this; simpa using this) (fun i x hi hx => by have := hhi i hi (List.getElem?_eq_some_iff.1 hx).1; rw [geN_at hx] at this; simpa using this)
 have := lt_of_get g0_0
 replace m_g0_0 := (s1.mem _ this).2 m_g0_0
 replace g0_0 := s1.same0 g0_0
 have := lt_of_get g0_1
 replace m_g0_1 := (s1.mem _ this).2 m_g0_1
 replace g0_1 := s1.same0 g0_1
 replace hd := hd.le (by decide) s1.le
 replace hM := s1.lt hM
 have := S.size
 replace S := S.trans0 s1
 refine Rg.assign rfl rfl ?_
 refine Rg.nil ?_
 refine T.seq ?_
 apply T.drawQ0 mixed rfl rfl
 intro wD2 sA2
 have sD2 := sA2 M_0_1
 have := lt_of_get g0_0
 replace m_g0_0 := (sD2.mem _ this).2 m_g0_0
 replace g0_0 := sD2.same0 g0_0
 have := lt_of_get g0_1
 replace m_g0_1 := (sD2.mem _ this).2 m_g0_1
 replace g0_1 := sD2.same0 g0_1
 replace hd := hd.le (by decide) sD2.le
 replace hM := sD2.lt hM
 have := S.size
 replace S := S.trans0 sD2
 refine Rg.move rfl rfl ?_
 refine Rg.nil ⟨rfl, rfl, rfl, ?_⟩
 refine Rg.move rfl rfl ?_
 refine Rg.nil ⟨rfl, rfl, rfl, ?_⟩
 refine Rg.loadc Tryz.underlying123 rfl rfl rfl g0_0 rfl ?_
 refine Rg.eqv (v' := v0) rfl ?_
 refine Rg.nil ⟨rfl, rfl, rfl, ?_⟩
 refine Rg.nilCheck rfl hd.isPtr rfl ?_
 refine Rg.nil ⟨rfl, rfl, rfl, ?_⟩
 refine Rg.fieldAddr (M := M_0_1) (A := RT.di) (B := RT.str.sl) Tryz.underlying190 rfl rfl I55 (by decide) di0 rfl rfl (by decide) hd (Le.refl _ _) (fun pn2 hpn2 => ?_)
 refine Rg.nil ⟨rfl, rfl, rfl, ?_⟩
 refine Rg.load (M := M_0_1) Tryz.underlying55 rfl rfl rfl rfl rfl hpn2 (Le.refl _ _) (fun vn2 hvn2 => ?_)
 replace hvn2 : (RT.str.sl).V M_0_1 _ d.1 vn2 := hvn2
 refine Rg.nil ⟨rfl, rfl, rfl, ?_⟩
 refine Rg.lensl Tryz.underlying55 rfl hvn2 rfl ?_
 refine Rg.nil ⟨rfl, rfl, rfl, ?_⟩
 refine Rg.ilt rfl rfl rfl ?_
 refine Rg.nil ⟨rfl, rfl, rfl, ?_⟩
 refine Rg.move rfl rfl ?_
 refine Rg.nil ⟨rfl, rfl, rfl, ?_⟩
 refine Rg.gsplitp (g := 22) rfl (fun g2_8 => ?_) (fun g2_8 => ?_)
 ·refine Rg.gyes rfl rfl ?_
  refine Rg.loadc Tryz.underlying123 rfl rfl rfl g0_0 rfl ?_
  refine Rg.eqv (v' := v0) rfl ?_
  refine Rg.nil ⟨rfl, rfl, rfl, ?_⟩
  refine Rg.gyes rfl rfl ?_
  refine Rg.nilCheck rfl hd.isPtr rfl ?_
  refine Rg.nil ⟨rfl, rfl, rfl, ?_⟩
  refine Rg.gyes rfl rfl ?_
  refine Rg.fieldAddr (M := M_0_1) (A := RT.di) (B := RT.str.sl) Tryz.underlying190 rfl rfl I55 (by decide) di0 rfl rfl (by decide) hd (Le.refl _ _) (fun pn3 hpn3 => ?_)
  refine Rg.nil ⟨rfl, rfl, rfl, ?_⟩
  refine Rg.gyes rfl rfl ?_
  refine Rg.load (M := M_0_1) Tryz.underlying55 rfl rfl rfl rfl rfl hpn3 (Le.refl _ _) (fun vn3 hvn3 => ?_)
  replace hvn3 : (RT.str.sl).V M_0_1 _ d.1 vn3 := hvn3
  refine Rg.nil ⟨rfl, rfl, rfl, ?_⟩
  refine Rg.gyes rfl rfl ?_
  refine Rg.move rfl rfl ?_
  refine Rg.nil ⟨rfl, rfl, rfl, ?_⟩
  refine Rg.gyes rfl rfl ?_
  refine Rg.idx (M := M_0_1) Tryz.underlying55 I9 rfl rfl rfl hvn3 (Le.refl _ _) (by omega) (fun u2 x hg2 hu2 => ?_)
  rw [Int.toNat_natCast] at hg2
  refine Rg.nil ⟨rfl, rfl, rfl, ?_⟩
  refine Rg.gyes rfl rfl ?_
  refine Rg.load (M := M_0_1) Tryz.underlying9 rfl rfl rfl rfl rfl hu2 (Le.refl _ _) (fun vx hvx => ?_)
  obtain rfl := V_strE hvx
  refine Rg.nil ⟨rfl, rfl, rfl, ?_⟩
  refine Rg.gyes rfl rfl ?_
  refine Rg.loadc Tryz.underlying9 rfl rfl rfl g0_1 rfl ?_
  refine Rg.eqv (v' := sv k) rfl ?_
  refine Rg.nil ⟨rfl, rfl, rfl, ?_⟩
  refine Rg.gyes rfl rfl ?_
  refine Rg.streq rfl rfl rfl ?_
  refine Rg.nil ⟨rfl, rfl, rfl, ?_⟩
  refine Rg.pickt rfl rfl rfl ?_
  refine Rg.nil ⟨rfl, rfl, rfl, ?_⟩
  refine Rg.assign rfl rfl ?_
  refine Rg.nil ⟨rfl, rfl, rfl, ?_⟩
  refine Rg.assign rfl rfl ?_
  refine Rg.nil ⟨rfl, rfl, rfl, ?_⟩
  refine QRg.nil ?_
  refine T.ret ?_
  rw [← em] at *
  first
  |(have e : decide (x = k) = decide (k ∈ d.1) := decide_eq_decide.2 (by rw [← plN_is hup, hg2]; simp)
    exact Kret2 rfl rfl rfl ⟨by rw [e], S.back⟩)
  |(have e : k ∉ d.1 := fun h => by have := (plN_at hup).1 h; have := (List.getElem?_eq_some_iff.1 this).1; omega
    exact Kret2 rfl rfl rfl ⟨by rw [decide_eq_false e], S.back⟩)
 ·refine Rg.gno rfl rfl rfl rfl ?_
  refine Rg.nil ⟨rfl, rfl, rfl, ?_⟩
  refine Rg.gno rfl rfl rfl rfl ?_
  refine Rg.nil ⟨rfl, rfl, rfl, ?_⟩
  refine Rg.gno rfl rfl rfl rfl ?_
  refine Rg.nil ⟨rfl, rfl, rfl, ?_⟩
  refine Rg.gno rfl rfl rfl rfl ?_
  refine Rg.nil ⟨rfl, rfl, rfl, ?_⟩
  refine Rg.gno rfl rfl rfl rfl ?_
  refine Rg.nil ⟨rfl, rfl, rfl, ?_⟩
  refine Rg.gno rfl rfl rfl rfl ?_
  refine Rg.nil ⟨rfl, rfl, rfl, ?_⟩
  refine Rg.gno rfl rfl rfl rfl ?_
  refine Rg.nil ⟨rfl, rfl, rfl, ?_⟩
  refine Rg.gno rfl rfl rfl rfl ?_
  refine Rg.nil ⟨rfl, rfl, rfl, ?_⟩
  refine Rg.gno rfl rfl rfl rfl ?_
  refine Rg.nil ⟨rfl, rfl, rfl, ?_⟩
  refine Rg.pickf rfl rfl rfl ?_
  refine Rg.nil ⟨rfl, rfl, rfl, ?_⟩
  refine Rg.assign rfl rfl ?_
  refine Rg.nil ⟨rfl, rfl, rfl, ?_⟩
  refine Rg.assign rfl rfl ?_
  refine Rg.nil ⟨rfl, rfl, rfl, ?_⟩
  refine QRg.nil ?_
  refine T.ret ?_
  rw [← em] at *
  first
  |(have e : decide (x = k) = decide (k ∈ d.1) := decide_eq_decide.2 (by rw [← plN_is hup, hg2]; simp)
    exact Kret2 rfl rfl rfl ⟨by rw [e], S.back⟩)
  |(have e : k ∉ d.1 := fun h => by have := (plN_at hup).1 h; have := (List.getElem?_eq_some_iff.1 this).1; omega
    exact Kret2 rfl rfl rfl ⟨by rw [decide_eq_false e], S.back⟩)
theorem find_spec {M : PSet} {d : Di} {v0 : Value} {k : List UInt8} (w0 : World) (hM : Lt M w0) (hd : PtrTo RT.di M w0 v0 d) (hup : UpT d.1) (hl : d.1.length = d.2.length) :
  Spec Tryz.prog 73 #[v0, sv k] w0 (fun v w => Step M w0 M w none' ∧ ((∃ (j : Nat) (p : Value) (t : Li), v = .tuple #[p, .bool true] ∧ d.1[j]? = some k ∧ d.2[j]? = some t ∧ PtrTo RT.li M w p t) ∨ (v = .tuple #[.pointer none, .bool false] ∧ k ∉ d.1))) := by
 refine spec_of (args := [_, _]) (fn := Tryz.f73) Tryz.func73 rfl (n := 25) Tryz.ntmps73 ?_
 have S : Step M w0 M w0 none' := (Step.refl _ _).widen (fun _ h => h.elim) (fun _ h => h.elim)
 refine T.seq ?_
 refine T.region ?_
 refine Rg.assign rfl rfl ?_
 refine Rg.assign rfl rfl ?_
 refine Rg.nil ?_
 refine T.seq ?_
 refine T.region ?_
 refine Rg.move rfl rfl ?_
 refine Rg.move rfl rfl ?_
 refine Rg.call rfl rfl E123 (place_spec _ hM hd hup) (fun r1 w1 hc => ?_)
 obtain ⟨rfl, s1⟩ := hc
 replace hd := hd.le (by decide) s1.le
 replace hM := s1.lt hM
 have := S.size
 replace S := S.trans0 s1
 refine Rg.move rfl rfl ?_
 refine Rg.extract rfl rfl rfl ?_
 refine Rg.extract rfl rfl rfl ?_
 refine Rg.assign rfl rfl ?_
 refine Rg.assign rfl rfl ?_
 refine Rg.nil ?_
 refine T.seq ?_
 refine T.seq ?_
 refine T.region ?_
 refine Rg.move rfl rfl ?_
 refine Rg.not rfl rfl ?_
 refine Rg.eqv (v' := .bool (decide (k ∉ d.1))) (by simp) ?_
 refine Rg.nil ?_
 refine T.ifp rfl (fun c2 => ?_) (fun c2 => ?_)
 ·refine T.seq ?_
  refine T.region ?_
  refine Rg.assign rfl rfl ?_
  refine Rg.nil ?_
  refine T.seq ?_
  refine T.region ?_
  refine Rg.move rfl rfl ?_
  refine Rg.assign rfl rfl ?_
  refine Rg.assign rfl rfl ?_
  refine Rg.nil ?_
  refine T.ret ?_
  exact Kret2 rfl rfl rfl ⟨S, .inr ⟨rfl, c2⟩⟩
 ·refine T.skip ?_
  refine T.seq ?_
  refine T.region ?_
  refine Rg.move rfl rfl ?_
  refine Rg.nilCheck rfl hd.isPtr rfl ?_
  refine Rg.fieldAddr (M := M) (A := RT.di) (B := ((RT.li).ptr).sl) Tryz.underlying190 rfl rfl I188 (by decide) di1 rfl rfl (by decide) hd (Le.refl _ _) (fun pt hpt => ?_)
  refine Rg.load (M := M) Tryz.underlying188 rfl rfl rfl rfl rfl hpt (Le.refl _ _) (fun vt hvt => ?_)
  replace hvt : (((RT.li).ptr).sl).V M _ d.2 vt := hvt
  refine Rg.move rfl rfl ?_
  have hk := (plN_at hup).1 (Decidable.not_not.1 c2)
  have hkl := (List.getElem?_eq_some_iff.1 hk).1
  refine Rg.idx (M := M) Tryz.underlying188 I129 rfl rfl rfl hvt (Le.refl _ _) (by omega) (fun u5 t hg5 hu5 => ?_)
  rw [Int.toNat_natCast] at hg5
  refine Rg.load (M := M) Tryz.underlying129 rfl rfl rfl rfl rfl hu5 (Le.refl _ _) (fun vp hvp => ?_)
  have hvp' := V_ptr.1 hvp
  refine Rg.assign rfl rfl ?_
  refine Rg.assign rfl rfl ?_
  refine Rg.nil ?_
  refine T.ret ?_
  exact Kret2 rfl rfl rfl ⟨S, .inl ⟨_, _, t, rfl, hk, hg5, hvp'⟩⟩
end Go.K
namespace Go.K
open Go.Proofs
namespace TKSegC
theorem I188 : TI Tryz.prog 188 (.slice none 0 0) 1 24 := by unfold TI; kernel_rfl
end TKSegC
open TKSegC
set_option linter.unusedVariables false
set_option linter.unusedSimpArgs false
set_option maxRecDepth 10000
end Go.K
namespace Go.K
open Go.Proofs
namespace TKSegD
theorem I123 : TI Tryz.prog 123 (.pointer none) 1 8 := by unfold TI; kernel_rfl
end TKSegD
open TKSegD
set_option linter.unusedVariables false
set_option linter.unusedSimpArgs false
set_option maxRecDepth 10000
end Go.K
namespace Go.K
open Go.Proofs
namespace TKSegE
theorem I123 : TI Tryz.prog 123 (.pointer none) 1 8 := by unfold TI; kernel_rfl
theorem E73 : Enters Tryz.prog 73 := enters Tryz.func73 rfl (by decide)
end TKSegE
open TKSegE
set_option linter.unusedVariables false
set_option linter.unusedSimpArgs false
set_option maxRecDepth 10000
def atK (ns : List (List UInt8)) (ls : List (List Po)) (k : List UInt8) : List Po := match (ns.zip ls).find? (fun p => decide (p.1 = k)) with | some p => p.2 | none => []
theorem atK_at {ns : List (List UInt8)} (hn : ns.Nodup) {ls : List (List Po)} {k : List UInt8} {j : Nat} {l : List Po} (h : ns[j]? = some k) (hl : ls[j]? = some l) : atK ns ls k = l := by
 have : ∀ {ns : List (List UInt8)} {ls : List (List Po)} {j : Nat}, ns.Nodup → ns[j]? = some k → ls[j]? = some l → (ns.zip ls).find? (fun p => decide (p.1 = k)) = some (k, l) := by
  intro ns
  induction ns with
  |nil => intro ls j _ h; simp at h
  |cons x ns ih =>
   intro ls j hn h hl
   cases ls with
   |nil => simp at hl
   |cons y ls =>
    cases j with
    |zero => simp at h hl; subst h; subst hl; simp
    |succ j =>
     have hn' := List.nodup_cons.1 hn
     have hk : k ∈ ns := List.mem_of_getElem? (by simpa using h)
     have hx : x ≠ k := fun e => hn'.1 (by rw [e]; exact hk)
     rw [List.zip_cons_cons, List.find?_cons_of_neg (by simpa using hx)]
     exact ih hn'.2 (by simpa using h) (by simpa using hl)
 unfold atK; rw [this hn h hl]
theorem atK_none {ns : List (List UInt8)} {ls : List (List Po)} {k : List UInt8} (h : k ∉ ns) : atK ns ls k = [] := by
 unfold atK
 rw [List.find?_eq_none.2 fun p hp => by have := List.of_mem_zip hp; simp; intro e; exact h (e ▸ this.1)]
theorem atK_pk {L : List En} (k : List UInt8) : atK (keysOf L) ((keysOf L).map (pk L)) k = pk L k := by
 by_cases h : k ∈ keysOf L
 ·obtain ⟨j, hj⟩ := List.mem_iff_getElem?.1 h
  exact atK_at (keys_up L).nodup hj (by rw [List.getElem?_map, hj]; rfl)
 ·rw [atK_none h]; exact (pkF_nil 0 (fun h' => h (keys_mem.2 h'))).symm
def FindP (d : Di) (k : List UInt8) (M : PSet) (v : Value) (w : World) : Prop := (∃ (j : Nat) (t : Li), d.1[j]? = some k ∧ d.2[j]? = some t ∧ PtrTo RT.li M w v t) ∨ (v = .pointer none ∧ k ∉ d.1)
theorem FindP.step {d : Di} {k : List UInt8} {M M' : PSet} {v : Value} {w w' : World} (h : FindP d k M v w) (s : Step M w M' w' none') : FindP d k M' v w' := h.imp (fun ⟨j, t, h1, h2, h3⟩ => ⟨j, t, h1, h2, h3.le (by decide) s.le⟩) id
theorem keyw_spec {M : PSet} {t : Fd} (w0 : World) (hM : Lt M w0) (h1 : t.1.length ≤ 140737488355328) (h2 : t.2.length ≤ 140737488355328) :
  Spec Tryz.prog 74 #[kv t] w0 (fun v w => v = .string ⟨(keyE t).toArray⟩ ∧ Step M w0 M w none') := by
 refine spec_of (args := [_]) (fn := Tryz.f74) Tryz.func74 rfl (n := 9) Tryz.ntmps74 ?_
 have S : Step M w0 M w0 none' := (Step.refl _ _).widen (fun _ h => h.elim) (fun _ h => h.elim)
 refine T.seq ?_
 refine T.region ?_
 refine Rg.boxp (A := RT.fd) rfl rfl hM (kv_V (by omega) (by omega)) rfl (fun u0 w1 hu0 s0 _ => ?_)
 replace hM := s0.lt hM
 have := S.size
 replace S := S.trans0 s0
 refine Rg.assign rfl rfl ?_
 refine Rg.nil ?_
 refine T.seq ?_
 refine T.region ?_
 refine Rg.fieldAddr (M := M) (A := RT.fd) (B := RT.str) Tryz.underlying47 rfl rfl I9 (by decide) (fd0) rfl rfl (by decide) (by assumption) (by repeat (first | exact Le.refl _ _ | refine Le.trans (Step.le (by assumption)) ?_)) (fun u1_0 hu1_0 => ?_)
 refine Rg.load (M := M) Tryz.underlying9 rfl rfl rfl rfl rfl hu1_0 (Le.refl _ _) (fun v1 hv1 => ?_)
 obtain rfl := V_strE hv1
 refine Rg.cat (p := t.1) (q := [0]) rfl rfl rfl (by simp; omega) ?_
 refine Rg.fieldAddr (M := M) (A := RT.fd) (B := RT.str) Tryz.underlying47 rfl rfl I9 (by decide) (fd1) rfl rfl (by decide) (by assumption) (by repeat (first | exact Le.refl _ _ | refine Le.trans (Step.le (by assumption)) ?_)) (fun u1_3 hu1_3 => ?_)
 refine Rg.load (M := M) Tryz.underlying9 rfl rfl rfl rfl rfl hu1_3 (Le.refl _ _) (fun v4 hv4 => ?_)
 obtain rfl := V_strE hv4
 refine Rg.cat (p := t.1 ++ [0]) (q := t.2) rfl rfl rfl (by simp; omega) ?_
 refine Rg.assign rfl rfl ?_
 refine Rg.nil ?_
 refine T.ret ?_
 exact Kret1 rfl rfl ⟨rfl, S⟩
end Go.K
namespace Go.K
open Go.Proofs
namespace TKCursor
theorem I216 : TI Tryz.prog 216 (.agg #[(.pointer none), (.int .i64 0), (.slice none 0 0), (.int .i64 0), (.int .i64 0)]) 5 56 := by unfold TI; kernel_rfl
theorem B216 : placesOf Tryz.prog 216 = [(0, 1), (1, 1), (2, 1), (3, 1), (4, 1)].map some := by kernel_rfl
end TKCursor
open TKCursor
set_option linter.unusedVariables false
set_option linter.unusedSimpArgs false
set_option maxRecDepth 10000
theorem leftAt_head {l : List Po} {j : Nat} {p : Po} (h : l[j]? = some p) : (leftAt l (j : Int))[0]? = some p := by
 unfold leftAt
 rw [if_neg (by omega), Int.toNat_natCast, List.getElem?_take, if_pos (by omega), List.getElem?_drop]; simpa using h
theorem leftAt_end {l : List Po} {i : Int} (h : (l.length : Int) ≤ i) : leftAt l i = [] := by
 unfold leftAt
 rw [if_neg (by omega), List.drop_eq_nil_of_le (by omega), List.take_nil]
theorem New6_spec {M : PSet} {w0 : World} {q : Addr} {l : List Po} (hv : PtrTo RT.li M w0 (.pointer (some q)) (mkLi l)) :
  Spec Tryz.prog 140 #[.pointer (some q)] w0 (fun v' w' => ∃ bc, v' = .pointer (some ⟨bc, 0, none⟩) ∧ w0.heap.size ≤ bc ∧ Step M w0 (ins M bc) w' none' ∧ Cu 216 l (-1) (ins M bc) w' bc) := by
 refine spec_of (args := [_]) (fn := Tryz.f140) Tryz.func140 rfl (n := 12) Tryz.ntmps140 ?_
 refine T.seq ?_
 refine T.region ?_
 refine Rg.assign rfl rfl ?_
 refine Rg.nil ?_
 refine T.seq ?_
 refine T.seq ?_
 refine T.region ?_
 refine Rg.move rfl rfl ?_
 refine Rg.ptreqnil (v := .pointer (some q)) Tryz.underlying129 rfl ⟨_, rfl⟩ rfl rfl ?_
 refine Rg.eqv (v' := .bool (decide False)) rfl ?_
 refine Rg.nil ?_
 refine T.iffp rfl ((fun h => h)) ?_
 refine T.skip ?_
 refine T.seq ?_
 refine T.region ?_
 refine Rg.move rfl rfl ?_
 refine Rg.build (places := [(0, 1), (1, 1), (2, 1), (3, 1), (4, 1)]) Tryz.underlying216 I216 B216 rfl ⟨_, _, rfl, rfl, _, _, rfl, rfl, _, _, rfl, rfl, rfl⟩ (out := [_, _, .slice none 0 0, _, .int .i64 0]) ⟨0, [_], rfl, rfl, by simp [Value.cells], 1, [_], rfl, rfl, by simp [Value.cells], 3, [_], rfl, rfl, by simp [Value.cells], rfl⟩ ?_
 refine Rg.box M rfl rfl (fun bc w1 h1 h1' hS s1 => ?_)
 refine Rg.assign rfl rfl ?_
 refine Rg.nil ?_
 refine T.ret ?_
 exact Kret1 rfl rfl ⟨bc, rfl, h1, s1, .pointer (some q), .slice none 0 0, -1, 0, .inl rfl, hS, hv.le (by decide) s1.le, V_nil, by omega, by omega, fun _ => rfl, fun h => by omega⟩
def nextI (l : List Po) (i : Int) : Int := if i < l.length then i + 1 else i
theorem next_adv {l : List Po} (hm : mayPo (-1) l = true) {i : Int} (hi : -1 ≤ i ∧ i ≤ l.length) : advI l i (min (docAt l i + 1) 2147483648) = nextI l i := by
 unfold advI nextI
 rcases docAt_cases l i with ⟨h0, h, _⟩ | ⟨j, d, ps, rfl, hx, h, _⟩ | ⟨h0, h, _⟩
 ·rw [h, if_neg (by omega), if_pos (by omega)]
  rw [idx_eq (i := 0) (fun j hj => absurd hj (Nat.not_lt_zero _)) (fun p hp => by have := doc_rng hm (i := 0) (d := p.1) (ps := p.2) hp; omega) (Nat.zero_le _)]
  omega
 ·have hr := doc_rng hm hx
  have hj := (List.getElem?_eq_some_iff.1 hx).1
  rw [h, if_neg (by omega), if_pos (by omega)]
  rw [idx_eq (i := j + 1) (fun t ht p hp => ?_) (fun p hp => ?_) (by omega)]
  ·omega
  ·rcases Nat.lt_or_ge t j with h1 | h1
   ·have := docs_lt hm hp hx h1; simp only at this; omega
   ·rw [show t = j from by omega, hx] at hp; cases hp; simp only; omega
  ·have h1 := docs_lt hm hx hp (by omega)
   have h2 := doc_rng hm (i := j + 1) (d := p.1) (ps := p.2) hp
   simp only at h1; omega
 ·rw [h, if_pos (by omega), if_neg (by omega)]
end Go.K
namespace Go.K
open Go.Proofs
namespace TKIdx
theorem E186 : Enters Tryz.prog 186 := enters Tryz.func186 rfl (by decide)
end TKIdx
open TKIdx
set_option linter.unusedVariables false
set_option linter.unusedSimpArgs false
set_option maxRecDepth 10000
theorem Adv1_spec {M : PSet} {w0 : World} {x : Value} {d to : Int} {bt : Nat} (hM : Lt M w0) (hb : w0.heap[bt]? = some (.cells #[.int .i64 to] 3 (0, 0))) :
  Spec Tryz.prog 186 #[.agg #[.int .i64 d, x], .pointer (some ⟨bt, 0, none⟩)] w0 (fun v' w' => v' = .bool (decide (to ≤ d)) ∧ Step M w0 M w' none') := by
 refine spec_of (args := [_, _]) (fn := Tryz.f186) Tryz.func186 rfl (n := 8) Tryz.ntmps186 ?_
 refine T.seq ?_
 refine T.region ?_
 refine Rg.box M rfl rfl (fun bx w1 h1 h1' hS s1 => ?_)
 change w1.heap[bx]? = some (.cells #[.int .i64 d, x] _ _) at hS
 have hb1 := s1.same0 hb
 refine Rg.assign rfl rfl ?_
 refine Rg.nil ?_
 refine T.seq ?_
 refine T.region ?_
 refine Rg.fieldc Tryz.underlying153 rfl rfl I3 (by decide) rfl rfl ?_
 refine Rg.loadc Tryz.underlying3 rfl rfl rfl (by assumption) rfl ?_
 refine Rg.loadc Tryz.underlying3 rfl rfl rfl (by assumption) rfl ?_
 refine Rg.ige rfl rfl rfl ?_
 refine Rg.assign rfl rfl ?_
 refine Rg.nil ?_
 refine T.ret ?_
 exact Kret1 rfl rfl ⟨rfl, s1.back⟩
set_option maxHeartbeats 2000000 in
theorem IndexPo_spec {M : PSet} {w0 : World} {v : Value} {lf : List Po} {to : Int} {bt : Nat} (hM : Lt M w0) (hv : ((RT.po).sl).V M w0 lf v) (hb : w0.heap[bt]? = some (.cells #[.int .i64 to] 3 (0, 0))) :
  Spec Tryz.prog 185 #[v, .func (.func 186) #[] #[.pointer (some ⟨bt, 0, none⟩)]] w0 (fun v' w' => v' = .int .i64 (if idx lf to < lf.length then (idx lf to : Int) else -1) ∧ Step M w0 M w' none') := by
 have hlen := V_sl_len hv
 refine spec_of (args := [_, _]) (fn := Tryz.f185) Tryz.func185 rfl (n := 19) Tryz.ntmps185 ?_
 refine T.seq ?_
 refine T.region ?_
 refine Rg.assign rfl rfl ?_
 refine Rg.nil ?_
 refine T.seq ?_
 refine T.seq ?_
 refine T.region ?_
 refine Rg.move rfl rfl ?_
 refine Rg.lensl Tryz.underlying107 rfl hv rfl ?_
 refine Rg.move rfl rfl ?_
 refine Rg.nil ?_
 refine T.block ?_
 refine T.loop (σ := Nat) (fun s => [(0, v), (1, .func (.func 186) #[] #[.pointer (some ⟨bt, 0, none⟩)]), (7, .int .i64 lf.length), (8, .int .i64 s)]) (fun s w => s ≤ lf.length ∧ Step M w0 M w none' ∧ ∀ j, j < s → ∀ p, lf[j]? = some p → p.1 < to) (fun s => lf.length - s) 0 (.cons rfl (.cons rfl (.cons rfl (.cons rfl .nil)))) ?_ ?_
 ·exact ⟨Nat.zero_le _, Step.refl _ _, fun j hj => absurd hj (Nat.not_lt_zero _)⟩
 ·rintro k w1 ⟨hk, S, hlt⟩
  refine T.seq ?_
  refine T.region ?_
  refine Rg.ilt rfl rfl rfl ?_
  refine Rg.nil ?_
  refine T.seq ?_
  refine T.ifp rfl (fun c2 => ?_) (fun c2 => ?_)
  ·refine T.skip ?_
   refine T.seq ?_
   refine T.block ?_
   refine T.seq ?_
   refine T.region ?_
   refine Rg.move rfl rfl ?_
   refine Rg.assign rfl rfl ?_
   refine Rg.nil ?_
   refine T.seq ?_
   refine T.region ?_
   refine Rg.move rfl rfl ?_
   refine Rg.move rfl rfl ?_
   refine Rg.move rfl rfl ?_
   obtain ⟨⟨d, ps⟩, hx⟩ : ∃ x, (lf)[k]? = some x := ⟨_, List.getElem?_eq_getElem (by omega)⟩
   refine Rg.idx (M := M) Tryz.underlying107 I153 rfl rfl rfl (hv.le S.le) (Le.refl _ _) (by first | omega | decide) (fun u4_3 a4_3 hg4_3 hu4_3 => ?_)
   obtain rfl : (d, ps) = a4_3 := Eq.symm (Option.some.inj (hg4_3.symm.trans (by simpa using hx)))
   refine Rg.loadagg (M := M) (A := RT.po) Tryz.underlying153 rfl I153 (by decide) rfl rfl rfl (by assumption) (by repeat (first | exact Le.refl _ _ | refine Le.trans (Step.le (by assumption)) ?_)) (fun v4_4 hv4_4 => ?_)
   obtain ⟨x4, rfl, _, _⟩ := po_val hv4_4
   refine Rg.callv (first := []) (captured := [.pointer (some ⟨bt, 0, none⟩)]) (xs := [.tmp 15]) rfl rfl rfl E186 (Adv1_spec (M := M) (d := d) (x := x4) (S.lt hM) (S.same0 hb)) (fun r w2 h2 => ?_)
   obtain ⟨rfl, s2⟩ := h2
   refine Rg.nil ?_
   refine T.ifp rfl (fun c4 => ?_) (fun c4 => ?_)
   ·refine T.seq ?_
    refine T.region ?_
    refine Rg.move rfl rfl ?_
    refine Rg.assign rfl rfl ?_
    refine Rg.nil ?_
    refine T.ret ?_
    have he : idx lf to = k := idx_eq hlt (fun p hp => by rw [hx] at hp; cases hp; exact c4) hk
    exact Kret1 rfl rfl ⟨by rw [he, if_pos (by omega)], S.trans0 s2⟩
   ·refine T.skip ?_
    refine T.region ?_
    refine Rg.iadd rfl rfl rfl (by omega) ?_
    refine Rg.move rfl rfl ?_
    refine Rg.nil ?_
    refine ⟨rfl, k + 1, (.cons rfl (.cons rfl (.cons rfl (.cons rfl .nil)))), ?_, ?_⟩
    ·refine ⟨by omega, S.trans0 s2, fun j hj p hp => ?_⟩
     rcases Nat.lt_or_ge j k with hjk | hjk
     ·exact hlt j hjk p hp
     ·rw [show j = k from by omega, hx] at hp; cases hp; simp only; omega
    ·show _ - (k + 1) < _ - k; omega
  ·refine T.exit ?_
   refine T.seq ?_
   refine T.region ?_
   refine Rg.assign rfl rfl ?_
   refine Rg.nil ?_
   refine T.ret ?_
   have he : idx lf to = lf.length := by
    obtain rfl : k = lf.length := by omega
    exact idx_eq hlt (fun p hp => by simp at hp) (Nat.le_refl _)
   exact Kret1 rfl rfl ⟨by rw [he, if_neg (by omega)], S⟩
end Go.K
namespace Go.K
open Go.Proofs
namespace TKAdv
theorem I107 : TI Tryz.prog 107 (.slice none 0 0) 1 24 := by unfold TI; kernel_rfl
theorem E141 : Enters Tryz.prog 141 := enters Tryz.func141 rfl (by decide)
theorem E180 : Enters Tryz.prog 180 := enters Tryz.func180 rfl (by decide)
theorem E183 : Enters Tryz.prog 183 := enters Tryz.func183 rfl (by decide)
theorem E184 : Enters Tryz.prog 184 := enters Tryz.func184 rfl (by decide)
theorem E185 : Enters Tryz.prog 185 := enters Tryz.func185 rfl (by decide)
end TKAdv
open TKAdv
set_option linter.unusedVariables false
set_option linter.unusedSimpArgs false
set_option maxRecDepth 10000
set_option maxHeartbeats 2000000 in
theorem Advance_spec {M : PSet} {w0 : World} {bc : Nat} {l : List Po} {i to : Int} (h : Cu 216 l i M w0 bc) (hM : Lt M w0) (hm : mayPo (-1) l = true) (hps : ∀ p ∈ l, p.2.length ≤ 1099511627776) (hbl : (putPo (-1) l).length ≤ 1099511627776) (hll : l.length ≤ 1099511627776) (hto : -9223372036854775808 ≤ to ∧ to ≤ 9223372036854775807) :
  Spec Tryz.prog 141 #[.pointer (some ⟨bc, 0, none⟩), .int .i64 to] w0 (fun v' w' => v' = .int .i64 (docAt l (advI l i to)) ∧ Step M w0 M w' (fun b => b = bc) ∧ Cu 216 l (advI l i to) M w' bc) := by
 obtain ⟨p, u, k, cnt, hMb, hb, hp, hu, hi, hk, hk0, hk1⟩ := id h
 have hnb : (mkLi l).2.1.length = (l.length + 7) / 8 := by simp [mkLi, blks]
 have hNb : ∀ b : Nat, b = bc → M b := fun b hb => by rw [hb]; exact hMb
 have hdr := docAt_rng hm i
 refine spec_of (args := [_, _]) (fn := Tryz.f141) Tryz.func141 rfl (n := 107) Tryz.ntmps141 ?_
 refine T.seq ?_
 refine T.region ?_
 refine Rg.box M rfl rfl (fun bt w1 ht ht' hT s1 => ?_)
 change w1.heap[bt]? = some (.cells #[.int .i64 to] _ _) at hT
 have hbt : bt ≠ bc := by have := lt_of_get hb; omega
 have hb1 := s1.same0 hb
 generalize hM1e : ins M bt = M1 at s1
 have hM1 := s1.lt hM
 have hp1 := hp.le (by decide) s1.le
 have hu1 := hu.le s1.le
 have hMb1 := (s1.mem bc (lt_of_get hb)).2 hMb
 have hcM : ∀ b : Nat, b = bc → M1 b := fun b h => by rw [h]; exact hMb1
 refine Rg.assign rfl rfl ?_
 refine Rg.nil ?_
 refine T.seq ?_
 refine T.seq ?_
 apply T.draw (M := M1) mixed [Asr.eq _, Asr.eq _, Asr.eq _, Asr.eq _, Asr.eq _, Asr.eq _]
 ·rfl
 ·refine Obls.cons ?_ ?_
  ·intro wD E sD
   refine Rg.loadc Tryz.underlying3 rfl rfl rfl (Step.same0 sD (by assumption)) rfl ?_
   exact Rg.nil ⟨rfl, rfl, _, rfl, rfl, Step.refl _ _⟩
  refine Obls.cons ?_ ?_
  ·intro wD E sD
   refine Rg.move rfl rfl ?_
   exact Rg.nil ⟨rfl, rfl, _, rfl, rfl, Step.refl _ _⟩
  refine Obls.cons ?_ ?_
  ·intro wD E sD
   intro x_ hx_; have hx_ : x_ = _ := hx_; subst x_
   refine Rg.nilCheck rfl ⟨_, rfl⟩ rfl ?_
   exact Rg.nil ⟨rfl, rfl, _, rfl, rfl, Step.refl _ _⟩
  refine Obls.cons ?_ ?_
  ·intro wD E sD
   intro x_ hx_; have hx_ : x_ = _ := hx_; subst x_
   refine Rg.fieldc Tryz.underlying216 rfl rfl I3 (by decide) rfl rfl ?_
   exact Rg.nil ⟨rfl, rfl, _, rfl, rfl, Step.refl _ _⟩
  refine Obls.cons ?_ ?_
  ·intro wD E sD
   intro x_ hx_; have hx_ : x_ = _ := hx_; subst x_
   refine Rg.loadc Tryz.underlying3 rfl rfl rfl (Step.same0 sD (by assumption)) rfl ?_
   exact Rg.nil ⟨rfl, rfl, _, rfl, rfl, Step.refl _ _⟩
  refine Obls.cons ?_ ?_
  ·intro wD E sD
   intro x_ hx_; have hx_ : x_ = _ := hx_; subst x_
   intro x_ hx_; have hx_ : x_ = _ := hx_; subst x_
   refine Rg.ile rfl rfl rfl ?_
   exact Rg.nil ⟨rfl, rfl, _, rfl, rfl, Step.refl _ _⟩
  exact Obls.nil
 ·intro wD1 sD1
  intro x_ hx_; have hx_ : x_ = _ := hx_; subst x_
  intro x_ hx_; have hx_ : x_ = _ := hx_; subst x_
  intro x_ hx_; have hx_ : x_ = _ := hx_; subst x_
  intro x_ hx_; have hx_ : x_ = _ := hx_; subst x_
  intro x_ hx_; have hx_ : x_ = _ := hx_; subst x_
  intro x_ hx_; have hx_ : x_ = _ := hx_; subst x_
  have hb2 := sD1.same0 hb1
  refine T.ifp rfl (fun c1 => ?_) (fun c1 => ?_)
  ·refine T.seq ?_
   refine T.region ?_
   refine Rg.move rfl rfl ?_
   refine Rg.nilCheck rfl ⟨_, rfl⟩ rfl ?_
   refine Rg.fieldc Tryz.underlying216 rfl rfl I3 (by decide) rfl rfl ?_
   refine Rg.loadc Tryz.underlying3 rfl rfl rfl (by assumption) rfl ?_
   refine Rg.assign rfl rfl ?_
   refine Rg.nil ?_
   refine T.ret ?_
   have he : advI l i to = i := by unfold advI; rw [if_pos c1]
   rw [he]
   have S := s1.trans0 sD1
   exact Kret1 rfl rfl ⟨rfl, S.back.widen (fun _ h => h.elim) hNb, h.step S.back (fun h => h)⟩
  ·refine T.skip ?_
   refine T.seq ?_
   refine T.region ?_
   refine Rg.move rfl rfl ?_
   refine Rg.nilCheck rfl ⟨_, rfl⟩ rfl ?_
   refine Rg.fieldc Tryz.underlying216 rfl rfl I3 (by decide) rfl rfl ?_
   refine Rg.loadc Tryz.underlying3 rfl rfl rfl (by assumption) rfl ?_
   refine Rg.max2 rfl rfl rfl ?_
   refine Rg.assign rfl rfl ?_
   refine Rg.nil ?_
   refine T.seq ?_
   refine T.block ?_
   refine T.loop (σ := Nat) (fun s => [(0, .pointer (some ⟨bc, 0, none⟩)), (3, .pointer (some ⟨bt, 0, none⟩)), (5, .int .i64 s)]) (fun s w => s ≤ (l.length + 7) / 8 ∧ lastPo (-1) (l.take (8 * s)) < to ∧ Step M1 w1 M1 w none') (fun s => (l.length + 7) / 8 - s) (max k 0).toNat (.cons rfl (.cons rfl (.cons (by rw [show (((max k 0).toNat : Nat) : Int) = max k 0 from by omega]; rfl) .nil))) ?_ ?_
   ·exact ⟨by omega, adv_start hm hi hk hk0 hk1 (by omega), sD1⟩
   ·rintro n w4 ⟨hn, hlo, S4⟩
    have hb4 := S4.same0 hb1
    have hT4 := S4.same0 hT
    have hp4 := hp1.le (by decide) S4.le
    refine T.seq ?_
    refine T.seq ?_
    by_cases g4_7 : (n : Int) < (((l.length + 7) / 8 : Nat) : Int)
    ·apply T.draw (M := M1) mixed [Asr.eq _, Asr.eq _, Asr.eq _, Asr.eq _, Asr.eq _, Asr.eq _, Asr.eq _, Asr.eq (.bool true), Asr.eq _, Asr.eq _, Asr.eq _, Asr.eq _, Asr.eq _, Asr.eq _, Asr.eq _, Asr.eq _, Asr.eq _]
     ·rfl
     ·refine Obls.cons ?_ ?_
      ·intro wD E sD
       refine Rg.move rfl rfl ?_
       exact Rg.nil ⟨rfl, rfl, _, rfl, rfl, Step.refl _ _⟩
      refine Obls.cons ?_ ?_
      ·intro wD E sD
       refine Rg.move rfl rfl ?_
       exact Rg.nil ⟨rfl, rfl, _, rfl, rfl, Step.refl _ _⟩
      refine Obls.cons ?_ ?_
      ·intro wD E sD
       intro x_ hx_; have hx_ : x_ = _ := hx_; subst x_
       refine Rg.nilCheck rfl ⟨_, rfl⟩ rfl ?_
       exact Rg.nil ⟨rfl, rfl, _, rfl, rfl, Step.refl _ _⟩
      refine Obls.cons ?_ ?_
      ·intro wD E sD
       intro x_ hx_; have hx_ : x_ = _ := hx_; subst x_
       refine Rg.fieldc Tryz.underlying216 rfl rfl I129 (by decide) rfl rfl ?_
       exact Rg.nil ⟨rfl, rfl, _, rfl, rfl, Step.refl _ _⟩
      refine Obls.cons ?_ ?_
      ·intro wD E sD
       intro x_ hx_; have hx_ : x_ = _ := hx_; subst x_
       refine Rg.loadc Tryz.underlying129 rfl rfl rfl (Step.same0 sD (by assumption)) rfl ?_
       exact Rg.nil ⟨rfl, rfl, _, rfl, rfl, Step.refl _ _⟩
      refine Obls.cons ?_ ?_
      ·intro wD E sD
       intro x_ hx_; have hx_ : x_ = _ := hx_; subst x_
       refine Rg.call rfl rfl E183 (Blocks_spec (M := M1) (hp4.le (by decide) sD.le)) (fun r wc h => ?_)
       obtain ⟨rfl, rfl⟩ := h
       exact Rg.nil ⟨rfl, rfl, _, rfl, congrArg (fun n : Nat => Value.int .i64 n) hnb, Step.refl _ _⟩
      refine Obls.cons ?_ ?_
      ·intro wD E sD
       intro x_ hx_; have hx_ : x_ = _ := hx_; subst x_
       intro x_ hx_; have hx_ : x_ = _ := hx_; subst x_
       refine Rg.ilt rfl rfl rfl ?_
       exact Rg.nil ⟨rfl, rfl, _, rfl, rfl, Step.refl _ _⟩
      refine Obls.cons ?_ ?_
      ·intro wD E sD
       intro x_ hx_; have hx_ : x_ = _ := hx_; subst x_
       intro x_ hx_; have hx_ : x_ = _ := hx_; subst x_
       refine Rg.move rfl rfl ?_
       refine Rg.nil ⟨rfl, rfl, _, rfl, ?_, Step.refl _ _⟩
       exact congrArg Value.bool (decide_eq_true g4_7)
      refine Obls.cons ?_ ?_
      ·intro wD E sD
       intro x_ hx_; have hx_ : x_ = _ := hx_; subst x_
       refine Rg.gyes rfl rfl ?_
       refine Rg.move rfl rfl ?_
       exact Rg.nil ⟨rfl, rfl, _, rfl, rfl, Step.refl _ _⟩
      refine Obls.cons ?_ ?_
      ·intro wD E sD
       intro x_ hx_; have hx_ : x_ = _ := hx_; subst x_
       intro x_ hx_; have hx_ : x_ = _ := hx_; subst x_
       refine Rg.gyes rfl rfl ?_
       refine Rg.nilCheck rfl ⟨_, rfl⟩ rfl ?_
       exact Rg.nil ⟨rfl, rfl, _, rfl, rfl, Step.refl _ _⟩
      refine Obls.cons ?_ ?_
      ·intro wD E sD
       intro x_ hx_; have hx_ : x_ = _ := hx_; subst x_
       intro x_ hx_; have hx_ : x_ = _ := hx_; subst x_
       refine Rg.gyes rfl rfl ?_
       refine Rg.fieldc Tryz.underlying216 rfl rfl I129 (by decide) rfl rfl ?_
       exact Rg.nil ⟨rfl, rfl, _, rfl, rfl, Step.refl _ _⟩
      refine Obls.cons ?_ ?_
      ·intro wD E sD
       intro x_ hx_; have hx_ : x_ = _ := hx_; subst x_
       intro x_ hx_; have hx_ : x_ = _ := hx_; subst x_
       refine Rg.gyes rfl rfl ?_
       refine Rg.loadc Tryz.underlying129 rfl rfl rfl (Step.same0 sD (by assumption)) rfl ?_
       exact Rg.nil ⟨rfl, rfl, _, rfl, rfl, Step.refl _ _⟩
      refine Obls.cons ?_ ?_
      ·intro wD E sD
       intro x_ hx_; have hx_ : x_ = _ := hx_; subst x_
       refine Rg.gyes rfl rfl ?_
       refine Rg.move rfl rfl ?_
       exact Rg.nil ⟨rfl, rfl, _, rfl, rfl, Step.refl _ _⟩
      refine Obls.cons ?_ ?_
      ·intro wD E sD
       intro x_ hx_; have hx_ : x_ = _ := hx_; subst x_
       intro x_ hx_; have hx_ : x_ = _ := hx_; subst x_
       intro x_ hx_; have hx_ : x_ = _ := hx_; subst x_
       intro x_ hx_; have hx_ : x_ = _ := hx_; subst x_
       refine Rg.gyes rfl rfl ?_
       refine Rg.call rfl rfl E184 (Last_spec (k := n) (hp4.le (by decide) sD.le)) (fun r wc h => ?_)
       obtain ⟨rfl, rfl⟩ := h
       exact Rg.nil ⟨rfl, rfl, _, rfl, rfl, Step.refl _ _⟩
      refine Obls.cons ?_ ?_
      ·intro wD E sD
       intro x_ hx_; have hx_ : x_ = _ := hx_; subst x_
       refine Rg.gyes rfl rfl ?_
       refine Rg.loadc Tryz.underlying3 rfl rfl rfl (Step.same0 sD (by assumption)) rfl ?_
       exact Rg.nil ⟨rfl, rfl, _, rfl, rfl, Step.refl _ _⟩
      refine Obls.cons ?_ ?_
      ·intro wD E sD
       intro x_ hx_; have hx_ : x_ = _ := hx_; subst x_
       intro x_ hx_; have hx_ : x_ = _ := hx_; subst x_
       intro x_ hx_; have hx_ : x_ = _ := hx_; subst x_
       refine Rg.gyes rfl rfl ?_
       refine Rg.ilt rfl rfl rfl ?_
       exact Rg.nil ⟨rfl, rfl, _, rfl, rfl, Step.refl _ _⟩
      refine Obls.cons ?_ ?_
      ·intro wD E sD
       intro x_ hx_; have hx_ : x_ = _ := hx_; subst x_
       intro x_ hx_; have hx_ : x_ = _ := hx_; subst x_
       refine Rg.pickt rfl rfl rfl ?_
       exact Rg.nil ⟨rfl, rfl, _, rfl, rfl, Step.refl _ _⟩
      exact Obls.nil
     ·intro wD4 sD4
      intro x_ hx_; have hx_ : x_ = _ := hx_; subst x_
      intro x_ hx_; have hx_ : x_ = _ := hx_; subst x_
      intro x_ hx_; have hx_ : x_ = _ := hx_; subst x_
      intro x_ hx_; have hx_ : x_ = _ := hx_; subst x_
      intro x_ hx_; have hx_ : x_ = _ := hx_; subst x_
      intro x_ hx_; have hx_ : x_ = _ := hx_; subst x_
      intro x_ hx_; have hx_ : x_ = _ := hx_; subst x_
      intro x_ hx_; have hx_ : x_ = _ := hx_; subst x_
      intro x_ hx_; have hx_ : x_ = _ := hx_; subst x_
      intro x_ hx_; have hx_ : x_ = _ := hx_; subst x_
      intro x_ hx_; have hx_ : x_ = _ := hx_; subst x_
      intro x_ hx_; have hx_ : x_ = _ := hx_; subst x_
      intro x_ hx_; have hx_ : x_ = _ := hx_; subst x_
      intro x_ hx_; have hx_ : x_ = _ := hx_; subst x_
      intro x_ hx_; have hx_ : x_ = _ := hx_; subst x_
      intro x_ hx_; have hx_ : x_ = _ := hx_; subst x_
      intro x_ hx_; have hx_ : x_ = _ := hx_; subst x_
      replace S4 := S4.trans0 sD4
      replace hb4 := sD4.same0 hb4
      replace hT4 := sD4.same0 hT4
      replace hp4 := hp4.le (by decide) sD4.le
      have hM4 := S4.lt hM1
      refine T.ifp rfl (fun c4 => ?_) (fun c4 => ?_)
      ·refine T.skip ?_
       refine T.block ?_
       refine T.region ?_
       refine Rg.move rfl rfl ?_
       refine Rg.iadd rfl rfl rfl (by omega) ?_
       refine Rg.assign rfl rfl ?_
       refine Rg.nil ?_
       refine ⟨rfl, n + 1, (.cons rfl (.cons rfl (.cons rfl .nil))), ?_, ?_⟩
       ·have hlm := lastB_mk (g := l) (k := n) (by omega)
        refine ⟨by omega, ?_, S4⟩
        rw [show 8 * (n + 1) = 8 * n + 8 from by omega, ← hlm]; exact c4
       ·show _ - (n + 1) < _ - n; omega
      ·refine T.exit ?_
       refine T.seq ?_
       refine T.seq ?_
       refine T.region ?_
       refine Rg.move rfl rfl ?_
       refine Rg.move rfl rfl ?_
       refine Rg.nilCheck rfl ⟨_, rfl⟩ rfl ?_
       refine Rg.fieldc Tryz.underlying216 rfl rfl I129 (by decide) rfl rfl ?_
       refine Rg.loadc Tryz.underlying129 rfl rfl rfl (by assumption) rfl ?_
       refine Rg.call rfl rfl E183 (Blocks_spec (M := M1) hp4) (fun r wc h => ?_)
       obtain ⟨rfl, rfl⟩ := h
       refine Rg.eqv (v' := .int .i64 (((l.length + 7) / 8 : Nat) : Int)) (congrArg (fun n : Nat => Value.int .i64 n) hnb) ?_
       refine Rg.ieq rfl rfl rfl ?_
       refine Rg.nil ?_
       refine T.ifp rfl (fun c6 => ?_) (fun c6 => ?_)
       ·exfalso; omega
       ·have hnk : n < (l.length + 7) / 8 := by omega
        have hhi : to ≤ lastPo (-1) (l.take (8 * n + 8)) := by
         first
         |(exfalso; omega)
         |(have := lastB_mk (g := l) (k := n) (by omega); omega)
        refine T.skip ?_
        refine T.seq ?_
        refine T.seq ?_
        refine T.region ?_
        refine Rg.move rfl rfl ?_
        refine Rg.move rfl rfl ?_
        refine Rg.nilCheck rfl ⟨_, rfl⟩ rfl ?_
        refine Rg.fieldc Tryz.underlying216 rfl rfl I3 (by decide) rfl rfl ?_
        refine Rg.loadc Tryz.underlying3 rfl rfl rfl (by assumption) rfl ?_
        refine Rg.ine rfl rfl rfl ?_
        refine Rg.nil ?_
        refine T.ifp rfl (fun c9 => ?_) (fun c9 => ?_)
        ·refine T.seq ?_
         refine T.region ?_
         refine Rg.move rfl rfl ?_
         refine Rg.move rfl rfl ?_
         refine Rg.move rfl rfl ?_
         refine Rg.move rfl rfl ?_
         refine Rg.nilCheck rfl ⟨_, rfl⟩ rfl ?_
         refine Rg.fieldc Tryz.underlying216 rfl rfl I129 (by decide) rfl rfl ?_
         refine Rg.loadc Tryz.underlying129 rfl rfl rfl (by assumption) rfl ?_
         refine Rg.move rfl rfl ?_
         refine Rg.call rfl rfl E180 (Block_spec (M := M1) (k := n) hM4 hp4 hm hps hbl) (fun u10 w10 h => ?_)
         obtain ⟨s10, h10⟩ := h
         rw [if_pos (by unfold isB; simp; omega), Int.toNat_natCast] at h10
         have hb10 := s10.same0 hb4
         refine Rg.nilCheck rfl ⟨_, rfl⟩ rfl ?_
         refine Rg.fieldc Tryz.underlying216 rfl rfl I3 (by decide) rfl rfl ?_
         refine Rg.storec (M := M1) I3 rfl rfl hb10 rfl rfl hMb1 (fun w11 hb11 s11 => ?_)
         change w11.heap[bc]? = some (.cells #[p, .int .i64 n, u, .int .i64 (docAt l i), .int .i64 cnt] 216 (0, 0)) at hb11
         refine Rg.nilCheck rfl ⟨_, rfl⟩ rfl ?_
         refine Rg.fieldc Tryz.underlying216 rfl rfl I107 (by decide) rfl rfl ?_
         refine Rg.storec (M := M1) I107 rfl rfl hb11 rfl (V_one h10 rfl rfl) hMb1 (fun w12 hb12 s12 => ?_)
         change w12.heap[bc]? = some (.cells #[p, .int .i64 n, u10, .int .i64 (docAt l i), .int .i64 cnt] 216 (0, 0)) at hb12
         refine Rg.nil ?_
         refine T.region ?_
         refine Rg.move rfl rfl ?_
         refine Rg.nilCheck rfl ⟨_, rfl⟩ rfl ?_
         refine Rg.fieldc Tryz.underlying216 rfl rfl I3 (by decide) rfl rfl ?_
         refine Rg.loadc Tryz.underlying3 rfl rfl rfl (by assumption) rfl ?_
         refine Rg.addw rfl rfl rfl ?_
         refine Rg.nilCheck rfl ⟨_, rfl⟩ rfl ?_
         refine Rg.fieldc Tryz.underlying216 rfl rfl I3 (by decide) rfl rfl ?_
         refine Rg.storec (M := M1) I3 rfl rfl hb12 rfl rfl hMb1 (fun w13 hb13 s13 => ?_)
         change w13.heap[bc]? = some (.cells #[p, .int .i64 n, u10, .int .i64 (docAt l i), .int .i64 (IntKind.i64.wrap (cnt + 1))] 216 (0, 0)) at hb13
         obtain ⟨lf, uX, cX, s, wX, hwX, hbX, hlV, hlf, hs1, hs2, hs3, hs4, hpX, hTX, SX⟩ : ∃ lf uX cX s wX, wX = w13 ∧ wX.heap[bc]? = some (.cells #[p, .int .i64 n, uX, .int .i64 (docAt l i), .int .i64 cX] 216 (0, 0)) ∧ ((RT.po).sl).V M1 wX lf uX ∧ lf = (l.drop s).take (8 * n + 8 - s) ∧ 8 * n ≤ s ∧ s < 8 * n + 8 ∧ s < l.length ∧ lastPo (-1) (l.take s) < to ∧ PtrTo RT.li M1 wX p (mkLi l) ∧ wX.heap[bt]? = some (.cells #[.int .i64 to] 3 (0, 0)) ∧ Step M1 w1 M1 wX (fun b => b = bc) := ⟨_, u10, _, 8 * n, w13, rfl, hb13, ((h10.le s11.le).le s12.le).le s13.le, by rw [show 8 * n + 8 - 8 * n = 8 from by omega], by omega, by omega, by omega, hlo, (((hp4.le (by decide) s10.le).le (by decide) s11.le).le (by decide) s12.le).le (by decide) s13.le, s13.keep (s12.keep (s11.keep (s10.same0 hT4) hbt) hbt) hbt, ((((S4.widen (fun _ h => h.elim) hcM).trans0 s10).trans s11 (fun _ _ h => h)).trans s12 (fun _ _ h => h)).trans s13 (fun _ _ h => h)⟩
         subst hwX
         clear hb13
         refine Rg.nil ?_
         refine T.seq ?_
         obtain ⟨ha1, ha2, ha3, ha4, ha5⟩ := adv_block hm hs1 hs2 hs3 hs4 hhi hlf
         have hMX := SX.lt hM1
         obtain ⟨⟨d, ps⟩, hx⟩ : ∃ x, l[idx l to]? = some x := ⟨_, List.getElem?_eq_getElem ha3⟩
         have hh := leftAt_head hx
         have hhl := (List.getElem?_eq_some_iff.1 hh).1
         apply T.drawT (M := M1) mixed [] [Asr.eq _, Asr.eq _, Asr.eq _, Asr.eq _, Asr.eq uX, Asr.eq _, Asr.eq _, Asr.eq _, Asr.eq uX, Asr.eq _, Asr.eq _, Asr.V ((RT.po).sl) (leftAt l (idx l to : Nat))] 12
         ·rfl
         ·rfl
         ·rfl
         ·rfl
         ·rfl
         ·exact fun p hp => by cases hp
         ·exact UOk.none
         ·refine OblsS.cons ?_ ?_
          ·intro wD E sD
           refine Rg.move rfl rfl ?_
           exact Rg.nil ⟨rfl, rfl, _, rfl, rfl, Step.refl _ _⟩
          refine OblsS.cons ?_ ?_
          ·intro wD E sD
           refine Rg.move rfl rfl ?_
           exact Rg.nil ⟨rfl, rfl, _, rfl, rfl, Step.refl _ _⟩
          refine OblsS.cons ?_ ?_
          ·intro wD E sD
           intro x_ hx_; have hx_ : x_ = _ := hx_; subst x_
           refine Rg.nilCheck rfl ⟨_, rfl⟩ rfl ?_
           exact Rg.nil ⟨rfl, rfl, _, rfl, rfl, Step.refl _ _⟩
          refine OblsS.cons ?_ ?_
          ·intro wD E sD
           intro x_ hx_; have hx_ : x_ = _ := hx_; subst x_
           refine Rg.fieldc Tryz.underlying216 rfl rfl I107 (by decide) rfl rfl ?_
           exact Rg.nil ⟨rfl, rfl, _, rfl, rfl, Step.refl _ _⟩
          refine OblsS.cons ?_ ?_
          ·intro wD E sD
           intro x_ hx_; have hx_ : x_ = _ := hx_; subst x_
           refine Rg.loadc Tryz.underlying107 rfl rfl rfl (Step.same0 sD (by assumption)) rfl ?_
           exact Rg.nil ⟨rfl, rfl, _, rfl, rfl, Step.refl _ _⟩
          refine OblsS.cons ?_ ?_
          ·intro wD E sD
           refine Rg.move rfl rfl ?_
           exact Rg.nil ⟨rfl, rfl, _, rfl, rfl, Step.refl _ _⟩
          refine OblsS.cons ?_ ?_
          ·intro wD E sD
           intro x_ hx_; have hx_ : x_ = _ := hx_; subst x_
           refine Rg.nilCheck rfl ⟨_, rfl⟩ rfl ?_
           exact Rg.nil ⟨rfl, rfl, _, rfl, rfl, Step.refl _ _⟩
          refine OblsS.cons ?_ ?_
          ·intro wD E sD
           intro x_ hx_; have hx_ : x_ = _ := hx_; subst x_
           refine Rg.fieldc Tryz.underlying216 rfl rfl I107 (by decide) rfl rfl ?_
           exact Rg.nil ⟨rfl, rfl, _, rfl, rfl, Step.refl _ _⟩
          refine OblsS.cons ?_ ?_
          ·intro wD E sD
           intro x_ hx_; have hx_ : x_ = _ := hx_; subst x_
           refine Rg.loadc Tryz.underlying107 rfl rfl rfl (Step.same0 sD (by assumption)) rfl ?_
           exact Rg.nil ⟨rfl, rfl, _, rfl, rfl, Step.refl _ _⟩
          refine OblsS.cons ?_ ?_
          ·intro wD E sD
           refine Rg.makeFunc (xs := []) (ys := [.tmp 3]) rfl rfl rfl ?_
           exact Rg.nil ⟨rfl, rfl, _, rfl, rfl, Step.refl _ _⟩
          refine OblsS.cons ?_ ?_
          ·intro wD E sD
           intro x_ hx_; have hx_ : x_ = _ := hx_; subst x_
           intro x_ hx_; have hx_ : x_ = _ := hx_; subst x_
           refine Rg.call rfl rfl E185 (IndexPo_spec (M := M1) (sD.lt hMX) (hlV.le sD.le) (sD.same0 hTX)) (fun r wi h => ?_)
           obtain ⟨rfl, s⟩ := h
           refine Rg.eqv (v' := .int .i64 ((idx lf to : Nat) : Int)) (by rw [if_pos ha2]) ?_
           exact Rg.nil ⟨rfl, rfl, _, rfl, rfl, s⟩
          refine OblsS.cons ?_ ?_
          ·intro wD E sD
           intro x_ hx_; have hx_ : x_ = _ := hx_; subst x_
           intro x_ hx_; have hx_ : x_ = _ := hx_; subst x_
           refine Rg.slice_l (A := RT.po) (hn := by decide) Tryz.underlying107 I153 rfl rfl rfl (hlV.le sD.le) (by omega) (fun u hu => ?_)
           rw [Int.toNat_natCast, ha5] at hu
           exact Rg.nil ⟨rfl, rfl, _, rfl, hu, Step.refl _ _⟩
          exact OblsS.nil
         ·intro wD12 sD12
          intro x_ hx_; have hx_ : x_ = _ := hx_; subst x_
          intro x_ hx_; have hx_ : x_ = _ := hx_; subst x_
          intro x_ hx_; have hx_ : x_ = _ := hx_; subst x_
          intro x_ hx_; have hx_ : x_ = _ := hx_; subst x_
          intro x_ hx_; have hx_ : x_ = _ := hx_; subst x_
          intro x_ hx_; have hx_ : x_ = _ := hx_; subst x_
          intro x_ hx_; have hx_ : x_ = _ := hx_; subst x_
          intro x_ hx_; have hx_ : x_ = _ := hx_; subst x_
          intro x_ hx_; have hx_ : x_ = _ := hx_; subst x_
          intro x_ hx_; have hx_ : x_ = _ := hx_; subst x_
          intro x_ hx_; have hx_ : x_ = _ := hx_; subst x_
          intro v12_11 hv12_11
          have hb14 := sD12.same0 hbX
          have hvl : ((RT.po).sl).V M1 wD12 (leftAt l (idx l to : Nat)) v12_11 := hv12_11
          have S14 := SX.trans0 sD12
          refine Rg.nilCheck rfl ⟨_, rfl⟩ rfl ?_
          refine Rg.fieldc Tryz.underlying216 rfl rfl I107 (by decide) rfl rfl ?_
          refine Rg.storec (M := M1) I107 rfl rfl hb14 rfl (V_one hvl rfl rfl) hMb1 (fun w15 hb15 s15 => ?_)
          change w15.heap[bc]? = some (.cells #[p, .int .i64 n, v12_11, .int .i64 (docAt l i), .int .i64 cX] 216 (0, 0)) at hb15
          replace hvl := hvl.le s15.le
          refine Rg.nil ?_
          refine T.seq ?_
          refine T.region ?_
          refine Rg.move rfl rfl ?_
          refine Rg.move rfl rfl ?_
          refine Rg.nilCheck rfl ⟨_, rfl⟩ rfl ?_
          refine Rg.fieldc Tryz.underlying216 rfl rfl I107 (by decide) rfl rfl ?_
          refine Rg.loadc Tryz.underlying107 rfl rfl rfl (by assumption) rfl ?_
          refine Rg.idx (M := M1) Tryz.underlying107 I153 rfl rfl rfl (hvl) (Le.refl _ _) (by first | omega | decide) (fun u13_5 a13_5 hg13_5 hu13_5 => ?_)
          obtain rfl : (d, ps) = a13_5 := Eq.symm (Option.some.inj (hg13_5.symm.trans (by simpa using hh)))
          refine Rg.fieldAddr (M := M1) (A := RT.po) (B := RT.int .i64) Tryz.underlying153 rfl rfl I3 (by decide) (po0) rfl rfl (by decide) (by assumption) (by repeat (first | exact Le.refl _ _ | refine Le.trans (Step.le (by assumption)) ?_)) (fun u13_6 hu13_6 => ?_)
          refine Rg.loadi64 (M := M1) Tryz.underlying3 rfl rfl (by assumption) (by repeat (first | exact Le.refl _ _ | refine Le.trans (Step.le (by assumption)) ?_)) (fun in13_7 => ?_)
          refine Rg.eqv (v' := .int .i64 (d)) rfl ?_
          replace in13_7 : -9223372036854775808 ≤ (d : Int) ∧ d ≤ 9223372036854775807 := in13_7
          refine Rg.nilCheck rfl ⟨_, rfl⟩ rfl ?_
          refine Rg.fieldc Tryz.underlying216 rfl rfl I3 (by decide) rfl rfl ?_
          refine Rg.storec (M := M1) I3 rfl rfl hb15 rfl rfl hMb1 (fun w16 hb16 s16 => ?_)
          change w16.heap[bc]? = some (.cells #[p, .int .i64 n, v12_11, .int .i64 d, .int .i64 cX] 216 (0, 0)) at hb16
          replace hvl := hvl.le s16.le
          refine Rg.nil ?_
          refine T.seq ?_
          refine T.region ?_
          refine Rg.move rfl rfl ?_
          refine Rg.nilCheck rfl ⟨_, rfl⟩ rfl ?_
          refine Rg.fieldc Tryz.underlying216 rfl rfl I3 (by decide) rfl rfl ?_
          refine Rg.loadc Tryz.underlying3 rfl rfl rfl (by assumption) rfl ?_
          refine Rg.assign rfl rfl ?_
          refine Rg.nil ?_
          refine T.ret ?_
          have he : advI l i to = (idx l to : Int) := by unfold advI; rw [if_neg c1]
          rw [he]
          have S7 := ((s1.widen (fun _ h => h.elim) hNb).trans ((S14.trans s15 (fun _ _ h => h)).trans s16 (fun _ _ h => h)) (fun _ _ h => h))
          exact Kret1 rfl rfl ⟨by rw [docAt_get hx]; rfl, S7.back, p, v12_11, n, cX, hMb, by rw [docAt_get hx]; exact hb16, (hp.le (by decide) S7.back.le), hvl.le (Le.close hM S7), by omega, by omega, fun h => by omega, fun _ h => by omega⟩
        ·have hl31 := (lastPo_rng l (-1) hm (by decide) (8 * n + 8)).2
         obtain ⟨hi0, hi1⟩ : 0 ≤ i ∧ i < l.length := by
          rcases docAt_cases l i with ⟨h0, _⟩ | ⟨j, d, ps, rfl, hx, _⟩ | ⟨h0, h1, _⟩
          ·have := hk0 h0; omega
          ·have := (List.getElem?_eq_some_iff.1 hx).1; omega
          ·omega
         have hkk := hk1 hi0 hi1
         obtain ⟨j, hij⟩ : ∃ j : Nat, i = j := ⟨i.toNat, by omega⟩
         obtain ⟨⟨dj, pj⟩, hxj⟩ : ∃ x, l[j]? = some x := ⟨_, List.getElem?_eq_getElem (by omega)⟩
         have hdj := docAt_get hxj
         rw [← hij] at hdj
         have hlj := (may_at hm hxj).1
         obtain rfl : (n : Int) = k := by omega
         have hu4 := hu1.le S4.le
         obtain ⟨lf, uX, cX, s, wX, hwX, hbX, hlV, hlf, hs1, hs2, hs3, hs4, hpX, hTX, SX⟩ : ∃ lf uX cX s wX, wX = _ ∧ wX.heap[bc]? = some (.cells #[p, .int .i64 n, uX, .int .i64 (docAt l i), .int .i64 cX] 216 (0, 0)) ∧ ((RT.po).sl).V M1 wX lf uX ∧ lf = (l.drop s).take (8 * n + 8 - s) ∧ 8 * n ≤ s ∧ s < 8 * n + 8 ∧ s < l.length ∧ lastPo (-1) (l.take s) < to ∧ PtrTo RT.li M1 wX p (mkLi l) ∧ wX.heap[bt]? = some (.cells #[.int .i64 to] 3 (0, 0)) ∧ Step M1 w1 M1 wX (fun b => b = bc) := ⟨_, u, cnt, j, _, rfl, hb4, hu4, by rw [hij]; unfold leftAt; rw [if_neg (by omega), Int.toNat_natCast, show 8 * n + 8 - j = 8 - j % 8 from by omega], by omega, by omega, by omega, by omega, hp4, hT4, S4.widen (fun _ h => h.elim) hcM⟩
         subst hwX
         clear hb4
         refine T.skip ?_
         refine T.seq ?_
         obtain ⟨ha1, ha2, ha3, ha4, ha5⟩ := adv_block hm hs1 hs2 hs3 hs4 hhi hlf
         have hMX := SX.lt hM1
         obtain ⟨⟨d, ps⟩, hx⟩ : ∃ x, l[idx l to]? = some x := ⟨_, List.getElem?_eq_getElem ha3⟩
         have hh := leftAt_head hx
         have hhl := (List.getElem?_eq_some_iff.1 hh).1
         apply T.drawT (M := M1) mixed [] [Asr.eq _, Asr.eq _, Asr.eq _, Asr.eq _, Asr.eq uX, Asr.eq _, Asr.eq _, Asr.eq _, Asr.eq uX, Asr.eq _, Asr.eq _, Asr.V ((RT.po).sl) (leftAt l (idx l to : Nat))] 12
         ·rfl
         ·rfl
         ·rfl
         ·rfl
         ·rfl
         ·exact fun p hp => by cases hp
         ·exact UOk.none
         ·refine OblsS.cons ?_ ?_
          ·intro wD E sD
           refine Rg.move rfl rfl ?_
           exact Rg.nil ⟨rfl, rfl, _, rfl, rfl, Step.refl _ _⟩
          refine OblsS.cons ?_ ?_
          ·intro wD E sD
           refine Rg.move rfl rfl ?_
           exact Rg.nil ⟨rfl, rfl, _, rfl, rfl, Step.refl _ _⟩
          refine OblsS.cons ?_ ?_
          ·intro wD E sD
           intro x_ hx_; have hx_ : x_ = _ := hx_; subst x_
           refine Rg.nilCheck rfl ⟨_, rfl⟩ rfl ?_
           exact Rg.nil ⟨rfl, rfl, _, rfl, rfl, Step.refl _ _⟩
          refine OblsS.cons ?_ ?_
          ·intro wD E sD
           intro x_ hx_; have hx_ : x_ = _ := hx_; subst x_
           refine Rg.fieldc Tryz.underlying216 rfl rfl I107 (by decide) rfl rfl ?_
           exact Rg.nil ⟨rfl, rfl, _, rfl, rfl, Step.refl _ _⟩
          refine OblsS.cons ?_ ?_
          ·intro wD E sD
           intro x_ hx_; have hx_ : x_ = _ := hx_; subst x_
           refine Rg.loadc Tryz.underlying107 rfl rfl rfl (Step.same0 sD (by assumption)) rfl ?_
           exact Rg.nil ⟨rfl, rfl, _, rfl, rfl, Step.refl _ _⟩
          refine OblsS.cons ?_ ?_
          ·intro wD E sD
           refine Rg.move rfl rfl ?_
           exact Rg.nil ⟨rfl, rfl, _, rfl, rfl, Step.refl _ _⟩
          refine OblsS.cons ?_ ?_
          ·intro wD E sD
           intro x_ hx_; have hx_ : x_ = _ := hx_; subst x_
           refine Rg.nilCheck rfl ⟨_, rfl⟩ rfl ?_
           exact Rg.nil ⟨rfl, rfl, _, rfl, rfl, Step.refl _ _⟩
          refine OblsS.cons ?_ ?_
          ·intro wD E sD
           intro x_ hx_; have hx_ : x_ = _ := hx_; subst x_
           refine Rg.fieldc Tryz.underlying216 rfl rfl I107 (by decide) rfl rfl ?_
           exact Rg.nil ⟨rfl, rfl, _, rfl, rfl, Step.refl _ _⟩
          refine OblsS.cons ?_ ?_
          ·intro wD E sD
           intro x_ hx_; have hx_ : x_ = _ := hx_; subst x_
           refine Rg.loadc Tryz.underlying107 rfl rfl rfl (Step.same0 sD (by assumption)) rfl ?_
           exact Rg.nil ⟨rfl, rfl, _, rfl, rfl, Step.refl _ _⟩
          refine OblsS.cons ?_ ?_
          ·intro wD E sD
           refine Rg.makeFunc (xs := []) (ys := [.tmp 3]) rfl rfl rfl ?_
           exact Rg.nil ⟨rfl, rfl, _, rfl, rfl, Step.refl _ _⟩
          refine OblsS.cons ?_ ?_
          ·intro wD E sD
           intro x_ hx_; have hx_ : x_ = _ := hx_; subst x_
           intro x_ hx_; have hx_ : x_ = _ := hx_; subst x_
           refine Rg.call rfl rfl E185 (IndexPo_spec (M := M1) (sD.lt hMX) (hlV.le sD.le) (sD.same0 hTX)) (fun r wi h => ?_)
           obtain ⟨rfl, s⟩ := h
           refine Rg.eqv (v' := .int .i64 ((idx lf to : Nat) : Int)) (by rw [if_pos ha2]) ?_
           exact Rg.nil ⟨rfl, rfl, _, rfl, rfl, s⟩
          refine OblsS.cons ?_ ?_
          ·intro wD E sD
           intro x_ hx_; have hx_ : x_ = _ := hx_; subst x_
           intro x_ hx_; have hx_ : x_ = _ := hx_; subst x_
           refine Rg.slice_l (A := RT.po) (hn := by decide) Tryz.underlying107 I153 rfl rfl rfl (hlV.le sD.le) (by omega) (fun u hu => ?_)
           rw [Int.toNat_natCast, ha5] at hu
           exact Rg.nil ⟨rfl, rfl, _, rfl, hu, Step.refl _ _⟩
          exact OblsS.nil
         ·intro wD12 sD12
          intro x_ hx_; have hx_ : x_ = _ := hx_; subst x_
          intro x_ hx_; have hx_ : x_ = _ := hx_; subst x_
          intro x_ hx_; have hx_ : x_ = _ := hx_; subst x_
          intro x_ hx_; have hx_ : x_ = _ := hx_; subst x_
          intro x_ hx_; have hx_ : x_ = _ := hx_; subst x_
          intro x_ hx_; have hx_ : x_ = _ := hx_; subst x_
          intro x_ hx_; have hx_ : x_ = _ := hx_; subst x_
          intro x_ hx_; have hx_ : x_ = _ := hx_; subst x_
          intro x_ hx_; have hx_ : x_ = _ := hx_; subst x_
          intro x_ hx_; have hx_ : x_ = _ := hx_; subst x_
          intro x_ hx_; have hx_ : x_ = _ := hx_; subst x_
          intro v12_11 hv12_11
          have hb14 := sD12.same0 hbX
          have hvl : ((RT.po).sl).V M1 wD12 (leftAt l (idx l to : Nat)) v12_11 := hv12_11
          have S14 := SX.trans0 sD12
          refine Rg.nilCheck rfl ⟨_, rfl⟩ rfl ?_
          refine Rg.fieldc Tryz.underlying216 rfl rfl I107 (by decide) rfl rfl ?_
          refine Rg.storec (M := M1) I107 rfl rfl hb14 rfl (V_one hvl rfl rfl) hMb1 (fun w15 hb15 s15 => ?_)
          change w15.heap[bc]? = some (.cells #[p, .int .i64 n, v12_11, .int .i64 (docAt l i), .int .i64 cX] 216 (0, 0)) at hb15
          replace hvl := hvl.le s15.le
          refine Rg.nil ?_
          refine T.seq ?_
          refine T.region ?_
          refine Rg.move rfl rfl ?_
          refine Rg.move rfl rfl ?_
          refine Rg.nilCheck rfl ⟨_, rfl⟩ rfl ?_
          refine Rg.fieldc Tryz.underlying216 rfl rfl I107 (by decide) rfl rfl ?_
          refine Rg.loadc Tryz.underlying107 rfl rfl rfl (by assumption) rfl ?_
          refine Rg.idx (M := M1) Tryz.underlying107 I153 rfl rfl rfl (hvl) (Le.refl _ _) (by first | omega | decide) (fun u13_5 a13_5 hg13_5 hu13_5 => ?_)
          obtain rfl : (d, ps) = a13_5 := Eq.symm (Option.some.inj (hg13_5.symm.trans (by simpa using hh)))
          refine Rg.fieldAddr (M := M1) (A := RT.po) (B := RT.int .i64) Tryz.underlying153 rfl rfl I3 (by decide) (po0) rfl rfl (by decide) (by assumption) (by repeat (first | exact Le.refl _ _ | refine Le.trans (Step.le (by assumption)) ?_)) (fun u13_6 hu13_6 => ?_)
          refine Rg.loadi64 (M := M1) Tryz.underlying3 rfl rfl (by assumption) (by repeat (first | exact Le.refl _ _ | refine Le.trans (Step.le (by assumption)) ?_)) (fun in13_7 => ?_)
          refine Rg.eqv (v' := .int .i64 (d)) rfl ?_
          replace in13_7 : -9223372036854775808 ≤ (d : Int) ∧ d ≤ 9223372036854775807 := in13_7
          refine Rg.nilCheck rfl ⟨_, rfl⟩ rfl ?_
          refine Rg.fieldc Tryz.underlying216 rfl rfl I3 (by decide) rfl rfl ?_
          refine Rg.storec (M := M1) I3 rfl rfl hb15 rfl rfl hMb1 (fun w16 hb16 s16 => ?_)
          change w16.heap[bc]? = some (.cells #[p, .int .i64 n, v12_11, .int .i64 d, .int .i64 cX] 216 (0, 0)) at hb16
          replace hvl := hvl.le s16.le
          refine Rg.nil ?_
          refine T.seq ?_
          refine T.region ?_
          refine Rg.move rfl rfl ?_
          refine Rg.nilCheck rfl ⟨_, rfl⟩ rfl ?_
          refine Rg.fieldc Tryz.underlying216 rfl rfl I3 (by decide) rfl rfl ?_
          refine Rg.loadc Tryz.underlying3 rfl rfl rfl (by assumption) rfl ?_
          refine Rg.assign rfl rfl ?_
          refine Rg.nil ?_
          refine T.ret ?_
          have he : advI l i to = (idx l to : Int) := by unfold advI; rw [if_neg c1]
          rw [he]
          have S7 := ((s1.widen (fun _ h => h.elim) hNb).trans ((S14.trans s15 (fun _ _ h => h)).trans s16 (fun _ _ h => h)) (fun _ _ h => h))
          exact Kret1 rfl rfl ⟨by rw [docAt_get hx]; rfl, S7.back, p, v12_11, n, cX, hMb, by rw [docAt_get hx]; exact hb16, (hp.le (by decide) S7.back.le), hvl.le (Le.close hM S7), by omega, by omega, fun h => by omega, fun _ h => by omega⟩
    ·apply T.draw (M := M1) mixed [Asr.eq _, Asr.eq _, Asr.eq _, Asr.eq _, Asr.eq _, Asr.eq _, Asr.eq _, Asr.eq (.bool false), Asr.eq undef, Asr.eq undef, Asr.eq undef, Asr.eq undef, Asr.eq undef, Asr.eq undef, Asr.eq undef, Asr.eq undef, Asr.eq _]
     ·rfl
     ·refine Obls.cons ?_ ?_
      ·intro wD E sD
       refine Rg.move rfl rfl ?_
       exact Rg.nil ⟨rfl, rfl, _, rfl, rfl, Step.refl _ _⟩
      refine Obls.cons ?_ ?_
      ·intro wD E sD
       refine Rg.move rfl rfl ?_
       exact Rg.nil ⟨rfl, rfl, _, rfl, rfl, Step.refl _ _⟩
      refine Obls.cons ?_ ?_
      ·intro wD E sD
       intro x_ hx_; have hx_ : x_ = _ := hx_; subst x_
       refine Rg.nilCheck rfl ⟨_, rfl⟩ rfl ?_
       exact Rg.nil ⟨rfl, rfl, _, rfl, rfl, Step.refl _ _⟩
      refine Obls.cons ?_ ?_
      ·intro wD E sD
       intro x_ hx_; have hx_ : x_ = _ := hx_; subst x_
       refine Rg.fieldc Tryz.underlying216 rfl rfl I129 (by decide) rfl rfl ?_
       exact Rg.nil ⟨rfl, rfl, _, rfl, rfl, Step.refl _ _⟩
      refine Obls.cons ?_ ?_
      ·intro wD E sD
       intro x_ hx_; have hx_ : x_ = _ := hx_; subst x_
       refine Rg.loadc Tryz.underlying129 rfl rfl rfl (Step.same0 sD (by assumption)) rfl ?_
       exact Rg.nil ⟨rfl, rfl, _, rfl, rfl, Step.refl _ _⟩
      refine Obls.cons ?_ ?_
      ·intro wD E sD
       intro x_ hx_; have hx_ : x_ = _ := hx_; subst x_
       refine Rg.call rfl rfl E183 (Blocks_spec (M := M1) (hp4.le (by decide) sD.le)) (fun r wc h => ?_)
       obtain ⟨rfl, rfl⟩ := h
       exact Rg.nil ⟨rfl, rfl, _, rfl, congrArg (fun n : Nat => Value.int .i64 n) hnb, Step.refl _ _⟩
      refine Obls.cons ?_ ?_
      ·intro wD E sD
       intro x_ hx_; have hx_ : x_ = _ := hx_; subst x_
       intro x_ hx_; have hx_ : x_ = _ := hx_; subst x_
       refine Rg.ilt rfl rfl rfl ?_
       exact Rg.nil ⟨rfl, rfl, _, rfl, rfl, Step.refl _ _⟩
      refine Obls.cons ?_ ?_
      ·intro wD E sD
       intro x_ hx_; have hx_ : x_ = _ := hx_; subst x_
       intro x_ hx_; have hx_ : x_ = _ := hx_; subst x_
       refine Rg.move rfl rfl ?_
       refine Rg.nil ⟨rfl, rfl, _, rfl, ?_, Step.refl _ _⟩
       exact congrArg Value.bool (decide_eq_false g4_7)
      refine Obls.cons ?_ ?_
      ·intro wD E sD
       intro x_ hx_; have hx_ : x_ = _ := hx_; subst x_
       exact Rg.gno rfl rfl rfl rfl (Rg.nil ⟨rfl, rfl, _, rfl, rfl, Step.refl _ _⟩)
      refine Obls.cons ?_ ?_
      ·intro wD E sD
       intro x_ hx_; have hx_ : x_ = _ := hx_; subst x_
       intro x_ hx_; have hx_ : x_ = _ := hx_; subst x_
       exact Rg.gno rfl rfl rfl rfl (Rg.nil ⟨rfl, rfl, _, rfl, rfl, Step.refl _ _⟩)
      refine Obls.cons ?_ ?_
      ·intro wD E sD
       intro x_ hx_; have hx_ : x_ = _ := hx_; subst x_
       intro x_ hx_; have hx_ : x_ = _ := hx_; subst x_
       exact Rg.gno rfl rfl rfl rfl (Rg.nil ⟨rfl, rfl, _, rfl, rfl, Step.refl _ _⟩)
      refine Obls.cons ?_ ?_
      ·intro wD E sD
       intro x_ hx_; have hx_ : x_ = _ := hx_; subst x_
       intro x_ hx_; have hx_ : x_ = _ := hx_; subst x_
       exact Rg.gno rfl rfl rfl rfl (Rg.nil ⟨rfl, rfl, _, rfl, rfl, Step.refl _ _⟩)
      refine Obls.cons ?_ ?_
      ·intro wD E sD
       intro x_ hx_; have hx_ : x_ = _ := hx_; subst x_
       exact Rg.gno rfl rfl rfl rfl (Rg.nil ⟨rfl, rfl, _, rfl, rfl, Step.refl _ _⟩)
      refine Obls.cons ?_ ?_
      ·intro wD E sD
       intro x_ hx_; have hx_ : x_ = _ := hx_; subst x_
       intro x_ hx_; have hx_ : x_ = _ := hx_; subst x_
       intro x_ hx_; have hx_ : x_ = _ := hx_; subst x_
       intro x_ hx_; have hx_ : x_ = _ := hx_; subst x_
       exact Rg.gno rfl rfl rfl rfl (Rg.nil ⟨rfl, rfl, _, rfl, rfl, Step.refl _ _⟩)
      refine Obls.cons ?_ ?_
      ·intro wD E sD
       intro x_ hx_; have hx_ : x_ = _ := hx_; subst x_
       exact Rg.gno rfl rfl rfl rfl (Rg.nil ⟨rfl, rfl, _, rfl, rfl, Step.refl _ _⟩)
      refine Obls.cons ?_ ?_
      ·intro wD E sD
       intro x_ hx_; have hx_ : x_ = _ := hx_; subst x_
       intro x_ hx_; have hx_ : x_ = _ := hx_; subst x_
       intro x_ hx_; have hx_ : x_ = _ := hx_; subst x_
       exact Rg.gno rfl rfl rfl rfl (Rg.nil ⟨rfl, rfl, _, rfl, rfl, Step.refl _ _⟩)
      refine Obls.cons ?_ ?_
      ·intro wD E sD
       intro x_ hx_; have hx_ : x_ = _ := hx_; subst x_
       intro x_ hx_; have hx_ : x_ = _ := hx_; subst x_
       refine Rg.pickf rfl rfl rfl ?_
       exact Rg.nil ⟨rfl, rfl, _, rfl, rfl, Step.refl _ _⟩
      exact Obls.nil
     ·intro wD4 sD4
      intro x_ hx_; have hx_ : x_ = _ := hx_; subst x_
      intro x_ hx_; have hx_ : x_ = _ := hx_; subst x_
      intro x_ hx_; have hx_ : x_ = _ := hx_; subst x_
      intro x_ hx_; have hx_ : x_ = _ := hx_; subst x_
      intro x_ hx_; have hx_ : x_ = _ := hx_; subst x_
      intro x_ hx_; have hx_ : x_ = _ := hx_; subst x_
      intro x_ hx_; have hx_ : x_ = _ := hx_; subst x_
      intro x_ hx_; have hx_ : x_ = _ := hx_; subst x_
      intro x_ hx_; have hx_ : x_ = _ := hx_; subst x_
      intro x_ hx_; have hx_ : x_ = _ := hx_; subst x_
      intro x_ hx_; have hx_ : x_ = _ := hx_; subst x_
      intro x_ hx_; have hx_ : x_ = _ := hx_; subst x_
      intro x_ hx_; have hx_ : x_ = _ := hx_; subst x_
      intro x_ hx_; have hx_ : x_ = _ := hx_; subst x_
      intro x_ hx_; have hx_ : x_ = _ := hx_; subst x_
      intro x_ hx_; have hx_ : x_ = _ := hx_; subst x_
      intro x_ hx_; have hx_ : x_ = _ := hx_; subst x_
      replace S4 := S4.trans0 sD4
      replace hb4 := sD4.same0 hb4
      replace hT4 := sD4.same0 hT4
      replace hp4 := hp4.le (by decide) sD4.le
      have hM4 := S4.lt hM1
      refine T.iff rfl ?_
      refine T.exit ?_
      refine T.seq ?_
      refine T.seq ?_
      refine T.region ?_
      refine Rg.move rfl rfl ?_
      refine Rg.move rfl rfl ?_
      refine Rg.nilCheck rfl ⟨_, rfl⟩ rfl ?_
      refine Rg.fieldc Tryz.underlying216 rfl rfl I129 (by decide) rfl rfl ?_
      refine Rg.loadc Tryz.underlying129 rfl rfl rfl (by assumption) rfl ?_
      refine Rg.call rfl rfl E183 (Blocks_spec (M := M1) hp4) (fun r wc h => ?_)
      obtain ⟨rfl, rfl⟩ := h
      refine Rg.eqv (v' := .int .i64 (((l.length + 7) / 8 : Nat) : Int)) (congrArg (fun n : Nat => Value.int .i64 n) hnb) ?_
      refine Rg.ieq rfl rfl rfl ?_
      refine Rg.nil ?_
      refine T.ifp rfl (fun c6 => ?_) (fun c6 => ?_)
      ·refine T.seq ?_
       refine T.region ?_
       refine Rg.move rfl rfl ?_
       refine Rg.move rfl rfl ?_
       refine Rg.nilCheck rfl ⟨_, rfl⟩ rfl ?_
       refine Rg.fieldc Tryz.underlying216 rfl rfl I107 (by decide) rfl rfl ?_
       refine Rg.storec (M := M1) I107 rfl rfl hb4 rfl rfl hMb1 (fun w7 hb7 s7 => ?_)
       change w7.heap[bc]? = some (.cells #[p, .int .i64 k, .slice none 0 0, .int .i64 (docAt l i), .int .i64 cnt] 216 (0, 0)) at hb7
       refine Rg.nilCheck rfl ⟨_, rfl⟩ rfl ?_
       refine Rg.fieldc Tryz.underlying216 rfl rfl I3 (by decide) rfl rfl ?_
       refine Rg.storec (M := M1) I3 rfl rfl hb7 rfl rfl hMb1 (fun w8 hb8 s8 => ?_)
       change w8.heap[bc]? = some (.cells #[p, .int .i64 k, .slice none 0 0, .int .i64 2147483648, .int .i64 cnt] 216 (0, 0)) at hb8
       refine Rg.nil ?_
       refine T.seq ?_
       refine T.region ?_
       refine Rg.assign rfl rfl ?_
       refine Rg.nil ?_
       refine T.ret ?_
       have he : advI l i to = (l.length : Int) := by unfold advI; rw [if_neg c1, adv_end hm (n := 8 * n) (by omega) hlo]
       rw [he]
       have S7 := ((s1.trans0 S4).widen (fun _ h => h.elim) hNb).trans ((s7.trans s8 (fun _ _ h => h))) (fun _ _ h => h)
       exact Kret1 rfl rfl ⟨by rw [docAt_end (Int.le_refl _)], S7.back, p, .slice none 0 0, k, cnt, hMb, by rw [docAt_end (Int.le_refl _)]; exact hb8, (hp.le (by decide) S7.back.le), by rw [leftAt_end (Int.le_refl _)]; exact V_nil, by omega, hk, fun h => by omega, fun _ h => by omega⟩
      ·exfalso; omega
theorem Next_spec {M : PSet} {w0 : World} {bc : Nat} {l : List Po} {i : Int} (h : Cu 216 l i M w0 bc) (hM : Lt M w0) (hm : mayPo (-1) l = true) (hps : ∀ p ∈ l, p.2.length ≤ 1099511627776) (hbl : (putPo (-1) l).length ≤ 1099511627776) (hll : l.length ≤ 1099511627776) :
  Spec Tryz.prog 96 #[.pointer (some ⟨bc, 0, none⟩)] w0 (fun v' w' => v' = .int .i64 (docAt l (nextI l i)) ∧ Step M w0 M w' (fun b => b = bc) ∧ Cu 216 l (nextI l i) M w' bc) := by
 obtain ⟨p, u, k, cnt, hMb, hb, hp, hu, hi, hk, hk0, hk1⟩ := id h
 have hdr := docAt_rng hm i
 refine spec_of (args := [_]) (fn := Tryz.f96) Tryz.func96 rfl (n := 11) Tryz.ntmps96 ?_
 refine T.seq ?_
 refine T.region ?_
 refine Rg.assign rfl rfl ?_
 refine Rg.nil ?_
 refine T.seq ?_
 refine T.region ?_
 refine Rg.move rfl rfl ?_
 refine Rg.move rfl rfl ?_
 refine Rg.nilCheck rfl ⟨_, rfl⟩ rfl ?_
 refine Rg.fieldc Tryz.underlying216 rfl rfl I3 (by decide) rfl rfl ?_
 refine Rg.loadc Tryz.underlying3 rfl rfl rfl (by assumption) rfl ?_
 refine Rg.iadd rfl rfl rfl (by omega) ?_
 refine Rg.min2 rfl rfl rfl ?_
 have hn : advI l i (min (docAt l i + 1) 2147483648) = nextI l i := next_adv hm hi
 refine Rg.call rfl rfl E141 (Advance_spec (to := min (docAt l i + 1) 2147483648) h hM hm hps hbl hll (by omega)) (fun r w1 h1 => ?_)
 rw [hn] at h1
 obtain ⟨rfl, s1, h1⟩ := h1
 refine Rg.assign rfl rfl ?_
 refine Rg.nil ?_
 refine T.ret ?_
 exact Kret1 rfl rfl ⟨rfl, s1, h1⟩
end Go.K
namespace Go.K
open Go.Proofs
namespace TKErsA
theorem I123 : TI Tryz.prog 123 (.pointer none) 1 8 := by unfold TI; kernel_rfl
theorem I216 : TI Tryz.prog 216 (.agg #[(.pointer none), (.int .i64 0), (.slice none 0 0), (.int .i64 0), (.int .i64 0)]) 5 56 := by unfold TI; kernel_rfl
theorem B216 : placesOf Tryz.prog 216 = [(0, 1), (1, 1), (2, 1), (3, 1), (4, 1)].map some := by kernel_rfl
theorem E73 : Enters Tryz.prog 73 := enters Tryz.func73 rfl (by decide)
theorem E126 : Enters Tryz.prog 126 := enters Tryz.func126 rfl (by decide)
theorem E140 : Enters Tryz.prog 140 := enters Tryz.func140 rfl (by decide)
end TKErsA
open TKErsA
set_option linter.unusedVariables false
set_option linter.unusedSimpArgs false
set_option maxRecDepth 10000
abbrev Er := Fd × Int
abbrev RT.er : RT Er := RT.pair RT.fd (RT.int .i64)
theorem er0 : Part RT.er RT.fd (fun p => p.1) 0 := Part.fst _ _
theorem er1 : Part RT.er (RT.int .i64) (fun p => p.2) 2 := Part.snd _ _
theorem er_val {M : PSet} {w : World} {p : Er} {v : Value} (h : RT.er.V M w p v) : v = .agg #[.string ⟨p.1.1.toArray⟩, .string ⟨p.1.2.toArray⟩, .int .i64 p.2] ∧ (p.1.1.length ≤ 140737488355328 ∧ p.1.2.length ≤ 140737488355328) ∧ -9223372036854775808 ≤ p.2 ∧ p.2 ≤ 9223372036854775807 := by
 obtain ⟨vs, ⟨va, vb, rfl, ⟨vc, vd, rfl, ⟨rfl, h1⟩, ⟨rfl, h2⟩⟩, ⟨rfl, h3⟩⟩, rfl⟩ := h
 exact ⟨rfl, ⟨h1, h2⟩, h3⟩
theorem er_mk {M : PSet} {w : World} {p : Er} (h1 : p.1.1.length ≤ 140737488355328 ∧ p.1.2.length ≤ 140737488355328) (h2 : -9223372036854775808 ≤ p.2 ∧ p.2 ≤ 9223372036854775807) : RT.er.V M w p (.agg #[.string ⟨p.1.1.toArray⟩, .string ⟨p.1.2.toArray⟩, .int .i64 p.2]) :=
 ⟨[.string ⟨p.1.1.toArray⟩, .string ⟨p.1.2.toArray⟩, .int .i64 p.2], ⟨[.string ⟨p.1.1.toArray⟩, .string ⟨p.1.2.toArray⟩], [.int .i64 p.2], rfl, ⟨_, _, rfl, ⟨rfl, h1.1⟩, ⟨rfl, h1.2⟩⟩, rfl, h2⟩, rfl⟩
theorem newNil_spec {M : PSet} (w0 : World) (hM : Lt M w0) :
  Spec Tryz.prog 140 #[.pointer none] w0 (fun v' w' => ∃ bc, v' = .pointer (some ⟨bc, 0, none⟩) ∧ w0.heap.size ≤ bc ∧ Step M w0 (ins M bc) w' none' ∧ Cu 216 [] (-1) (ins M bc) w' bc) := by
 refine spec_of (args := [_]) (fn := Tryz.f140) Tryz.func140 rfl (n := 12) Tryz.ntmps140 ?_
 refine T.seq ?_
 refine T.region ?_
 refine Rg.assign rfl rfl ?_
 refine Rg.nil ?_
 refine T.seq ?_
 refine T.seq ?_
 refine T.region ?_
 refine Rg.move rfl rfl ?_
 refine Rg.ptreq Tryz.underlying129 rfl rfl rfl ?_
 refine Rg.nil ?_
 refine T.iftp rfl (rfl) ?_
 refine T.region ?_
 refine Rg.call rfl rfl E126 (Make_spec (l := []) hM V_nil (fun p h => by cases h) (by decide) (by decide) (by decide)) (fun r2 w2 hc => ?_)
 obtain ⟨s2, hok, _⟩ := hc
 obtain ⟨p, rfl, hp⟩ := hok rfl
 obtain ⟨q, rfl⟩ := hp.isPtr
 refine Rg.move rfl rfl ?_
 refine Rg.extract rfl rfl rfl ?_
 refine Rg.extract rfl rfl rfl ?_
 refine Rg.assign rfl rfl ?_
 refine Rg.nil ?_
 refine T.seq ?_
 refine T.region ?_
 refine Rg.move rfl rfl ?_
 refine Rg.build (places := [(0, 1), (1, 1), (2, 1), (3, 1), (4, 1)]) Tryz.underlying216 I216 B216 rfl ⟨_, _, rfl, rfl, _, _, rfl, rfl, _, _, rfl, rfl, rfl⟩ (out := [_, _, .slice none 0 0, _, .int .i64 0]) ⟨0, [_], rfl, rfl, by simp [Value.cells], 1, [_], rfl, rfl, by simp [Value.cells], 3, [_], rfl, rfl, by simp [Value.cells], rfl⟩ ?_
 refine Rg.box M rfl rfl (fun bc w3 h1 h1' hS s3 => ?_)
 refine Rg.assign rfl rfl ?_
 refine Rg.nil ?_
 refine T.ret ?_
 exact Kret1 rfl rfl ⟨bc, rfl, by have := s2.size; omega, s2.trans0 s3, .pointer (some q), .slice none 0 0, -1, 0, .inl rfl, hS, hp.le (by decide) s3.le, V_nil, by decide, by decide, fun _ => rfl, fun h => by omega⟩
theorem newAny_spec {M : PSet} {v : Value} {l : List Po} (w0 : World) (hM : Lt M w0) (h : PtrTo RT.li M w0 v (mkLi l) ∨ (v = .pointer none ∧ l = [])) : Spec Tryz.prog 140 #[v] w0 (fun v' w' => ∃ bc, v' = .pointer (some ⟨bc, 0, none⟩) ∧ w0.heap.size ≤ bc ∧ Step M w0 (ins M bc) w' none' ∧ Cu 216 l (-1) (ins M bc) w' bc) := by
 rcases h with h | ⟨rfl, rfl⟩
 ·obtain ⟨q, rfl⟩ := h.isPtr
  exact New6_spec h
 ·exact newNil_spec w0 hM
theorem scursor_spec {M : PSet} {s : Se} {ls : List (List Po)} {t : Fd} {v0 : Value} (w0 : World) (hM : Lt M w0) (hs : PtrTo RT.se M w0 v0 s) (hup : UpT s.2.2.1) (hls : s.2.2.2 = ls.map mkLi) (hdl : s.2.2.1.length = ls.length) (h1 : t.1.length ≤ 140737488355328) (h2 : t.2.length ≤ 140737488355328) :
  Spec Tryz.prog 95 #[v0, kv t] w0 (fun v' w' => ∃ bc, v' = .pointer (some ⟨bc, 0, none⟩) ∧ w0.heap.size ≤ bc ∧ Step M w0 (ins M bc) w' none' ∧ Cu 216 (atK s.2.2.1 ls (keyE t)) (-1) (ins M bc) w' bc) := by
 refine spec_of (args := [_, _]) (fn := Tryz.f95) Tryz.func95 rfl (n := 19) Tryz.ntmps95 ?_
 have S : Step M w0 M w0 none' := (Step.refl _ _).widen (fun _ h => h.elim) (fun _ h => h.elim)
 refine T.seq ?_
 refine T.region ?_
 refine Rg.boxp (A := RT.fd) rfl rfl hM (kv_V h1 h2) rfl (fun u0 w1 hu0 s0 _ => ?_)
 replace hs := hs.le (by decide) s0.le
 replace hM := s0.lt hM
 have := S.size
 replace S := S.trans0 s0
 refine Rg.assign rfl rfl ?_
 refine Rg.nil ?_
 refine T.seq ?_
 apply T.draw (M := M) mixed [Asr.eq v0, Asr.eq v0, Asr.ptr ((RT.di).ptr) s.2.2, Asr.ptr RT.di s.2.2, Asr.eq (kv t), Asr.eq (sv (keyE t)), (Asr.mk' (fun v w => ∃ p, v = .tuple #[p, .bool (decide (keyE t ∈ s.2.2.1))] ∧ FindP s.2.2 (keyE t) M p w) (fun ⟨p, h1, h2⟩ s => ⟨p, h1, h2.step s⟩)), (Asr.mk' (fun v w => ∃ p, v = .tuple #[p, .bool (decide (keyE t ∈ s.2.2.1))] ∧ FindP s.2.2 (keyE t) M p w) (fun ⟨p, h1, h2⟩ s => ⟨p, h1, h2.step s⟩)), (Asr.mk' (fun v w => FindP s.2.2 (keyE t) M v w) (fun h s => h.step s)), Asr.eq (.bool (decide (keyE t ∈ s.2.2.1))), (Asr.mk' (fun v w => FindP s.2.2 (keyE t) M v w) (fun h s => h.step s)), Asr.eq (.bool (decide (keyE t ∈ s.2.2.1)))]
 ·rfl
 ·refine Obls.cons ?_ ?_
  ·intro wD E sD
   refine Rg.move rfl rfl ?_
   exact Rg.nil ⟨rfl, rfl, _, rfl, rfl, Step.refl _ _⟩
  refine Obls.cons ?_ ?_
  ·intro wD E sD
   intro x_ hx_; have hx_ : x_ = _ := hx_; subst x_
   refine Rg.nilCheck rfl hs.isPtr rfl ?_
   exact Rg.nil ⟨rfl, rfl, _, rfl, rfl, Step.refl _ _⟩
  refine Obls.cons ?_ ?_
  ·intro wD E sD
   intro x_ hx_; have hx_ : x_ = _ := hx_; subst x_
   refine Rg.fieldAddr (M := M) (A := RT.se) (B := (RT.di).ptr) Tryz.underlying125 rfl rfl I123 (by decide) se2 rfl rfl (by decide) hs sD.le (fun uf huf => ?_)
   exact Rg.nil ⟨rfl, rfl, _, rfl, huf, Step.refl _ _⟩
  refine Obls.cons ?_ ?_
  ·intro wD E sD
   intro v2 hv2
   refine Rg.load (M := M) Tryz.underlying123 rfl rfl rfl rfl rfl (show PtrTo ((RT.di).ptr) M wD v2 s.2.2 from hv2) (Le.refl _ _) (fun vd hvd => ?_)
   exact Rg.nil ⟨rfl, rfl, _, rfl, V_ptr.1 hvd, Step.refl _ _⟩
  refine Obls.cons ?_ ?_
  ·intro wD E sD
   refine Rg.loadagg (M := M) (A := RT.fd) Tryz.underlying47 rfl I47 (by decide) rfl rfl rfl hu0 sD.le (fun vt hvt => ?_)
   obtain rfl := fd_val hvt
   exact Rg.nil ⟨rfl, rfl, _, rfl, rfl, Step.refl _ _⟩
  refine Obls.cons ?_ ?_
  ·intro wD E sD
   intro x_ hx_; have hx_ : x_ = _ := hx_; subst x_
   refine Rg.call rfl rfl E74 (keyw_spec (t := t) _ (sD.lt hM) h1 h2) (fun r5 w5 hc => ?_)
   obtain ⟨rfl, s5⟩ := hc
   exact Rg.nil ⟨rfl, rfl, _, rfl, rfl, s5⟩
  refine Obls.cons ?_ ?_
  ·intro wD E sD
   intro v3 hv3
   intro x_ hx_; have hx_ : x_ = _ := hx_; subst x_
   intro x_ hx_; have hx_ : x_ = _ := hx_; subst x_
   refine Rg.call rfl rfl E73 (find_spec (k := keyE t) _ (sD.lt hM) (show PtrTo RT.di M wD v3 s.2.2 from hv3) hup (by rw [hls, List.length_map]; exact hdl)) (fun r6 w6 hc => ?_)
   obtain ⟨s6, hr⟩ := hc
   refine Rg.nil ⟨rfl, rfl, _, rfl, ?_, s6⟩
   rcases hr with ⟨j, p, tl, rfl, h3, h4, h5⟩ | ⟨rfl, h3⟩
   ·exact ⟨p, by rw [decide_eq_true (List.mem_of_getElem? h3)], .inl ⟨j, tl, h3, h4, h5⟩⟩
   ·exact ⟨_, by rw [decide_eq_false h3], .inr ⟨rfl, h3⟩⟩
  refine Obls.cons ?_ ?_
  ·intro wD E sD
   intro v6 hv6
   refine Rg.move rfl rfl ?_
   exact Rg.nil ⟨rfl, rfl, _, rfl, hv6, Step.refl _ _⟩
  refine Obls.cons ?_ ?_
  ·intro wD E sD
   intro v7 hv7
   obtain ⟨p, rfl, hp⟩ := hv7
   refine Rg.extract rfl rfl rfl ?_
   exact Rg.nil ⟨rfl, rfl, _, rfl, hp, Step.refl _ _⟩
  refine Obls.cons ?_ ?_
  ·intro wD E sD
   intro v7 hv7
   obtain ⟨p, rfl, hp⟩ := hv7
   refine Rg.extract rfl rfl rfl ?_
   exact Rg.nil ⟨rfl, rfl, _, rfl, rfl, Step.refl _ _⟩
  refine Obls.cons ?_ ?_
  ·intro wD E sD
   intro v8 hv8
   intro v6 hv6
   intro x_ hx_; have hx_ : x_ = _ := hx_; subst x_
   intro x_ hx_; have hx_ : x_ = _ := hx_; subst x_
   intro v2 hv2
   intro v3 hv3
   intro x_ hx_; have hx_ : x_ = _ := hx_; subst x_
   intro x_ hx_; have hx_ : x_ = _ := hx_; subst x_
   intro v6 hv6
   intro v7 hv7
   intro v8 hv8
   refine Rg.assign rfl rfl ?_
   exact Rg.nil ⟨rfl, rfl, _, rfl, hv8, Step.refl _ _⟩
  refine Obls.cons ?_ ?_
  ·intro wD E sD
   intro x_ hx_; have hx_ : x_ = _ := hx_; subst x_
   intro v10 hv10
   intro x_ hx_; have hx_ : x_ = _ := hx_; subst x_
   intro x_ hx_; have hx_ : x_ = _ := hx_; subst x_
   intro v2 hv2
   intro v3 hv3
   intro x_ hx_; have hx_ : x_ = _ := hx_; subst x_
   intro x_ hx_; have hx_ : x_ = _ := hx_; subst x_
   intro v6 hv6
   intro v7 hv7
   intro v8 hv8
   intro x_ hx_; have hx_ : x_ = _ := hx_; subst x_
   intro v10 hv10
   refine Rg.assign rfl rfl ?_
   exact Rg.nil ⟨rfl, rfl, _, rfl, rfl, Step.refl _ _⟩
  exact Obls.nil
 ·intro wD1 sD1
  intro x_ hx_; have hx_ : x_ = _ := hx_; subst x_
  intro x_ hx_; have hx_ : x_ = _ := hx_; subst x_
  intro v1_2 hv1_2
  intro v1_3 hv1_3
  intro x_ hx_; have hx_ : x_ = _ := hx_; subst x_
  intro x_ hx_; have hx_ : x_ = _ := hx_; subst x_
  intro v1_6 hv1_6
  intro v1_7 hv1_7
  intro v1_8 hv1_8
  intro x_ hx_; have hx_ : x_ = _ := hx_; subst x_
  intro v1_10 hv1_10
  intro x_ hx_; have hx_ : x_ = _ := hx_; subst x_
  replace hv1_10 : FindP s.2.2 (keyE t) M v1_10 wD1 := hv1_10
  have hF := hv1_10
  replace hM := sD1.lt hM
  replace S := S.trans0 sD1
  replace hs := hs.le (by decide) sD1.le
  replace hu0 := hu0.le (by decide) sD1.le
  refine T.seq ?_
  refine T.region ?_
  refine Rg.move rfl rfl ?_
  refine Rg.call rfl rfl E140 (newAny_spec (l := atK s.2.2.1 ls (keyE t)) _ hM (by
   rcases hF with ⟨j, tl, hj1, hj2, htl⟩ | ⟨h, hno⟩
   ·rw [hls, List.getElem?_map] at hj2
    obtain ⟨l, hl1, rfl⟩ := Option.map_eq_some_iff.1 hj2
    exact .inl (by rw [atK_at hup.nodup hj1 hl1]; exact htl)
   ·exact .inr ⟨h, atK_none hno⟩)) (fun r2 w2 hc => ?_)
  obtain ⟨bc, rfl, hbc, s2, hcu⟩ := hc
  refine Rg.assign rfl rfl ?_
  refine Rg.nil ?_
  refine T.ret ?_
  exact Kret1 rfl rfl ⟨bc, rfl, by have := S.size; omega, S.trans0 s2, hcu⟩
end Go.K
namespace Go.K
open Go.Proofs
namespace TKErsB
theorem E70 : Enters Tryz.prog 70 := enters Tryz.func70 rfl (by decide)
theorem E95 : Enters Tryz.prog 95 := enters Tryz.func95 rfl (by decide)
theorem E96 : Enters Tryz.prog 96 := enters Tryz.func96 rfl (by decide)
end TKErsB
open TKErsB
set_option linter.unusedVariables false
set_option linter.unusedSimpArgs false
set_option maxRecDepth 10000
def takeZ (l : List Po) (sq : List Int) (t : Int) : List Int := (l.map (·.1)).takeWhile fun d => decide (ofZ sq d < t)
theorem tw_at {α : Type} {p : α → Bool} : ∀ {xs : List α} {k : Nat} {d : α}, (∀ (j : Nat) x, j < k → xs[j]? = some x → p x = true) → xs[k]? = some d → p d = true → (xs.takeWhile p)[k]? = some d
 |[], _, _, _, h, _ => by simp at h
 |x :: xs, 0, d, _, h, hp => by simp at h; subst h; simp [List.takeWhile_cons, hp]
 |x :: xs, k + 1, d, h1, h, hp => by
  rw [List.takeWhile_cons, if_pos (h1 0 x (by omega) rfl), List.getElem?_cons_succ]
  exact tw_at (fun j y hj hy => h1 (j + 1) y (by omega) (by simpa using hy)) (by simpa using h) hp
theorem tw_len {α : Type} {p : α → Bool} : ∀ {xs : List α} {k : Nat}, (∀ (j : Nat) x, j < k → xs[j]? = some x → p x = true) → k ≤ xs.length → (∀ d, xs[k]? = some d → p d = false) → (xs.takeWhile p).length = k
 |[], k, _, h, _ => by simp at h; simp [h]
 |x :: xs, 0, _, _, h => by rw [List.takeWhile_cons, if_neg (by rw [h x rfl]; decide)]; rfl
 |x :: xs, k + 1, h1, h2, h => by
  rw [List.takeWhile_cons, if_pos (h1 0 x (by omega) rfl), List.length_cons, tw_len (k := k) (fun j y hj hy => h1 (j + 1) y (by omega) (by simpa using hy)) (by simpa using h2) (fun d hd => h d (by simpa using hd))]
structure OkC (l : List Po) : Prop where
 may : mayPo (-1) l = true
 ps : ∀ p ∈ l, p.2.length ≤ 1099511627776
 by_ : (putPo (-1) l).length ≤ 1099511627776
 ln : l.length ≤ 1099511627776
theorem okC_pk {L : List En} (hF : ∀ e ∈ L, Fine e.1) (hn : L.length ≤ 1000000) (k : List UInt8) : OkC (pk L k) := by
 have h1 := pkF_at k L 0 hF
 have hmay : mayPo (-1) (pk L k) = true := pkF_may k L 0 (-1) hF (by omega) (by omega)
 have hps : ∀ p ∈ pk L k, p.2.length ≤ 500 := fun p hp => (h1.2 p hp).2.2
 obtain ⟨h2, h3⟩ := putPo_len (pk L k) (-1) 500 (by omega) hmay hps (by omega)
 have hl : (pk L k).length ≤ L.length := h1.1
 exact ⟨hmay, fun p hp => by have := hps p hp; omega, by omega, by omega⟩
theorem takes_spec {M : PSet} {s : Se} {e : Er} {v0 ve : Value} (w0 : World) (hM : Lt M w0) (hs : PtrTo RT.se M w0 v0 s) (he : RT.er.V M w0 e ve) :
  Spec Tryz.prog 72 #[v0, ve] w0 (fun v w => ∃ bs u, v = .func (.func 122) #[] [.pointer (some ⟨bs, 0, none⟩), u].toArray ∧ w.heap[bs]? = some (.cells #[v0] 25 (0, 0)) ∧ PtrTo RT.er M w u e ∧ w0.heap.size ≤ bs ∧ Step M w0 M w none') := by
 refine spec_of (args := [_, _]) (fn := Tryz.f72) Tryz.func72 rfl (n := 6) Tryz.ntmps72 ?_
 refine T.seq ?_
 refine T.region ?_
 refine Rg.box M rfl rfl (fun bs w1 p1 q1 g1 s1 => ?_)
 rw [ptr_cells hs] at g1
 replace s1 := s1.back
 refine Rg.boxp (A := RT.er) (a := e) rfl rfl (s1.lt hM) (he.le s1.le) rfl (fun u w2 hu s2 _ => ?_)
 refine Rg.assign rfl rfl ?_
 refine Rg.nil ?_
 refine T.seq ?_
 refine T.region ?_
 refine Rg.makeFunc (xs := []) (ys := [.tmp 2, .tmp 3]) rfl rfl rfl ?_
 refine Rg.assign rfl rfl ?_
 refine Rg.nil ?_
 refine T.ret ?_
 exact Kret1 rfl rfl ⟨bs, u, rfl, s2.same0 g1, hu, p1, s1.trans0 s2⟩
theorem takes1_spec {bs yl : Nat} {u v0 : Value} {s : Se} {ls : List (List Po)} {e : Er} {J : Nat → PSet → World → Prop} {M : PSet} {Jx : World → Prop} (w0 : World) (hup : UpT s.2.2.1) (hls : s.2.2.2 = ls.map mkLi) (hdl : s.2.2.1.length = ls.length) (hOk : OkC (atK s.2.2.1 ls (keyE e.1))) (h1 : e.1.1.length ≤ 140737488355328) (h2 : e.1.2.length ≤ 140737488355328) (hbx : ∀ i M w, J i M w → w.heap[bs]? = some (.cells #[v0] 25 (0, 0)) ∧ Lt M w ∧ PtrTo RT.se M w v0 s ∧ PtrTo RT.er M w u e) (hst : ∀ i M w M' w' N, J i M w → Step M w M' w' N → (∀ b, N b → w0.heap.size ≤ b ∧ (b < w.heap.size → ∃ cs, w.heap[b]? = some (.cells cs 216 (0, 0)))) → J i M' w') (hy : ∀ (i : Nat) (M : PSet) (w : World) (d : Int), J i M w → (takeZ (atK s.2.2.1 ls (keyE e.1)) s.2.1 e.2)[i]? = some d → Yield Tryz.prog yl [.int .i64 d].toArray w (fun r w' => ∃ b, r = .bool b ∧ (b = true → ∃ M' N, J (i + 1) M' w' ∧ Step M w M' w' N ∧ ∀ k, N k → ∀ cs, w.heap[k]? ≠ some (.cells cs 216 (0, 0))) ∧ (b = false → Jx w'))) (h0 : J 0 M w0) :
  Spec Tryz.prog 122 #[.func (.yield yl) #[] #[], .pointer (some ⟨bs, 0, none⟩), u] w0 (fun _ w => (∃ M', J (takeZ (atK s.2.2.1 ls (keyE e.1)) s.2.1 e.2).length M' w) ∨ Jx w) := by
 obtain ⟨gb, hM, hs, hu⟩ := hbx _ _ _ h0
 refine spec_of (args := [_, _, _]) (fn := Tryz.f122) Tryz.func122 rfl (n := 28) Tryz.ntmps122 ?_
 refine T.seq ?_
 refine T.region ?_
 refine Rg.loadc Tryz.underlying25 rfl rfl rfl gb rfl ?_
 refine Rg.eqv (v' := v0) rfl ?_
 refine Rg.fieldAddr (M := M) (A := RT.er) (B := RT.fd) Tryz.underlying51 rfl rfl I47 (by decide) er0 rfl rfl (by decide) hu (Le.refl _ _) (fun uf huf => ?_)
 refine Rg.loadagg (M := M) (A := RT.fd) Tryz.underlying47 rfl I47 (by decide) rfl rfl rfl huf (Le.refl _ _) (fun vt hvt => ?_)
 obtain rfl := fd_val hvt
 refine Rg.call rfl rfl E95 (scursor_spec (t := e.1) _ hM hs hup hls hdl h1 h2) (fun r0 w1 hc => ?_)
 obtain ⟨bc, rfl, hz, s1, hC⟩ := hc
 have hJ1 := hst _ _ _ _ _ _ h0 s1 (fun b h => h.elim)
 generalize ins M bc = M0 at s1 hC hJ1
 refine Rg.assign rfl rfl ?_
 refine Rg.nil ?_
 refine T.seq ?_
 refine T.region ?_
 refine Rg.move rfl rfl ?_
 obtain ⟨_, hM1, _, _⟩ := hbx _ _ _ hJ1
 refine Rg.call rfl rfl E96 (Next_spec hC hM1 hOk.may hOk.ps hOk.by_ hOk.ln) (fun r2 w2 h => ?_)
 obtain ⟨rfl, s2, hC2⟩ := h
 have hJ2 := hst _ _ _ _ _ _ hJ1 s2 (fun b (h : b = bc) => ⟨by omega, fun _ => by (obtain ⟨_, _, _, _, _, h9, _⟩ := hC; exact ⟨_, by rw [h]; exact h9⟩)⟩)
 have hni : nextI (atK s.2.2.1 ls (keyE e.1)) (-1) = ((0 : Nat) : Int) := by unfold nextI; rw [if_pos (by omega)]; rfl
 rw [hni] at hC2 ⊢
 refine Rg.assign rfl rfl ?_
 refine Rg.nil ?_
 refine T.block ?_
 refine T.loop (σ := Nat) (fun k => [(0, .func (.yield yl) #[] #[]), (1, .pointer (some ⟨bs, 0, none⟩)), (2, u), (4, .pointer (some ⟨bc, 0, none⟩)), (5, .int .i64 (docAt (atK s.2.2.1 ls (keyE e.1)) (k : Int)))]) (fun k w => k ≤ (atK s.2.2.1 ls (keyE e.1)).length ∧ (∀ (j : Nat) x, j < k → ((atK s.2.2.1 ls (keyE e.1)).map (·.1))[j]? = some x → decide (ofZ s.2.1 x < e.2) = true) ∧ ∃ M1, J k M1 w ∧ Cu 216 (atK s.2.2.1 ls (keyE e.1)) (k : Int) M1 w bc) (fun k => (atK s.2.2.1 ls (keyE e.1)).length - k) 0 (.cons rfl (.cons rfl (.cons rfl (.cons rfl (.cons rfl .nil))))) ?_ ?_
 ·exact ⟨Nat.zero_le _, fun j x h => absurd h (Nat.not_lt_zero _), _, hJ2, hC2⟩
 ·rintro k w ⟨hk, hlo, M1, hJ, hC2⟩
  refine T.seq ?_
  refine T.seq ?_
  obtain ⟨gb2, hM2, hs2, hu2⟩ := hbx _ _ _ hJ
  by_cases g2_2 : docAt (atK s.2.2.1 ls (keyE e.1)) (k : Int) < 2147483648
  ·obtain ⟨d, ps, hx, hdd⟩ : ∃ d ps, (atK s.2.2.1 ls (keyE e.1))[k]? = some (d, ps) ∧ docAt (atK s.2.2.1 ls (keyE e.1)) (k : Int) = d := by
    rcases docAt_cases (atK s.2.2.1 ls (keyE e.1)) (k : Int) with ⟨h0, _⟩ | ⟨j2, d2, ps2, hj2, hx2, h3, _⟩ | ⟨h0, h1, _⟩
    ·omega
    ·have : j2 = k := by omega
     subst this; exact ⟨d2, ps2, hx2, h3⟩
    ·omega
   have hkl := (List.getElem?_eq_some_iff.1 hx).1
   apply T.draw (M := M1) mixed [Asr.eq _, Asr.eq _, Asr.eq (.bool true), Asr.eq v0, Asr.eq _, Asr.eq (.int .i64 (ofZ s.2.1 (docAt (atK s.2.2.1 ls (keyE e.1)) (k : Int)))), Asr.ptr (RT.int .i64) e.2, Asr.eq (.int .i64 e.2), Asr.eq _, Asr.eq _]
   ·rfl
   ·refine Obls.cons ?_ ?_
    ·intro wD E sD
     refine Rg.move rfl rfl ?_
     exact Rg.nil ⟨rfl, rfl, _, rfl, rfl, Step.refl _ _⟩
    refine Obls.cons ?_ ?_
    ·intro wD E sD
     intro x_ hx_; have hx_ : x_ = _ := hx_; subst x_
     refine Rg.ilt rfl rfl rfl ?_
     exact Rg.nil ⟨rfl, rfl, _, rfl, rfl, Step.refl _ _⟩
    refine Obls.cons ?_ ?_
    ·intro wD E sD
     intro x_ hx_; have hx_ : x_ = _ := hx_; subst x_
     refine Rg.move rfl rfl ?_
     refine Rg.nil ⟨rfl, rfl, _, rfl, ?_, Step.refl _ _⟩
     exact congrArg Value.bool (decide_eq_true g2_2)
    refine Obls.cons ?_ ?_
    ·intro wD E sD
     intro x_ hx_; have hx_ : x_ = _ := hx_; subst x_
     refine Rg.gyes rfl rfl ?_
     refine Rg.loadc Tryz.underlying25 rfl rfl rfl (sD.same0 gb2) rfl ?_
     exact Rg.nil ⟨rfl, rfl, _, rfl, rfl, Step.refl _ _⟩
    refine Obls.cons ?_ ?_
    ·intro wD E sD
     intro x_ hx_; have hx_ : x_ = _ := hx_; subst x_
     refine Rg.gyes rfl rfl ?_
     refine Rg.move rfl rfl ?_
     exact Rg.nil ⟨rfl, rfl, _, rfl, rfl, Step.refl _ _⟩
    refine Obls.cons ?_ ?_
    ·intro wD E sD
     intro x_ hx_; have hx_ : x_ = _ := hx_; subst x_
     intro x_ hx_; have hx_ : x_ = _ := hx_; subst x_
     intro x_ hx_; have hx_ : x_ = _ := hx_; subst x_
     intro x_ hx_; have hx_ : x_ = _ := hx_; subst x_
     refine Rg.gyes rfl rfl ?_
     refine Rg.call rfl rfl E70 (sseq_spec _ (hs2.le (by decide) sD.le)) (fun r5 w5 hc => ?_)
     obtain ⟨rfl, rfl⟩ := hc
     exact Rg.nil ⟨rfl, rfl, _, rfl, rfl, Step.refl _ _⟩
    refine Obls.cons ?_ ?_
    ·intro wD E sD
     intro x_ hx_; have hx_ : x_ = _ := hx_; subst x_
     refine Rg.gyes rfl rfl ?_
     refine Rg.fieldAddr (M := M1) (A := RT.er) (B := RT.int .i64) Tryz.underlying51 rfl rfl I3 (by decide) er1 rfl rfl (by decide) hu2 sD.le (fun uf huf => ?_)
     exact Rg.nil ⟨rfl, rfl, _, rfl, huf, Step.refl _ _⟩
    refine Obls.cons ?_ ?_
    ·intro wD E sD
     intro v6 hv6
     intro x_ hx_; have hx_ : x_ = _ := hx_; subst x_
     refine Rg.gyes rfl rfl ?_
     refine Rg.loadi64 (M := M1) Tryz.underlying3 rfl rfl (show PtrTo (RT.int .i64) M1 wD v6 e.2 from hv6) (Le.refl _ _) (fun hin => ?_)
     exact Rg.nil ⟨rfl, rfl, _, rfl, rfl, Step.refl _ _⟩
    refine Obls.cons ?_ ?_
    ·intro wD E sD
     intro x_ hx_; have hx_ : x_ = _ := hx_; subst x_
     intro x_ hx_; have hx_ : x_ = _ := hx_; subst x_
     intro x_ hx_; have hx_ : x_ = _ := hx_; subst x_
     refine Rg.gyes rfl rfl ?_
     refine Rg.ilt rfl rfl rfl ?_
     exact Rg.nil ⟨rfl, rfl, _, rfl, rfl, Step.refl _ _⟩
    refine Obls.cons ?_ ?_
    ·intro wD E sD
     intro x_ hx_; have hx_ : x_ = _ := hx_; subst x_
     intro x_ hx_; have hx_ : x_ = _ := hx_; subst x_
     refine Rg.pickt rfl rfl rfl ?_
     exact Rg.nil ⟨rfl, rfl, _, rfl, rfl, Step.refl _ _⟩
    exact Obls.nil
   ·intro wD2 sD2
    intro x_ hx_; have hx_ : x_ = _ := hx_; subst x_
    intro x_ hx_; have hx_ : x_ = _ := hx_; subst x_
    intro x_ hx_; have hx_ : x_ = _ := hx_; subst x_
    intro x_ hx_; have hx_ : x_ = _ := hx_; subst x_
    intro x_ hx_; have hx_ : x_ = _ := hx_; subst x_
    intro x_ hx_; have hx_ : x_ = _ := hx_; subst x_
    intro v2_6 hv2_6
    intro x_ hx_; have hx_ : x_ = _ := hx_; subst x_
    intro x_ hx_; have hx_ : x_ = _ := hx_; subst x_
    intro x_ hx_; have hx_ : x_ = _ := hx_; subst x_
    have hJ3 := hst _ _ _ _ _ _ hJ sD2 (fun b h => h.elim)
    have hC3 := hC2.step sD2 (fun h => h)
    refine T.ifp rfl (fun c2 => ?_) (fun c2 => ?_)
    ·refine T.skip ?_
     refine T.seq ?_
     refine T.block ?_
     refine T.seq ?_
     refine T.region ?_
     refine Rg.move rfl rfl ?_
     refine Rg.move rfl rfl ?_
     refine Rg.yield rfl (vs := [.int .i64 (docAt (atK s.2.2.1 ls (keyE e.1)) (k : Int))]) rfl rfl (hy k M1 _ _ hJ3 (by rw [hdd]; exact tw_at hlo (by rw [List.getElem?_map, hx]; rfl) (by rw [← hdd]; simpa using c2))) (fun r4 w5 h5 => ?_)
     obtain ⟨b, rfl, hb5, hb6⟩ := h5
     refine Rg.not rfl rfl ?_
     refine Rg.eqv (v' := .bool (decide (¬ b = true))) (by simp) ?_
     refine Rg.nil ?_
     refine T.ifp rfl (fun c4 => ?_) (fun c4 => ?_)
     ·refine T.ret ?_
      exact Kret0 rfl (.inr (hb6 (by simpa using c4)))
     ·refine T.skip ?_
      refine T.region ?_
      refine Rg.move rfl rfl ?_
      obtain ⟨M2, N2, hJ4, s4, hN4⟩ := hb5 (Decidable.not_not.1 c4)
      have hC4 := hC3.step s4 (fun h => by obtain ⟨_, _, _, _, _, h9, _⟩ := hC3; exact hN4 _ h _ h9)
      obtain ⟨_, hM4, _, _⟩ := hbx _ _ _ hJ4
      refine Rg.call rfl rfl E96 (Next_spec hC4 hM4 hOk.may hOk.ps hOk.by_ hOk.ln) (fun r6 w6 h => ?_)
      obtain ⟨rfl, s6, hC6⟩ := h
      have hJ6 := hst _ _ _ _ _ _ hJ4 s6 (fun b (h : b = bc) => ⟨by omega, fun _ => by (obtain ⟨_, _, _, _, _, h9, _⟩ := hC4; exact ⟨_, by rw [h]; exact h9⟩)⟩)
      have hni : nextI (atK s.2.2.1 ls (keyE e.1)) (k : Int) = ((k + 1 : Nat) : Int) := by unfold nextI; rw [if_pos (by omega)]; rfl
      rw [hni] at hC6 ⊢
      refine Rg.assign rfl rfl ?_
      refine Rg.nil ?_
      refine ⟨rfl, k + 1, (.cons rfl (.cons rfl (.cons rfl (.cons rfl (.cons rfl .nil))))), ?_, ?_⟩
      ·exact ⟨by omega, fun j x hj hx' => by
        rcases Nat.lt_or_ge j k with h | h
        ·exact hlo j x h hx'
        ·rw [show j = k by omega, List.getElem?_map, hx] at hx'; cases hx'; rw [← hdd]; simpa using c2, _, hJ6, hC6⟩
      ·omega
    ·refine T.exit ?_
     first | refine EndP.nil ?_ | simp +decide only [Kseq, Kblock, if_true, if_false] | skip
     have el : (takeZ (atK s.2.2.1 ls (keyE e.1)) s.2.1 e.2).length = k := tw_len hlo (by rw [List.length_map]; exact hk) (fun d' hd' => by
      rw [List.getElem?_map] at hd'
      obtain ⟨p, hp, rfl⟩ := Option.map_eq_some_iff.1 hd'
      have hdp : docAt (atK s.2.2.1 ls (keyE e.1)) (k : Int) = p.1 := docAt_get hp
      first
      |(rw [hdp] at c2; simpa using c2)
      |(have := doc_rng hOk.may hp; omega))
     exact Kret0n rfl (.inl ⟨_, by rw [el]; exact hJ3⟩)
  ·apply T.draw (M := M1) mixed [Asr.eq _, Asr.eq _, Asr.eq (.bool false), Asr.eq undef, Asr.eq undef, Asr.eq undef, Asr.eq undef, Asr.eq undef, Asr.eq undef, Asr.eq _]
   ·rfl
   ·refine Obls.cons ?_ ?_
    ·intro wD E sD
     refine Rg.move rfl rfl ?_
     exact Rg.nil ⟨rfl, rfl, _, rfl, rfl, Step.refl _ _⟩
    refine Obls.cons ?_ ?_
    ·intro wD E sD
     intro x_ hx_; have hx_ : x_ = _ := hx_; subst x_
     refine Rg.ilt rfl rfl rfl ?_
     exact Rg.nil ⟨rfl, rfl, _, rfl, rfl, Step.refl _ _⟩
    refine Obls.cons ?_ ?_
    ·intro wD E sD
     intro x_ hx_; have hx_ : x_ = _ := hx_; subst x_
     refine Rg.move rfl rfl ?_
     refine Rg.nil ⟨rfl, rfl, _, rfl, ?_, Step.refl _ _⟩
     exact congrArg Value.bool (decide_eq_false g2_2)
    refine Obls.cons ?_ ?_
    ·intro wD E sD
     intro x_ hx_; have hx_ : x_ = _ := hx_; subst x_
     exact Rg.gno rfl rfl rfl rfl (Rg.nil ⟨rfl, rfl, _, rfl, rfl, Step.refl _ _⟩)
    refine Obls.cons ?_ ?_
    ·intro wD E sD
     intro x_ hx_; have hx_ : x_ = _ := hx_; subst x_
     exact Rg.gno rfl rfl rfl rfl (Rg.nil ⟨rfl, rfl, _, rfl, rfl, Step.refl _ _⟩)
    refine Obls.cons ?_ ?_
    ·intro wD E sD
     intro x_ hx_; have hx_ : x_ = _ := hx_; subst x_
     intro x_ hx_; have hx_ : x_ = _ := hx_; subst x_
     intro x_ hx_; have hx_ : x_ = _ := hx_; subst x_
     intro x_ hx_; have hx_ : x_ = _ := hx_; subst x_
     exact Rg.gno rfl rfl rfl rfl (Rg.nil ⟨rfl, rfl, _, rfl, rfl, Step.refl _ _⟩)
    refine Obls.cons ?_ ?_
    ·intro wD E sD
     intro x_ hx_; have hx_ : x_ = _ := hx_; subst x_
     exact Rg.gno rfl rfl rfl rfl (Rg.nil ⟨rfl, rfl, _, rfl, rfl, Step.refl _ _⟩)
    refine Obls.cons ?_ ?_
    ·intro wD E sD
     intro x_ hx_; have hx_ : x_ = _ := hx_; subst x_
     intro x_ hx_; have hx_ : x_ = _ := hx_; subst x_
     exact Rg.gno rfl rfl rfl rfl (Rg.nil ⟨rfl, rfl, _, rfl, rfl, Step.refl _ _⟩)
    refine Obls.cons ?_ ?_
    ·intro wD E sD
     intro x_ hx_; have hx_ : x_ = _ := hx_; subst x_
     intro x_ hx_; have hx_ : x_ = _ := hx_; subst x_
     intro x_ hx_; have hx_ : x_ = _ := hx_; subst x_
     exact Rg.gno rfl rfl rfl rfl (Rg.nil ⟨rfl, rfl, _, rfl, rfl, Step.refl _ _⟩)
    refine Obls.cons ?_ ?_
    ·intro wD E sD
     intro x_ hx_; have hx_ : x_ = _ := hx_; subst x_
     intro x_ hx_; have hx_ : x_ = _ := hx_; subst x_
     refine Rg.pickf rfl rfl rfl ?_
     exact Rg.nil ⟨rfl, rfl, _, rfl, rfl, Step.refl _ _⟩
    exact Obls.nil
   ·intro wD2 sD2
    intro x_ hx_; have hx_ : x_ = _ := hx_; subst x_
    intro x_ hx_; have hx_ : x_ = _ := hx_; subst x_
    intro x_ hx_; have hx_ : x_ = _ := hx_; subst x_
    intro x_ hx_; have hx_ : x_ = _ := hx_; subst x_
    intro x_ hx_; have hx_ : x_ = _ := hx_; subst x_
    intro x_ hx_; have hx_ : x_ = _ := hx_; subst x_
    intro x_ hx_; have hx_ : x_ = _ := hx_; subst x_
    intro x_ hx_; have hx_ : x_ = _ := hx_; subst x_
    intro x_ hx_; have hx_ : x_ = _ := hx_; subst x_
    intro x_ hx_; have hx_ : x_ = _ := hx_; subst x_
    have hJ3 := hst _ _ _ _ _ _ hJ sD2 (fun b h => h.elim)
    have hC3 := hC2.step sD2 (fun h => h)
    refine T.iff rfl ?_
    refine T.exit ?_
    first | refine EndP.nil ?_ | simp +decide only [Kseq, Kblock, if_true, if_false] | skip
    have el : (takeZ (atK s.2.2.1 ls (keyE e.1)) s.2.1 e.2).length = k := tw_len hlo (by rw [List.length_map]; exact hk) (fun d' hd' => by
     rw [List.getElem?_map] at hd'
     obtain ⟨p, hp, rfl⟩ := Option.map_eq_some_iff.1 hd'
     have hdp : docAt (atK s.2.2.1 ls (keyE e.1)) (k : Int) = p.1 := docAt_get hp
     first
     |(rw [hdp] at c2; simpa using c2)
     |(have := doc_rng hOk.may hp; omega))
    exact Kret0n rfl (.inl ⟨_, by rw [el]; exact hJ3⟩)
end Go.K
namespace Go.K
open Go.Proofs
namespace TKErsC
theorem I51 : TI Tryz.prog 51 (.agg #[(.string ⟨#[]⟩), (.string ⟨#[]⟩), (.int .i64 0)]) 3 40 := by unfold TI; kernel_rfl
theorem E71 : Enters Tryz.prog 71 := enters Tryz.func71 rfl (by decide)
theorem E72 : Enters Tryz.prog 72 := enters Tryz.func72 rfl (by decide)
theorem E121 : Enters Tryz.prog 121 := enters Tryz.func121 rfl (by decide)
theorem E122 : Enters Tryz.prog 122 := enters Tryz.func122 rfl (by decide)
end TKErsC
open TKErsC
set_option linter.unusedVariables false
set_option linter.unusedSimpArgs false
set_option maxRecDepth 10000
def GivesI (K : PSet → World → Prop) (C : TypeId) (gf : FuncId) (lb : Array Value) (xs : List Int) : Prop :=
 ∀ {yl : Nat} {J : Nat → PSet → World → Prop} {M : PSet} {Jx : World → Prop} (w0 : World) (_ : ∀ i M w, J i M w → Lt M w ∧ K M w)
  (_ : ∀ i M w M' w' N, J i M w → Step M w M' w' N → (∀ b, N b → w0.heap.size ≤ b ∧ (b < w.heap.size → ∃ cs, w.heap[b]? = some (.cells cs C (0, 0)))) → J i M' w')
  (_ : ∀ (i : Nat) (M : PSet) (w : World) (d : Int), J i M w → xs[i]? = some d → Yield Tryz.prog yl [.int .i64 d].toArray w (fun r w' => ∃ b, r = .bool b ∧ (b = true → ∃ M' N, J (i + 1) M' w' ∧ Step M w M' w' N ∧ ∀ k, N k → ∀ cs, w.heap[k]? ≠ some (.cells cs C (0, 0))) ∧ (b = false → Jx w'))) (_ : J 0 M w0),
  Spec Tryz.prog gf (#[.func (.yield yl) #[] #[]] ++ lb) w0 (fun _ w => (∃ M', J xs.length M' w) ∨ Jx w)
structure RgK {α : Type} (A : RT α) (e T C : TypeId) (K : PSet → World → Prop) (M : PSet) (w0 : World) (bo D : Nat) (st : Loop) (vo : Value) (xs : List α) (M' : PSet) (w : World) : Prop where
 lt : Lt M' w
 S : Step M w0 M' w none'
 o : w.heap[bo]? = some (.cells #[vo] T (0, 0))
 mo : M' bo
 r : w.heap[D + 1]? = some (.loop st)
 mr : M' (D + 1)
 d : w.heap[D]? = some (.deferred (some []))
 md : M' D
 own : Own A e M' w w0.heap.size vo xs
 k : K M' w
 z : w0.heap.size ≤ bo ∧ w0.heap.size ≤ D
section
variable {α : Type} {A : RT α} {e T C : TypeId} {K : PSet → World → Prop} {M M1 M2 N : PSet} {w0 w w' : World} {bo D : Nat} {st : Loop} {vo : Value} {xs : List α}
theorem RgK.stepN (hK : ∀ {M w M' w'}, K M w → Le M w M' w' → K M' w') (h1 : C ≠ e) (h2 : C ≠ T) (h : RgK A e T C K M w0 bo D st vo xs M1 w) (s : Step M1 w M2 w' N) (hN : ∀ b, N b → w0.heap.size ≤ b ∧ (b < w.heap.size → ∃ cs, w.heap[b]? = some (.cells cs C (0, 0)))) : RgK A e T C K M w0 bo D st vo xs M2 w' := by
 have n1 : ¬ N bo := fun hn => by obtain ⟨cs, hc⟩ := (hN _ hn).2 (lt_of_get h.o); rw [h.o] at hc; injection hc with hc; injection hc with _ hc; exact h2 hc.symm
 have n2 : ¬ N (D + 1) := fun hn => by obtain ⟨cs, hc⟩ := (hN _ hn).2 (lt_of_get h.r); rw [h.r] at hc; cases hc
 have n3 : ¬ N D := fun hn => by obtain ⟨cs, hc⟩ := (hN _ hn).2 (lt_of_get h.d); rw [h.d] at hc; cases hc
 refine ⟨s.lt h.lt, h.S.transNew s (fun k hk => (hN k hk).1), s.keep h.o n1, (s.mem _ (lt_of_get h.o)).2 h.mo, s.keep h.r n2, (s.mem _ (lt_of_get h.r)).2 h.mr, s.keep h.d n3, (s.mem _ (lt_of_get h.d)).2 h.md, h.own.step s (fun b hb hn => ?_), hK h.k s.le, h.z⟩
 obtain ⟨cs, hc⟩ := h.own.isCells hb
 obtain ⟨cs', hc'⟩ := (hN _ hn).2 (lt_of_get hc)
 rw [hc] at hc'; injection hc' with hc'; injection hc' with _ hc'; exact h1 hc'.symm
theorem RgK.step0 (hK : ∀ {M w M' w'}, K M w → Le M w M' w' → K M' w') (h : RgK A e T C K M w0 bo D st vo xs M1 w) (s : Step M1 w M2 w' none') : RgK A e T C K M w0 bo D st vo xs M2 w' :=
 ⟨s.lt h.lt, h.S.trans0 s, s.same0 h.o, (s.mem _ (lt_of_get h.o)).2 h.mo, s.same0 h.r, (s.mem _ (lt_of_get h.r)).2 h.mr, s.same0 h.d, (s.mem _ (lt_of_get h.d)).2 h.md, h.own.step0 s, hK h.k s.le, h.z⟩
theorem RgK.setR (hK : ∀ {M w M' w'}, K M w → Le M w M' w' → K M' w') {st' : Loop} (h : RgK A e T C K M w0 bo D st vo xs M1 w) : RgK A e T C K M w0 bo D st' vo xs M1 (w.putObj (D + 1) (.loop st')) := by
 have s : Step M1 w M1 (w.putObj (D + 1) (.loop st')) (fun k => k = D + 1) := step_putObj h.mr
 obtain ⟨z1, z2⟩ := h.z
 refine ⟨s.lt h.lt, h.S.transNew s (fun k (hk : k = D + 1) => by omega), s.keep h.o (fun (hn : bo = D + 1) => by have h1 := h.o; rw [hn, h.r] at h1; cases h1), h.mo, World.putObj_heap_same (lt_of_get h.r), h.mr, s.keep h.d (fun (hn : D = D + 1) => by omega), h.md, h.own.step s (fun b hb (hn : b = D + 1) => ?_), hK h.k s.le, h.z⟩
 obtain ⟨cs, hc⟩ := h.own.isCells hb
 rw [hn, h.r] at hc; cases hc
theorem RgK.grow (hK : ∀ {M w M' w'}, K M w → Le M w M' w' → K M' w') {vo' : Value} {xs' : List α} (hT : T ≠ e) (h : RgK A e T C K M w0 bo D st vo xs M1 w) (s : Step M1 w M2 w' (blk vo)) (ho : Own A e M2 w' w0.heap.size vo' xs') :
  (w'.heap[bo]? = some (.cells #[vo] T (0, 0)) ∧ M2 bo) ∧ ∀ {w2 : World}, Step M2 w' M2 w2 (fun k => k = bo) → w2.heap[bo]? = some (.cells #[vo'] T (0, 0)) → RgK A e T C K M w0 bo D st vo' xs' M2 w2 := by
 obtain ⟨z1, z2⟩ := h.z
 have nblk : ∀ {b : Nat} {o : Obj}, w.heap[b]? = some o → (∀ cs fr, o ≠ .cells cs e fr) → ¬ blk vo b := fun {b o} hb hne hn => by
  obtain ⟨⟨C, h1, _⟩, _⟩ := h.own
  rcases h1.2 with h3 | ⟨g, cap, cur, h3, h4, h5, _⟩
  ·unfold blk at hn; rw [h3.1] at hn; cases hn
  ·unfold blk at hn; rw [h3] at hn; cases hn; rw [hb] at h5; exact hne _ _ (Option.some.inj h5)
 have ho' := s.keep h.o (nblk h.o (fun cs fr hc => by injection hc with _ h1 _; exact hT h1))
 have hr := s.keep h.r (nblk h.r (fun cs fr hc => by cases hc))
 have hd := s.keep h.d (nblk h.d (fun cs fr hc => by cases hc))
 have hmo := (s.mem _ (lt_of_get h.o)).2 h.mo
 refine ⟨⟨ho', hmo⟩, fun {w2} s2 hx => ⟨s2.lt (s.lt h.lt), (h.S.transBlk s h.own (Nat.le_refl _)).transNew s2 (fun k (hk : k = bo) => by omega), hx, hmo, s2.keep hr (fun (hn : D + 1 = bo) => by rw [hn, ho'] at hr; cases hr), (s.mem _ (lt_of_get h.r)).2 h.mr, s2.keep hd (fun (hn : D = bo) => by rw [hn, ho'] at hd; cases hd), (s.mem _ (lt_of_get h.d)).2 h.md, ho.step s2 (fun b hb (hn : b = bo) => ho.neT ho' hT (by rw [← hn]; exact hb)), hK (hK h.k s.le) s2.le, h.z⟩⟩
end
theorem RgK.told {α : Type} {A : RT α} {e T C : TypeId} {K : PSet → World → Prop} {M M1 M5 M6 : PSet} {w0 w w4 w5 w6 w7 w8 : World} {bo D : Nat} {st : Loop} {vo : Value} {xs : List α} (h1 : C ≠ e) (h2 : C ≠ T) (h : RgK A e T C K M w0 bo D st vo xs M1 w) (s4 : Step M1 w M1 w4 (fun k => k = D + 1)) (s5 : Step M1 w4 M5 w5 none') (s6 : Step M5 w5 M6 w6 (blk vo)) (s7 : Step M6 w6 M6 w7 (fun k => k = bo)) (s8 : Step M6 w7 M6 w8 (fun k => k = D + 1)) : ∃ N, Step M1 w M6 w8 N ∧ ∀ k, N k → ∀ cs, w.heap[k]? ≠ some (.cells cs C (0, 0)) := by
 refine ⟨fun b => b = D + 1 ∨ blk vo b ∨ b = bo, ((((s4.widen (fun b hb => .inl hb) (fun b hb => ?_)).trans0 s5).trans s6 (fun b _ hb => .inr (.inl hb))).trans s7 (fun b _ hb => .inr (.inr hb))).trans s8 (fun b _ hb => .inl hb), fun k hk cs hc => ?_⟩
 ·rcases hb with rfl | hb | rfl
  ·exact h.mr
  ·exact h.own.mut_ _ hb
  ·exact h.mo
 ·rcases hk with rfl | hk | rfl
  ·rw [h.r] at hc; cases hc
  ·obtain ⟨cs', hc'⟩ := h.own.isCells hk
   rw [hc] at hc'; injection hc' with hc'; injection hc' with _ hc'; exact h1 hc'
  ·rw [h.o] at hc; injection hc with hc; injection hc with _ hc; exact h2 hc.symm
theorem rgK0 {α : Type} {A : RT α} {e T C : TypeId} {K : PSet → World → Prop} {M M1 : PSet} {w0 w : World} {bo : Nat} {st : Loop} (hK : ∀ {M w M' w'}, K M w → Le M w M' w' → K M' w') (hM : Lt M1 w) (S : Step M w0 M1 w none') (go : w.heap[bo]? = some (.cells #[.slice none 0 0] T (0, 0))) (mo : M1 bo) (hk : K M1 w) (hbo : w0.heap.size ≤ bo) :
  ∃ M', RgK A e T C K M w0 bo w.heap.size st (.slice none 0 0) [] M' ((w.alloc (.deferred (some []))).alloc (.loop st)) := by
 have sA : Step M1 w (ins M1 w.heap.size) (w.alloc (.deferred (some []))) none' := (step_alloc M1 w _).own (Nat.le_refl _) (by simp)
 have sB : Step (ins M1 w.heap.size) (w.alloc (.deferred (some []))) (ins (ins M1 w.heap.size) (w.heap.size + 1)) ((w.alloc (.deferred (some []))).alloc (.loop st)) none' := (step_alloc _ _ _).own (by simp) (by simp)
 have hD : (w.alloc (.deferred (some []))).heap[w.heap.size]? = some (.deferred (some [])) := heap_alloc_at w _
 have hR : ((w.alloc (.deferred (some []))).alloc (.loop st)).heap[w.heap.size + 1]? = some (.loop st) := by have := heap_alloc_at (w.alloc (.deferred (some []))) (.loop st); rwa [World.size_alloc] at this
 exact ⟨_, sB.lt (sA.lt hM), (S.trans0 sA).trans0 sB, sB.same0 (sA.same0 go), .inr (.inr mo), hR, .inl rfl, sB.same0 hD, .inr (.inl rfl), Own.nil _ _ _ _ _, hK (hK hk sA.le) sB.le, hbo, S.size⟩
theorem appi_spec {K : PSet → World → Prop} {gf : FuncId} {lb : Array Value} {xs : List Int} {M : PSet} (w0 : World) (hM : Lt M w0) (he : Enters Tryz.prog gf) (hG : GivesI K 216 gf lb xs) (hK : ∀ {M w M' w'}, K M w → Le M w M' w' → K M' w') (hk : K M w0) (hxi : ∀ x ∈ xs, -9223372036854775808 ≤ x ∧ x ≤ 9223372036854775807) (hxl : xs.length ≤ 1099511627776) :
  Spec Tryz.prog 121 #[.slice none 0 0, .func (.func gf) #[] lb] w0 (fun v w => ((RT.int .i64).sl).V M w xs v ∧ Step M w0 M w none') := by
 have hM0 := hM
 refine spec_ofM (args := [_, _]) (fn := Tryz.f121) Tryz.func121 rfl (n := 13) Tryz.ntmps121 ?_
 have S : Step M w0 M w0 none' := (Step.refl _ _).widen (fun _ h => h.elim) (fun _ h => h.elim)
 refine T.seq ?_
 refine T.region ?_
 refine Rg.box M rfl rfl (fun b0_0 w0_0 p0_0 q0_0 g0_0 s0_0 => ?_)
 obtain ⟨M_0_0, eM_0_0⟩ : ∃ M', M' = ins M b0_0 := ⟨_, rfl⟩
 rw [← eM_0_0] at s0_0
 have m_g0_0 : M_0_0 b0_0 := by rw [eM_0_0]; exact .inl rfl
 change w0_0.heap[b0_0]? = some (.cells #[.slice none 0 0] _ _) at g0_0
 replace hM := s0_0.lt hM
 have := S.size
 replace S := S.trans0 s0_0
 refine Rg.assign rfl rfl ?_
 refine Rg.nil ?_
 refine T.seq ?_
 refine T.seq ?_
 refine T.region ?_
 refine Rg.move rfl rfl ?_
 refine Rg.nil ?_
 refine T.block ?_
 refine T.range (gf := gf) (lb := lb) rfl he (fun rec hrec => ?_)
 obtain ⟨D, hD⟩ : ∃ D, D = w0_0.heap.size := ⟨_, rfl⟩
 obtain ⟨Mr, h0⟩ := rgK0 (A := RT.int .i64) (e := 3) (C := 216) (st := rec .ready none) hK hM S g0_0 m_g0_0 (hK hk S.le) (by omega)
 rw [← hD] at hrec h0 ⊢
 refine Spec.mono (hG (M := Mr) (J := fun i M' w => ∃ vo, RgK (RT.int .i64) 3 32 216 K M w0 b0_0 D (rec .ready none) vo (xs.take i) M' w) (Jx := fun _ => False) _ (fun i M' w ⟨vo, h⟩ => ⟨h.lt, h.k⟩) (fun i M' w M2 w2 N ⟨vo, h⟩ s hN => ⟨vo, h.stepN hK (by decide) (by decide) s (fun b hb => ⟨by have h1 := (hN b hb).1; have h2 := h.z.2; simp at h1; omega, (hN b hb).2⟩)⟩) (fun i M' wr x hJ hx => ?_) ⟨_, h0⟩) (fun _ w3 h3 => ?_)
 ·obtain ⟨vo, h⟩ := hJ
  refine yield_rec (ps := [7]) (vs := [.int .i64 x]) hrec h.r rfl (by decide) ?_
  refine T.region ?_
  refine Rg.assign rfl rfl ?_
  refine Rg.nil ?_
  refine ⟨rfl, h.r, ?_⟩
  have h4 := h.setR hK (st' := rec .busy none)
  have s4 : Step M' wr M' (wr.putObj (D + 1) (.loop (rec .busy none))) (fun k => k = D + 1) := step_putObj h.mr
  generalize wr.putObj (D + 1) _ = w4 at h4 s4 ⊢
  refine T.block ?_
  refine T.region ?_
  refine Rg.loadc Tryz.underlying32 rfl rfl rfl h4.o rfl ?_
  refine Rg.eqv (v' := vo) rfl ?_
  refine Rg.move rfl rfl ?_
  refine Rg.sl1 (A := RT.int .i64) (hn := by decide) (M := M') Tryz.underlying32 I3 (by decide) rfl rfl h4.lt (V_int.2 ⟨rfl, hxi x (List.mem_of_getElem? hx)⟩) (.inr ⟨rfl, rfl⟩) (fun u5 w5 hu5 s5 => ?_)
  have h6 := h4.step0 hK s5
  have hil := (List.getElem?_eq_some_iff.1 hx).1
  refine Rg.append (M := M') (base := w0.heap.size) Tryz.underlying32 I3 rfl rfl rfl rfl h6.own hu5 (Le.refl _ _) (by simp; omega) (by simp; omega) h6.S.size (fun v6 M6 w6 ho6 s6 => ?_)
  obtain ⟨⟨go6, mo6⟩, hgo⟩ := h6.grow hK (by decide) s6 ho6
  refine Rg.storec (M := M6) I32 rfl rfl go6 rfl (by obtain ⟨_, _, he, _⟩ := ho6.isSlice; rw [he]; rfl) mo6 (fun w7 g7 s7 => ?_)
  refine Rg.nil ?_
  have h8 := (hgo s7 g7).setR hK (st' := rec .ready none)
  obtain ⟨N, hN1, hN2⟩ := h.told (by decide) (by decide) s4 s5 s6 s7 (step_putObj (o := .loop (rec .ready none)) (hgo s7 g7).mr)
  exact ⟨(hgo s7 g7).r, true, rfl, fun _ => ⟨M6, N, ⟨v6, by rw [List.take_add_one, hx, Option.toList_some]; exact h8⟩, hN1, hN2⟩, fun h => by cases h⟩
 ·obtain ⟨M', vo, h⟩ := h3.resolve_right id
  left
  refine ⟨h.r, ?_⟩
  have h5 := h.setR hK (st' := rec .exhausted none)
  generalize w3.putObj (D + 1) _ = wE at h5 ⊢
  refine T.seq ?_
  refine T.region ?_
  refine Rg.loadc Tryz.underlying32 rfl rfl rfl h5.o rfl ?_
  refine Rg.eqv (v' := vo) rfl ?_
  refine Rg.assign rfl rfl ?_
  refine Rg.nil ?_
  refine T.ret ?_
  have sE : Step M' wE M' (wE.putObj D (.deferred none)) (fun k => k = D) := step_putObj h5.md
  have hz := h5.z
  have hS := h5.S.transNew sE (fun k (hk : k = D) => by omega)
  have ho := h5.own.step sE (fun b hb (hn : b = D) => by
   obtain ⟨cs, hc⟩ := h5.own.isCells hb
   rw [hn, h5.d] at hc; cases hc)
  rw [List.take_of_length_le (Nat.le_refl _)] at ho
  exact KretM1 rfl rfl h5.d ⟨ho.close hM0 hS (by omega), hS.back⟩
theorem colli_spec {K : PSet → World → Prop} {gf : FuncId} {lb : Array Value} {xs : List Int} {M : PSet} (w0 : World) (hM : Lt M w0) (he : Enters Tryz.prog gf) (hG : GivesI K 216 gf lb xs) (hK : ∀ {M w M' w'}, K M w → Le M w M' w' → K M' w') (hk : K M w0) (hxi : ∀ x ∈ xs, -9223372036854775808 ≤ x ∧ x ≤ 9223372036854775807) (hxl : xs.length ≤ 1099511627776) :
  Spec Tryz.prog 71 #[.func (.func gf) #[] lb] w0 (fun v w => ((RT.int .i64).sl).V M w xs v ∧ Step M w0 M w none') := by
 refine spec_of (args := [_]) (fn := Tryz.f71) Tryz.func71 rfl (n := 5) Tryz.ntmps71 ?_
 refine T.seq ?_
 refine T.region ?_
 refine Rg.assign rfl rfl ?_
 refine Rg.nil ?_
 refine T.seq ?_
 refine T.region ?_
 refine Rg.move rfl rfl ?_
 refine Rg.call rfl rfl E121 (appi_spec _ hM he hG hK hk hxi hxl) (fun r wc hc => ?_)
 obtain hc := hc
 refine Rg.assign rfl rfl ?_
 refine Rg.nil ?_
 refine T.ret ?_
 exact Kret1 rfl rfl hc
theorem tw_mem {α : Type} {p : α → Bool} : ∀ {xs : List α} {x : α}, x ∈ xs.takeWhile p → p x = true
 |[], _, h => by cases h
 |y :: xs, x, h => by
  rw [List.takeWhile_cons] at h
  split at h
  ·rename_i hp
   rcases List.mem_cons.1 h with rfl | h
   ·exact hp
   ·exact tw_mem h
  ·cases h
theorem takeZ_in {l : List Po} {sq : List Int} {t d : Int} (h : d ∈ takeZ l sq t) : ∃ p ∈ l, p.1 = d ∧ ofZ sq d < t := by
 have h1 := tw_mem h
 obtain ⟨p, hp, rfl⟩ := List.mem_map.1 ((List.takeWhile_sublist _).subset h)
 exact ⟨p, hp, rfl, by simpa using h1⟩
theorem takeZ_len (l : List Po) (sq : List Int) (t : Int) : (takeZ l sq t).length ≤ l.length := by
 have := (List.takeWhile_sublist (l := l.map (·.1)) (fun d => decide (ofZ sq d < t))).length_le
 rwa [List.length_map] at this
theorem takes_gives {s : Se} {ls : List (List Po)} {e : Er} {v0 u : Value} {bs : Nat} (hup : UpT s.2.2.1) (hls : s.2.2.2 = ls.map mkLi) (hdl : s.2.2.1.length = ls.length) (hOk : OkC (atK s.2.2.1 ls (keyE e.1))) (h1 : e.1.1.length ≤ 140737488355328) (h2 : e.1.2.length ≤ 140737488355328) :
  GivesI (fun M w => w.heap[bs]? = some (.cells #[v0] 25 (0, 0)) ∧ ¬ M bs ∧ PtrTo RT.se M w v0 s ∧ PtrTo RT.er M w u e) 216 122 #[.pointer (some ⟨bs, 0, none⟩), u] (takeZ (atK s.2.2.1 ls (keyE e.1)) s.2.1 e.2) :=
 fun w0 hk hst hy h0 => takes1_spec w0 hup hls hdl hOk h1 h2 (fun i M w h => ⟨(hk i M w h).2.1, (hk i M w h).1, (hk i M w h).2.2.2.1, (hk i M w h).2.2.2.2⟩) hst hy h0
theorem takes_keeps {s : Se} {e : Er} {v0 u : Value} {bs : Nat} {M M' : PSet} {w w' : World} (h : w.heap[bs]? = some (.cells #[v0] 25 (0, 0)) ∧ ¬ M bs ∧ PtrTo RT.se M w v0 s ∧ PtrTo RT.er M w u e) (l : Le M w M' w') : w'.heap[bs]? = some (.cells #[v0] 25 (0, 0)) ∧ ¬ M' bs ∧ PtrTo RT.se M' w' v0 s ∧ PtrTo RT.er M' w' u e :=
 have hb := l bs (lt_of_get h.1) h.2.1
 ⟨hb.2.trans h.1, hb.1, h.2.2.1.le (by decide) l, h.2.2.2.le (by decide) l⟩
theorem taken_spec {M : PSet} {s : Se} {ls : List (List Po)} {e : Er} {v0 ve : Value} (w0 : World) (hM : Lt M w0) (hs : PtrTo RT.se M w0 v0 s) (he : RT.er.V M w0 e ve) (hup : UpT s.2.2.1) (hls : s.2.2.2 = ls.map mkLi) (hdl : s.2.2.1.length = ls.length) (hOk : OkC (atK s.2.2.1 ls (keyE e.1))) :
  Spec Tryz.prog 24 #[v0, ve] w0 (fun v w => ((RT.int .i64).sl).V M w (takeZ (atK s.2.2.1 ls (keyE e.1)) s.2.1 e.2) v ∧ Step M w0 M w none') := by
 obtain ⟨eve, ⟨hl1, hl2⟩, he2⟩ := er_val he
 refine spec_of (args := [_, _]) (fn := Tryz.f24) Tryz.func24 rfl (n := 9) Tryz.ntmps24 ?_
 have S : Step M w0 M w0 none' := (Step.refl _ _).widen (fun _ h => h.elim) (fun _ h => h.elim)
 refine T.seq ?_
 refine T.region ?_
 refine Rg.boxp (A := RT.er) (a := e) rfl rfl hM he rfl (fun u0 w1 hu0 s0 _ => ?_)
 replace hs := hs.le (by decide) s0.le
 replace he := he.le s0.le
 replace hM := s0.lt hM
 have := S.size
 replace S := S.trans0 s0
 refine Rg.assign rfl rfl ?_
 refine Rg.nil ?_
 refine T.seq ?_
 refine T.region ?_
 refine Rg.move rfl rfl ?_
 refine Rg.loadagg (M := M) (A := RT.er) Tryz.underlying51 rfl I51 (by decide) rfl rfl rfl hu0 (Le.refl _ _) (fun vt hvt => ?_)
 refine Rg.call rfl rfl E72 (takes_spec _ hM hs hvt) (fun r2 w2 hc => ?_)
 obtain ⟨bs, u, rfl, gbs, hu, hbs, s2⟩ := hc
 have hK0 := takes_keeps (M := M) (M' := M) ⟨gbs, fun h => by have := hM _ h; omega, hs.le (by decide) s2.le, hu⟩ (Le.refl _ _)
 replace hs := hs.le (by decide) s2.le
 replace he := he.le s2.le
 replace hu0 := hu0.le (by decide) s2.le
 replace hM := s2.lt hM
 have := S.size
 replace S := S.trans0 s2
 refine Rg.call rfl rfl E71 (colli_spec _ hM E122 (takes_gives hup hls hdl hOk hl1 hl2) takes_keeps hK0 (fun x hx => by obtain ⟨p, hp, rfl, _⟩ := takeZ_in hx; obtain ⟨i, hi⟩ := List.mem_iff_getElem?.1 hp; have := doc_rng hOk.may hi; omega) (by have := takeZ_len (atK s.2.2.1 ls (keyE e.1)) s.2.1 e.2; have := hOk.ln; omega)) (fun r3 w3 hc => ?_)
 obtain ⟨hr3, s3⟩ := hc
 replace hs := hs.le (by decide) s3.le
 replace he := he.le s3.le
 replace hu0 := hu0.le (by decide) s3.le
 replace hM := s3.lt hM
 have := S.size
 replace S := S.trans0 s3
 refine Rg.assign rfl rfl ?_
 refine Rg.nil ?_
 refine T.ret ?_
 exact Kret1 rfl rfl ⟨hr3, S⟩
end Go.K

/- The walks of Go functions, operation by operation. -/
import Derived.Test.YtgpmihcdjmjfoaaKTypes
import Derived.Test.YtgpmihcdjmjfoaaKNum
import Derived.Test.YtgpmihcdjmjfoaaKPost
import Derived.Test.YtgpmihcdjmjfoaaKDraw
import Derived.Test.YtgpmihcdjmjfoaaKRange
import Derived.Test.YtgpmihcdjmjfoaaKVint
import Derived.Test.YtgpmihcdjmjfoaaKPosting
import Derived.Test.YtgpmihcdjmjfoaaKMake
import Derived.Test.YtgpmihcdjmjfoaaProg
import Derived.KernelRfl
namespace Go.K
open Go.Proofs
namespace TKMake2
theorem I23 : TI Try.prog 23 (.slice none 0 0) 1 24 := by unfold TI; kernel_rfl -- []int
theorem I30 : TI Try.prog 30 (.pointer none) 1 8 := by unfold TI; kernel_rfl -- *posting.List
theorem I37 : TI Try.prog 37 (.agg #[(.int .i64 0), (.slice none 0 0)]) 2 32 := by unfold TI; kernel_rfl -- api.Posting
theorem I48 : TI Try.prog 48 (.slice none 0 0) 1 24 := by unfold TI; kernel_rfl -- []uint8
theorem I74 : TI Try.prog 74 (.slice none 0 0) 1 24 := by unfold TI; kernel_rfl -- []posting.block
theorem I76 : TI Try.prog 76 (.agg #[(.slice none 0 0), (.slice none 0 0), (.int .i64 0)]) 3 56 := by unfold TI; kernel_rfl -- posting.List
theorem I81 : TI Try.prog 81 (.agg #[(.int .i64 0), (.int .i64 0), (.int .i64 0), (.int .i64 0)]) 4 32 := by unfold TI; kernel_rfl -- posting.block
theorem B76 : placesOf Try.prog 76 = [(0, 1), (1, 1), (2, 1)].map some := by kernel_rfl
theorem B81 : placesOf Try.prog 81 = [(0, 1), (1, 1), (2, 1), (3, 1)].map some := by kernel_rfl
theorem E28 : Enters Try.prog 28 := enters Try.func28 rfl (by decide) -- concordance/posting.May
theorem E50 : Enters Try.prog 50 := enters Try.func50 rfl (by decide) -- slices.Chunk[[]concordance/api.Posting,concordance/api.Posting]
theorem E52 : Enters Try.prog 52 := enters Try.func52 rfl (by decide) -- concordance/vint.PutRising
theorem E77 : Enters Try.prog 77 := enters Try.func77 rfl (by decide) -- slices.Chunk[[]concordance/api.Posting,concordance/api.Posting]$1
end TKMake2
open TKMake2
set_option linter.unusedVariables false
set_option linter.unusedSimpArgs false
set_option maxRecDepth 10000


/-- what Make holds while it goes: the list's block bx, its pointer's bo, the last document's bl; the loop's blocks D, D + 1; the iterator's boxes -/
structure MkSt (M : PSet) (w0 : World) (v : Value) (bo bx bl D bs bn : Nat) (st : Obj) (vb vk : Value) (tot last : Int) (b : List UInt8) (ks : List Bl) (M1 : PSet) (w : World) : Prop where
  lt : Lt M1 w
  S : Step M w0 M1 w none'
  mo : M1 bo
  mx : M1 bx
  ml : M1 bl
  md : M1 D
  mr : M1 (D + 1)
  o : w.heap[bo]? = some (.cells #[.pointer (some ⟨bx, 0, none⟩)] 30 (0, 0))
  x : w.heap[bx]? = some (.cells #[vb, vk, .int .i64 tot] 76 (0, 0))
  l : w.heap[bl]? = some (.cells #[.int .i64 last] 3 (0, 0))
  d : w.heap[D]? = some (.deferred (some []))
  r : w.heap[D + 1]? = some st
  s : w.heap[bs]? = some (.cells #[v] 28 (0, 0))
  n : w.heap[bn]? = some (.cells #[.int .i64 8] 3 (0, 0))
  ne : bo ≠ bx ∧ bo ≠ bl ∧ bx ≠ bl ∧ bo < D ∧ bx < D ∧ bl < D ∧ bs < D ∧ bn < D ∧ bs ≠ bo ∧ bs ≠ bx ∧ bs ≠ bl ∧ bn ≠ bo ∧ bn ≠ bx ∧ bn ≠ bl ∧ w0.heap.size ≤ bo ∧ w0.heap.size ≤ bx ∧ w0.heap.size ≤ bl ∧ w0.heap.size ≤ D
  hb : (RT.u8.sl).V M1 w b vb
  hk : Own RT.bl 81 M1 w (D + 2) vk ks
section
variable {M M1 M2 : PSet} {w0 w w' : World} {v vb vk : Value} {bo bx bl D bs bn : Nat} {st : Obj} {tot last : Int} {b : List UInt8} {ks : List Bl}
theorem MkSt.step (h : MkSt M w0 v bo bx bl D bs bn st vb vk tot last b ks M1 w) (s : Step M1 w M2 w' none') : MkSt M w0 v bo bx bl D bs bn st vb vk tot last b ks M2 w' :=
  ⟨s.lt h.lt, h.S.trans0 s, (s.mem _ (h.lt _ h.mo)).2 h.mo, (s.mem _ (h.lt _ h.mx)).2 h.mx, (s.mem _ (h.lt _ h.ml)).2 h.ml, (s.mem _ (h.lt _ h.md)).2 h.md, (s.mem _ (h.lt _ h.mr)).2 h.mr,
    s.same0 h.o, s.same0 h.x, s.same0 h.l, s.same0 h.d, s.same0 h.r, s.same0 h.s, s.same0 h.n, h.ne, h.hb.le s.le, h.hk.step0 s⟩
theorem MkSt.setLast {n : Int} (h : MkSt M w0 v bo bx bl D bs bn st vb vk tot last b ks M1 w) (s : Step M1 w M1 w' (fun k => k = bl)) (hl : w'.heap[bl]? = some (.cells #[.int .i64 n] 3 (0, 0))) : MkSt M w0 v bo bx bl D bs bn st vb vk tot n b ks M1 w' := by
  obtain ⟨e1, e2, e3, e4, e5, e6, e7, e8, e9, e10, e11, e12, e13, e14, e15, e16, e17, e18⟩ := h.ne
  exact ⟨s.lt h.lt, h.S.transNew s (fun k hk => by subst hk; exact e17), h.mo, h.mx, h.ml, h.md, h.mr, s.keep h.o e2, s.keep h.x e3, hl, s.keep h.d (by omega), s.keep h.r (by omega), s.keep h.s e11, s.keep h.n e14, h.ne, h.hb.le s.le,
    h.hk.step s (fun k hk hh => by have := (h.hk.base k hk).1; omega)⟩
theorem MkSt.setX {vb' vk' : Value} {tot' : Int} {b' : List UInt8} {ks' : List Bl} (h : MkSt M w0 v bo bx bl D bs bn st vb vk tot last b ks M1 w) (s : Step M1 w M1 w' (fun k => k = bx)) (hx : w'.heap[bx]? = some (.cells #[vb', vk', .int .i64 tot'] 76 (0, 0)))
    (hb : (RT.u8.sl).V M1 w' b' vb') (hk : Own RT.bl 81 M1 w (D + 2) vk' ks') : MkSt M w0 v bo bx bl D bs bn st vb' vk' tot' last b' ks' M1 w' := by
  obtain ⟨e1, e2, e3, e4, e5, e6, e7, e8, e9, e10, e11, e12, e13, e14, e15, e16, e17, e18⟩ := h.ne
  exact ⟨s.lt h.lt, h.S.transNew s (fun k hk => by subst hk; exact e16), h.mo, h.mx, h.ml, h.md, h.mr, s.keep h.o e1, hx, s.keep h.l (Ne.symm e3), s.keep h.d (by omega), s.keep h.r (by omega), s.keep h.s e10, s.keep h.n e13, h.ne, hb,
    hk.step s (fun k hk' hh => by have := (hk.base k hk').1; omega)⟩
theorem MkSt.setR {st' : Obj} (h : MkSt M w0 v bo bx bl D bs bn st vb vk tot last b ks M1 w) (hst : w.heap[D + 1]? = some st) : MkSt M w0 v bo bx bl D bs bn st' vb vk tot last b ks M1 (w.putObj (D + 1) st') := by
  have s : Step M1 w M1 (w.putObj (D + 1) st') (fun k => k = D + 1) := step_putObj h.mr
  obtain ⟨e1, e2, e3, e4, e5, e6, e7, e8, e9, e10, e11, e12, e13, e14, e15, e16, e17, e18⟩ := h.ne
  exact ⟨s.lt h.lt, h.S.transNew s (fun k hk => by subst hk; omega), h.mo, h.mx, h.ml, h.md, h.mr, s.keep h.o (by omega), s.keep h.x (by omega), s.keep h.l (by omega), s.keep h.d (by omega), World.putObj_heap_same (lt_of_get hst), s.keep h.s (by omega), s.keep h.n (by omega), h.ne, h.hb.le s.le,
    h.hk.step s (fun k hk' hh => by have := (h.hk.base k hk').1; omega)⟩
theorem MkSt.other {q : Nat} (h : MkSt M w0 v bo bx bl D bs bn st vb vk tot last b ks M1 w) (s : Step M1 w M1 w' (fun k => k = q)) (hq : D + 1 < q) (hqv : ∀ k, vk.ownBlock = some k → k ≠ q) : MkSt M w0 v bo bx bl D bs bn st vb vk tot last b ks M1 w' := by
  obtain ⟨e1, e2, e3, e4, e5, e6, e7, e8, e9, e10, e11, e12, e13, e14, e15, e16, e17, e18⟩ := h.ne
  exact ⟨s.lt h.lt, h.S.transNew s (fun k hk => by subst hk; omega), h.mo, h.mx, h.ml, h.md, h.mr, s.keep h.o (by omega), s.keep h.x (by omega), s.keep h.l (by omega), s.keep h.d (by omega), s.keep h.r (by omega), s.keep h.s (by omega), s.keep h.n (by omega), h.ne, h.hb.le s.le,
    h.hk.step s (fun k hk' hh => hqv k hk' hh)⟩
/-- the blocks' slice has grown, in its own block or in a new one; its header still stands as it stood -/
theorem MkSt.grow {vk' : Value} {ks' : List Bl} (h : MkSt M w0 v bo bx bl D bs bn st vb vk tot last b ks M1 w) (s : Step M1 w M2 w' (fun k => vk.ownBlock = some k)) (hk : Own RT.bl 81 M2 w' (D + 2) vk' ks') :
    (w'.heap[bx]? = some (.cells #[vb, vk, .int .i64 tot] 76 (0, 0)) ∧ M2 bx ∧ Lt M2 w') ∧ ∀ {w2 : World}, Step M2 w' M2 w2 (fun k => k = bx) → w2.heap[bx]? = some (.cells #[vb, vk', .int .i64 tot] 76 (0, 0)) → MkSt M w0 v bo bx bl D bs bn st vb vk' tot last b ks' M2 w2 := by
  obtain ⟨e1, e2, e3, e4, e5, e6, e7, e8, e9, e10, e11, e12, e13, e14, e15, e16, e17, e18⟩ := h.ne
  have hn : ∀ k, vk.ownBlock = some k → D + 2 ≤ k := fun k hk => (h.hk.base k hk).1
  have hmem := fun {k : Nat} (hm : M1 k) => (s.mem k (h.lt k hm)).2 hm
  refine ⟨⟨s.keep h.x (fun hh => by have := hn _ hh; omega), hmem h.mx, s.lt h.lt⟩, fun {w2} s2 hx => ?_⟩
  have S' := h.S.transNew s (fun k hk => by have := hn k hk; omega)
  exact ⟨s2.lt (s.lt h.lt), S'.transNew s2 (fun k hk => by subst hk; exact e16), hmem h.mo, hmem h.mx, hmem h.ml, hmem h.md, hmem h.mr, s2.keep (s.keep h.o (fun hh => by have := hn _ hh; omega)) e1, hx, s2.keep (s.keep h.l (fun hh => by have := hn _ hh; omega)) (Ne.symm e3),
    s2.keep (s.keep h.d (fun hh => by have := hn _ hh; omega)) (by omega), s2.keep (s.keep h.r (fun hh => by have := hn _ hh; omega)) (by omega), s2.keep (s.keep h.s (fun hh => by have := hn _ hh; omega)) e10, s2.keep (s.keep h.n (fun hh => by have := hn _ hh; omega)) e13, h.ne, (h.hb.le s.le).le s2.le,
    hk.step s2 (fun k hk' hh => by have := (hk.base k hk').1; omega)⟩
end
def MakeJ (M : PSet) (w0 : World) (l : List Po) (v : Value) (bo bx bl D bs bn : Nat) (st : Obj) (i : Nat) (w : World) : Prop :=
  ∃ (M1 : PSet) (vb vk : Value), MkSt M w0 v bo bx bl D bs bn st vb vk (totPo (l.take i)) (lastPo (-1) (l.take i)) (putPo (-1) (l.take i)) (blks l ((i + 7) / 8)) M1 w ∧ (i % 8 = 0 ∨ i = l.length) ∧ i ≤ l.length


theorem makeJ0 {M : PSet} {w0 w2 w3 w5 w6 w7 : World} {v : Value} {l : List Po} {bo bx bl bs bn : Nat} {st : Obj} (S6 : Step M w0 (ins (ins (ins M bx) bo) bl) w6 none') (s7 : Step (ins (ins (ins M bx) bo) bl) w6 (ins (ins (ins M bx) bo) bl) w7 none') (hM : Lt M w0)
    (e1 : bo < w6.heap.size) (e2 : bx < w6.heap.size) (e3 : bl < w6.heap.size) (n1 : bo ≠ bx) (n2 : bo ≠ bl) (n3 : bx ≠ bl)
    (hO : w6.heap[bo]? = some (.cells #[.pointer (some ⟨bx, 0, none⟩)] 30 (0, 0))) (hX : w6.heap[bx]? = some (.cells #[.slice none 0 0, .slice none 0 0, .int .i64 0] 76 (0, 0))) (hL : w6.heap[bl]? = some (.cells #[.int .i64 (-1)] 3 (0, 0)))
    (hS : w7.heap[bs]? = some (.cells #[v] 28 (0, 0))) (hN : w7.heap[bn]? = some (.cells #[.int .i64 8] 3 (0, 0))) (hbs : w6.heap.size ≤ bs) (hbn : w6.heap.size ≤ bn)
    (g1 : w0.heap.size ≤ bo) (g2 : w0.heap.size ≤ bx) (g3 : w0.heap.size ≤ bl) :
    MakeJ M w0 l v bo bx bl w7.heap.size bs bn st 0 ((w7.alloc (.deferred (some []))).alloc st) := by
  have sA : Step (ins (ins (ins M bx) bo) bl) w7 (ins (ins (ins (ins M bx) bo) bl) w7.heap.size) (w7.alloc (.deferred (some []))) none' := (step_alloc _ w7 _).own (Nat.le_refl _) (by simp)
  have sB : Step (ins (ins (ins (ins M bx) bo) bl) w7.heap.size) (w7.alloc (.deferred (some []))) (ins (ins (ins (ins (ins M bx) bo) bl) w7.heap.size) (w7.heap.size + 1)) ((w7.alloc (.deferred (some []))).alloc st) none' := (step_alloc _ _ _).own (by simp) (by simp)
  have z7 := s7.size
  have hs7 := lt_of_get hS
  have hn7 := lt_of_get hN
  have S := ((S6.trans0 s7).trans0 sA).trans0 sB
  have hD : (w7.alloc (.deferred (some []))).heap[w7.heap.size]? = some (.deferred (some [])) := heap_alloc_at w7 _
  have hR : ((w7.alloc (.deferred (some []))).alloc st).heap[w7.heap.size + 1]? = some st := by have := heap_alloc_at (w7.alloc (.deferred (some []))) st; rwa [World.size_alloc] at this
  have z0 := S6.size
  refine ⟨_, .slice none 0 0, .slice none 0 0, ⟨S.lt hM, S, ?_, ?_, ?_, ?_, .inl rfl, sB.same0 (sA.same0 (s7.same0 hO)), sB.same0 (sA.same0 (s7.same0 hX)), sB.same0 (sA.same0 (s7.same0 hL)), sB.same0 hD, hR, sB.same0 (sA.same0 hS), sB.same0 (sA.same0 hN), by omega, V_nil, Own.nil _ _ _ _ _⟩, .inl rfl, Nat.zero_le _⟩
  · exact .inr (.inr (.inr (.inl rfl)))
  · exact .inr (.inr (.inr (.inr (.inl rfl))))
  · exact .inr (.inr (.inl rfl))
  · exact .inr (.inl rfl)

set_option maxHeartbeats 4000000 in
/-- 'concordance/posting.Make' -/
theorem Make_spec {M : PSet} {w0 : World} {v : Value} {l : List Po} (hM : Lt M w0) (hv : ((RT.po).sl).V M w0 l v) (hps : ∀ p ∈ l, p.2.length ≤ 1099511627776) (hbl : (putPo (-1) l).length ≤ 35184372088832) (hll : l.length ≤ 1099511627776) (htot : totPo l ≤ 4611686018427387904) :
    Spec Try.prog 19 #[v] w0 (fun v' w' => Step M w0 M w' none' ∧ (mayPo (-1) l = true → ∃ p, v' = .tuple #[p, .int .i64 0] ∧ PtrTo RT.li M w' p (mkLi l)) ∧ (mayPo (-1) l = false → v' = .tuple #[.pointer none, .int .i64 1])) := by
  have hlen := V_sl_len hv
  refine spec_ofM (args := [v]) (fn := Try.f19) Try.func19 rfl (n := 85) Try.ntmps19 ?_
  refine T.seq ?_
  refine T.region ?_ -- region 0
  refine Rg.assign rfl rfl ?_
  refine Rg.assign rfl rfl ?_
  refine Rg.nil ?_
  refine T.seq ?_
  refine T.seq ?_
  refine T.region ?_ -- region 1
  refine Rg.move rfl rfl ?_
  refine Rg.call rfl rfl E28 (pMay_spec hM hv) (fun r w1 h1 => ?_)
  obtain ⟨rfl, s1⟩ := h1
  refine Rg.not rfl rfl ?_
  refine Rg.eqv (v' := .bool (decide (¬ mayPo (-1) l = true))) (by simp) ?_
  refine Rg.nil ?_
  refine T.ifp rfl (fun c1 => ?_) (fun c1 => ?_)
  · -- c1 True
    refine T.seq ?_
    refine T.region ?_ -- region 2
    refine Rg.assign rfl rfl ?_
    refine Rg.assign rfl rfl ?_
    refine Rg.nil ?_
    refine T.ret ?_
    exact KretM2' rfl rfl rfl ⟨s1, fun h => absurd h c1, fun _ => rfl⟩
  · -- c1 False
    have hmay := Decidable.not_not.1 c1
    refine T.skip ?_
    refine T.seq ?_
    refine T.region ?_ -- region 3
    refine Rg.build (places := [(0, 1), (1, 1), (2, 1)]) Try.underlying76 I76 B76 rfl rfl (out := [.slice none 0 0, .slice none 0 0, .int .i64 0]) rfl ?_
    refine Rg.box M rfl rfl (fun bx w2 hbx hbx' hX s2 => ?_)
    change w2.heap[bx]? = some (.cells #[.slice none 0 0, .slice none 0 0, .int .i64 0] 76 (0, 0)) at hX
    refine Rg.alloc (ins M bx) I30 rfl (fun bo w3 hbo hbo' hO s3 => ?_)
    refine Rg.storec (M := ins (ins M bx) bo) I30 rfl rfl hO rfl rfl (.inl rfl) (fun w4 hO4 s4 => ?_)
    refine Rg.nil ?_
    refine T.seq ?_
    refine T.region ?_ -- region 4
    refine Rg.alloc (ins (ins M bx) bo) I3 rfl (fun bl w5 hbl5 hbl5' hL s5 => ?_)
    refine Rg.storec (M := ins (ins (ins M bx) bo) bl) I3 rfl rfl hL rfl rfl (.inl rfl) (fun w6 hL6 s6 => ?_)
    have z1 := s1.size; have z2 := s2.size; have z3 := s3.size; have z4 := s4.size; have z5 := s5.size; have z6 := s6.size
    have S6 : Step M w0 (ins (ins (ins M bx) bo) bl) w6 none' := ((((s1.trans0 s2).trans0 s3).transNew s4 (fun k hk => by subst hk; omega)).trans0 s5).transNew s6 (fun k hk => by subst hk; omega)
    have hO6 := s6.keep (s5.same0 hO4) (show bo ≠ bl by omega)
    have hX6 := s6.keep (s5.same0 (s4.keep (s3.same0 hX) (show bx ≠ bo by omega))) (show bx ≠ bl by omega)
    refine Rg.nil ?_
    refine T.seq ?_
    refine T.seq ?_
    refine T.region ?_ -- region 5
    refine Rg.move rfl rfl ?_
    refine Rg.call rfl rfl E50 (Chunk_spec (M := ins (ins (ins M bx) bo) bl) (S6.lt hM) (hv.le S6.le)) (fun r w7 h7 => ?_)
    obtain ⟨bs, bn, rfl, hS7, hN7, hbs, hbn, s7⟩ := h7
    have z7 := s7.size
    have hbs' := lt_of_get hS7
    have hbn' := lt_of_get hN7
    refine Rg.nil ?_
    refine T.block ?_
    refine T.range (gf := 77) (lb := [.pointer (some ⟨bs, 0, none⟩), .pointer (some ⟨bn, 0, none⟩)].toArray) rfl E77 (fun rec hrec => ?_)
    obtain ⟨D, hD⟩ : ∃ D, D = w7.heap.size := ⟨_, rfl⟩
    rw [← hD] at hrec ⊢
    have h0 : MakeJ M w0 l v bo bx bl D bs bn (.loop (rec .ready none)) 0 ((w7.alloc (.deferred (some []))).alloc (.loop (rec .ready none))) := by
      rw [hD] at hrec ⊢
      exact makeJ0 (w2 := w7) (w3 := w7) (w5 := w7) S6 s7 hM (by omega) (by omega) (by omega) (by omega) (by omega) (by omega) hO6 hX6 hL6 hS7 hN7 hbs hbn (by omega) (by omega) (by omega)
    refine Spec.mono (Chunk1_spec (M := M) (wv := w0) (J := MakeJ M w0 l v bo bx bl D bs bn (.loop (rec .ready none))) (Jx := fun _ => False) hv (fun i w w' ⟨M1, vb, vk, h, h2⟩ s => ⟨M1, vb, vk, h.step (s.any M1), h2⟩) (fun i w ⟨M1, vb, vk, h, h2⟩ => ⟨h.s, h.n⟩) (fun i wr u hJ hi hu => ?_) h0) (fun _ w3 h3 => ?_)
    · obtain ⟨M1, vb, vk, h, hi8, hil⟩ := hJ
      refine yield_rec (ps := [17]) (vs := [u]) hrec h.r rfl (by decide) ?_
      refine T.region ?_ -- region 6
      refine Rg.assign rfl rfl ?_
      refine Rg.nil ?_
      refine ⟨rfl, h.r, ?_⟩
      have h1 := h.setR (st' := .loop (rec .busy none)) h.r
      generalize wr.putObj (D + 1) _ = wB at h1 ⊢
      have hO := h1.o; have hX := h1.x; have hL := h1.l; have hB := h1.hb; have hlt := h1.lt
      have hown : ((l.drop i).take 8).length ≤ 8 := by rw [List.length_take]; omega
      have howl : ((l.drop i).take 8).length = min 8 (l.length - i) := by rw [List.length_take, List.length_drop]
      obtain ⟨q1, q2, q3, q4, q5, q6, q7, q8, q9, q10, q11, q12, q13, q14, q15, q16, q17, q18⟩ := h1.ne
      refine T.block ?_
      refine T.seq ?_
      apply T.drawL (M := M1) (n := 85) _ mixed [] [Asr.eq _, Asr.eq _, Asr.eq _, Asr.eq _, Asr.eq _, Asr.eq _, Asr.eq _, Asr.eq _, Asr.eq _, Asr.mk' (fun p w' => ∃ bq, p = .pointer (some ⟨bq, 0, none⟩) ∧ wB.heap.size ≤ bq ∧ w'.heap[bq]? = some (.cells #[.int .i64 0, .int .i64 0, .int .i64 0, .int .i64 0] 81 (0, 0))) (fun ⟨bq, h1, h2, h3⟩ s => ⟨bq, h1, h2, s.same0 h3⟩)] -- region 7
      · rfl
      · rfl
      · rfl
      · rfl
      · exact fun p hp => by cases hp
      · exact UOk.none
      · -- its operations
        refine OblsS.cons ?_ ?_
        · intro wD E sD -- 0
          refine Rg.loadc Try.underlying30 rfl rfl rfl (Step.same0 sD (by assumption)) rfl ?_
          exact Rg.nil ⟨rfl, rfl, _, rfl, rfl, Step.refl _ _⟩
        refine OblsS.cons ?_ ?_
        · intro wD E sD -- 1
          intro x_ hx_; have hx_ : x_ = _ := hx_; subst x_
          refine Rg.nilCheck rfl ⟨_, rfl⟩ rfl ?_
          exact Rg.nil ⟨rfl, rfl, _, rfl, rfl, Step.refl _ _⟩
        refine OblsS.cons ?_ ?_
        · intro wD E sD -- 2
          intro x_ hx_; have hx_ : x_ = _ := hx_; subst x_
          refine Rg.fieldc Try.underlying76 rfl rfl I48 (by decide) rfl rfl ?_
          exact Rg.nil ⟨rfl, rfl, _, rfl, rfl, Step.refl _ _⟩
        refine OblsS.cons ?_ ?_
        · intro wD E sD -- 3
          intro x_ hx_; have hx_ : x_ = _ := hx_; subst x_
          refine Rg.loadc Try.underlying48 rfl rfl rfl (Step.same0 sD (by assumption)) rfl ?_
          exact Rg.nil ⟨rfl, rfl, _, rfl, rfl, Step.refl _ _⟩
        refine OblsS.cons ?_ ?_
        · intro wD E sD -- 4
          intro x_ hx_; have hx_ : x_ = _ := hx_; subst x_
          first | refine Rg.lensl Try.underlying48 rfl (by assumption) rfl ?_ | refine Rg.lenown Try.underlying48 rfl (by assumption) rfl ?_
          exact Rg.nil ⟨rfl, rfl, _, rfl, rfl, Step.refl _ _⟩
        refine OblsS.cons ?_ ?_
        · intro wD E sD -- 5
          refine Rg.loadc Try.underlying3 rfl rfl rfl (Step.same0 sD (by assumption)) rfl ?_
          exact Rg.nil ⟨rfl, rfl, _, rfl, rfl, Step.refl _ _⟩
        refine OblsS.cons ?_ ?_
        · intro wD E sD -- 6
          refine Rg.move rfl rfl ?_
          exact Rg.nil ⟨rfl, rfl, _, rfl, rfl, Step.refl _ _⟩
        refine OblsS.cons ?_ ?_
        · intro wD E sD -- 7
          intro x_ hx_; have hx_ : x_ = _ := hx_; subst x_
          first | refine Rg.lensl Try.underlying28 rfl (by assumption) rfl ?_ | refine Rg.lenown Try.underlying28 rfl (by assumption) rfl ?_
          exact Rg.nil ⟨rfl, rfl, _, rfl, rfl, Step.refl _ _⟩
        refine OblsS.cons ?_ ?_
        · intro wD E sD -- 8
          intro x_ hx_; have hx_ : x_ = _ := hx_; subst x_
          intro x_ hx_; have hx_ : x_ = _ := hx_; subst x_
          intro x_ hx_; have hx_ : x_ = _ := hx_; subst x_
          refine Rg.build (places := [(0, 1), (1, 1), (2, 1), (3, 1)]) Try.underlying81 I81 B81 rfl ⟨_, _, rfl, rfl, _, _, rfl, rfl, _, _, rfl, rfl, rfl⟩ (out := [.int .i64 (putPo (-1) (l.take i)).length, .int .i64 (lastPo (-1) (l.take i)), .int .i64 0, .int .i64 ((l.drop i).take 8).length]) ⟨0, [_], rfl, rfl, by simp [Value.cells], 1, [_], rfl, rfl, by simp [Value.cells], 3, [_], rfl, rfl, by simp [Value.cells], rfl⟩ ?_
          exact Rg.nil ⟨rfl, rfl, _, rfl, rfl, Step.refl _ _⟩
        refine OblsS.cons ?_ ?_
        · intro wD E sD -- 9
          refine Rg.alloc M1 I81 rfl (fun bq wq e1 e2 e3 s => ?_)
          exact Rg.nil ⟨rfl, rfl, _, rfl, ⟨bq, rfl, Nat.le_trans sD.size e1, e3⟩, s.back⟩
        exact OblsS.nil
      · -- behind it
        intro wD7 sD7
        intro x_ hx_; have hx_ : x_ = _ := hx_; subst x_
        intro x_ hx_; have hx_ : x_ = _ := hx_; subst x_
        intro x_ hx_; have hx_ : x_ = _ := hx_; subst x_
        intro x_ hx_; have hx_ : x_ = _ := hx_; subst x_
        intro x_ hx_; have hx_ : x_ = _ := hx_; subst x_
        intro x_ hx_; have hx_ : x_ = _ := hx_; subst x_
        intro x_ hx_; have hx_ : x_ = _ := hx_; subst x_
        intro x_ hx_; have hx_ : x_ = _ := hx_; subst x_
        intro x_ hx_; have hx_ : x_ = _ := hx_; subst x_
        intro v7_9 hv7_9
        obtain ⟨bq, rfl, hq1, hq2⟩ := hv7_9
        have hq3 := lt_of_get hq2
        have sQ : Step M1 wB (ins M1 bq) wD7 none' := sD7.own hq1 hq3
        refine Rg.storeaggc (M := ins M1 bq) (vs := [.int .i64 (putPo (-1) (l.take i)).length, .int .i64 (lastPo (-1) (l.take i)), .int .i64 0, .int .i64 ((l.drop i).take 8).length]) I81 rfl rfl (by intro x hx; simp at hx; rcases hx with rfl | rfl | rfl | rfl <;> rfl) rfl rfl hq2 (.inl rfl) (fun wQ hQ sQ2 => ?_)
        refine Rg.nil ⟨rfl, ?_⟩
        have h2 := h1.step (sQ.transNew sQ2 (fun k hk => by subst hk; exact hq1))
        have hqv : ∀ k, vk.ownBlock = some k → k ≠ bq := fun k hk => by have := (h1.hk.base k hk).2; omega
        have hDq : D + 1 < bq := by have := lt_of_get h1.r; omega
        have h3 : MkSt M w0 v bo bx bl D bs bn (.loop (rec .busy none)) vb vk (totPo (l.take (i + 0))) (lastPo (-1) (l.take (i + 0))) (putPo (-1) (l.take (i + 0))) (blks l ((i + 7) / 8)) (ins M1 bq) wQ := h2
        obtain ⟨M2, hM2⟩ : ∃ M2, M2 = ins M1 bq := ⟨_, rfl⟩
        rw [← hM2] at h3
        refine T.seq ?_
        refine T.seq ?_
        refine T.region ?_ -- region 8
        refine Rg.move rfl rfl ?_
        first | refine Rg.lensl Try.underlying28 rfl (by assumption) rfl ?_ | refine Rg.lenown Try.underlying28 rfl (by assumption) rfl ?_
        refine Rg.move rfl rfl ?_
        refine Rg.nil ?_
        refine T.block ?_
        refine T.loop (σ := Nat × Value) (fun s => [(4, .pointer (some ⟨bo, 0, none⟩)), (5, .pointer (some ⟨bl, 0, none⟩)), (6, u), (7, .pointer (some ⟨bq, 0, none⟩)), (27, u), (28, .int .i64 ((l.drop i).take 8).length), (29, .int .i64 s.1)]) (fun s w => s.1 ≤ ((l.drop i).take 8).length ∧ w.heap[bq]? = some (.cells #[.int .i64 (putPo (-1) (l.take i)).length, .int .i64 (lastPo (-1) (l.take i)), .int .i64 0, .int .i64 ((l.drop i).take 8).length] 81 (0, 0)) ∧ MkSt M w0 v bo bx bl D bs bn (.loop (rec .busy none)) s.2 vk (totPo (l.take (i + s.1))) (lastPo (-1) (l.take (i + s.1))) (putPo (-1) (l.take (i + s.1))) (blks l ((i + 7) / 8)) M2 w) (fun s => ((l.drop i).take 8).length - s.1) (0, vb) (.cons rfl (.cons rfl (.cons rfl (.cons rfl (.cons rfl (.cons rfl (.cons rfl .nil))))))) ?_ ?_ -- loop 0
        · exact ⟨Nat.zero_le _, hQ, h3⟩
        · rintro ⟨j, vb⟩ wj ⟨hj, hQ, h4⟩
          dsimp only at hj hQ h4 ⊢
          have hlt := h4.lt
          refine T.seq ?_
          refine T.region ?_ -- region 9
          refine Rg.ilt rfl rfl rfl ?_
          refine Rg.nil ?_
          refine T.seq ?_
          refine T.ifp rfl (fun c9 => ?_) (fun c9 => ?_)
          · -- c9 True
            refine T.skip ?_
            refine T.seq ?_
            refine T.block ?_
            refine T.seq ?_
            refine T.region ?_ -- region 10
            obtain ⟨⟨d, ps⟩, hx⟩ : ∃ x, l[i + j]? = some x := ⟨_, List.getElem?_eq_getElem (by omega)⟩
            obtain ⟨f1, f2, f3, f4, f5, f6⟩ := may_at hmay hx
            obtain ⟨f7, f8⟩ := risesB_iff.1 f4
            have fps := hps _ (List.mem_of_getElem? hx)
            have fb := putPo_take_le l (i + j)
            have ft := totPo_le l (i + j)
            have ft2 := totPo_le l (i + j + 1)
            rw [totPo_take hx] at ft2
            have ftk := putPo_take (-1) hx
            have ftl := putPo_take_le l (i + j + 1)
            simp only at fps
            refine Rg.idx (M := M2) Try.underlying28 I37 rfl rfl rfl (hu.le h4.S.le) (Le.refl _ _) (by omega) (fun u10_0 a10_0 hg10_0 hu10_0 => ?_)
            obtain rfl : (d, ps) = a10_0 := Eq.symm (Option.some.inj (hg10_0.symm.trans (by rw [Int.toNat_natCast, List.getElem?_take, if_pos (by omega), List.getElem?_drop]; exact hx)))
            refine Rg.loadagg (M := M2) (A := RT.po) Try.underlying37 rfl I37 (by decide) rfl rfl rfl (by assumption) (by repeat (first | exact Le.refl _ _ | refine Le.trans (Step.le (by assumption)) ?_)) (fun v10_1 hv10_1 => ?_)
            refine Rg.newagg (A := RT.po) (M := M2) I37 rfl rfl rfl rfl rfl (by assumption) (by repeat (first | exact Le.refl _ _ | refine Le.trans (Step.le (by assumption)) ?_)) (by first | assumption | exact Step.lt (by assumption) (by assumption) | exact Step.lt (by assumption) (Step.lt (by assumption) (by assumption))) (fun u10_2 w10_2 hu10_2 s10_2 z10_2 => ?_)
            refine Rg.nil ?_
            refine T.seq ?_
            have h5 := h4.step s10_2
            have hO := h5.o; have hX := h5.x; have hL := h5.l; have hB := h5.hb; have hlt := h5.lt
            have hp0 := hu10_2
            apply T.drawL (M := M2) (n := 85) _ mixed [] [Asr.eq _, Asr.eq _, Asr.eq _, Asr.eq _, Asr.eq _, Asr.ptr (RT.int .i64) d, Asr.eq (.int .i64 d), Asr.eq _, Asr.eq _, Asr.eq (.int .i64 (((d - lastPo (-1) (l.take (i + j)) - 1).toNat : Nat) : Int)), Asr.V (RT.u8.sl) (putPo (-1) (l.take (i + j)) ++ put (d - lastPo (-1) (l.take (i + j)) - 1).toNat), Asr.eq _, Asr.eq _] -- region 11
            · rfl
            · rfl
            · rfl
            · rfl
            · exact fun p hp => by cases hp
            · exact UOk.none
            · -- its operations
              refine OblsS.cons ?_ ?_
              · intro wD E sD -- 0
                refine Rg.loadc Try.underlying30 rfl rfl rfl (Step.same0 sD (by assumption)) rfl ?_
                exact Rg.nil ⟨rfl, rfl, _, rfl, rfl, Step.refl _ _⟩
              refine OblsS.cons ?_ ?_
              · intro wD E sD -- 1
                refine Rg.loadc Try.underlying30 rfl rfl rfl (Step.same0 sD (by assumption)) rfl ?_
                exact Rg.nil ⟨rfl, rfl, _, rfl, rfl, Step.refl _ _⟩
              refine OblsS.cons ?_ ?_
              · intro wD E sD -- 2
                intro x_ hx_; have hx_ : x_ = _ := hx_; subst x_
                refine Rg.nilCheck rfl ⟨_, rfl⟩ rfl ?_
                exact Rg.nil ⟨rfl, rfl, _, rfl, rfl, Step.refl _ _⟩
              refine OblsS.cons ?_ ?_
              · intro wD E sD -- 3
                intro x_ hx_; have hx_ : x_ = _ := hx_; subst x_
                refine Rg.fieldc Try.underlying76 rfl rfl I48 (by decide) rfl rfl ?_
                exact Rg.nil ⟨rfl, rfl, _, rfl, rfl, Step.refl _ _⟩
              refine OblsS.cons ?_ ?_
              · intro wD E sD -- 4
                intro x_ hx_; have hx_ : x_ = _ := hx_; subst x_
                refine Rg.loadc Try.underlying48 rfl rfl rfl (Step.same0 sD (by assumption)) rfl ?_
                exact Rg.nil ⟨rfl, rfl, _, rfl, rfl, Step.refl _ _⟩
              refine OblsS.cons ?_ ?_
              · intro wD E sD -- 5
                refine Rg.fieldAddr (M := M2) (A := RT.po) (B := RT.int .i64) Try.underlying37 rfl rfl I3 (by decide) (po0) rfl rfl (by decide) (by assumption) (by repeat (first | exact Le.refl _ _ | refine Le.trans (Step.le (by assumption)) ?_)) (fun u11_5 hu11_5 => ?_)
                exact Rg.nil ⟨rfl, rfl, _, rfl, by assumption, Step.refl _ _⟩
              refine OblsS.cons ?_ ?_
              · intro wD E sD -- 6
                intro v5 hv5
                refine Rg.loadi64 (M := M2) Try.underlying3 rfl rfl (by assumption) (by repeat (first | exact Le.refl _ _ | refine Le.trans (Step.le (by assumption)) ?_)) (fun in11_6 => ?_)
                exact Rg.nil ⟨rfl, rfl, _, rfl, rfl, Step.refl _ _⟩
              refine OblsS.cons ?_ ?_
              · intro wD E sD -- 7
                refine Rg.loadc Try.underlying3 rfl rfl rfl (Step.same0 sD (by assumption)) rfl ?_
                exact Rg.nil ⟨rfl, rfl, _, rfl, rfl, Step.refl _ _⟩
              refine OblsS.cons ?_ ?_
              · intro wD E sD -- 8
                intro x_ hx_; have hx_ : x_ = _ := hx_; subst x_
                intro x_ hx_; have hx_ : x_ = _ := hx_; subst x_
                refine Rg.isub rfl rfl rfl (by omega) ?_
                exact Rg.nil ⟨rfl, rfl, _, rfl, rfl, Step.refl _ _⟩
              refine OblsS.cons ?_ ?_
              · intro wD E sD -- 9
                intro x_ hx_; have hx_ : x_ = _ := hx_; subst x_
                refine Rg.isub rfl rfl rfl (by omega) ?_
                refine Rg.eqv (v' := .int .i64 (((d - lastPo (-1) (l.take (i + j)) - 1).toNat : Nat) : Int)) (by congr 1; omega) ?_
                exact Rg.nil ⟨rfl, rfl, _, rfl, rfl, Step.refl _ _⟩
              refine OblsS.cons ?_ ?_
              · intro wD E sD -- 10
                intro x_ hx_; have hx_ : x_ = _ := hx_; subst x_
                intro x_ hx_; have hx_ : x_ = _ := hx_; subst x_
                refine Rg.call rfl rfl E51 (Put_spec (M := M2) (sD.lt hlt) (hB.le sD.le) (by omega) (by omega)) (fun rP wP hP => ?_)
                exact Rg.nil ⟨rfl, rfl, _, rfl, hP.2, hP.1⟩
              refine OblsS.cons ?_ ?_
              · intro wD E sD -- 11
                intro x_ hx_; have hx_ : x_ = _ := hx_; subst x_
                intro x_ hx_; have hx_ : x_ = _ := hx_; subst x_
                intro x_ hx_; have hx_ : x_ = _ := hx_; subst x_
                intro x_ hx_; have hx_ : x_ = _ := hx_; subst x_
                intro x_ hx_; have hx_ : x_ = _ := hx_; subst x_
                intro x_ hx_; have hx_ : x_ = _ := hx_; subst x_
                intro v5 hv5
                intro x_ hx_; have hx_ : x_ = _ := hx_; subst x_
                intro x_ hx_; have hx_ : x_ = _ := hx_; subst x_
                intro x_ hx_; have hx_ : x_ = _ := hx_; subst x_
                intro x_ hx_; have hx_ : x_ = _ := hx_; subst x_
                intro v10 hv10
                refine Rg.nilCheck rfl ⟨_, rfl⟩ rfl ?_
                exact Rg.nil ⟨rfl, rfl, _, rfl, rfl, Step.refl _ _⟩
              refine OblsS.cons ?_ ?_
              · intro wD E sD -- 12
                intro x_ hx_; have hx_ : x_ = _ := hx_; subst x_
                intro x_ hx_; have hx_ : x_ = _ := hx_; subst x_
                intro x_ hx_; have hx_ : x_ = _ := hx_; subst x_
                intro x_ hx_; have hx_ : x_ = _ := hx_; subst x_
                intro x_ hx_; have hx_ : x_ = _ := hx_; subst x_
                intro x_ hx_; have hx_ : x_ = _ := hx_; subst x_
                intro v5 hv5
                intro x_ hx_; have hx_ : x_ = _ := hx_; subst x_
                intro x_ hx_; have hx_ : x_ = _ := hx_; subst x_
                intro x_ hx_; have hx_ : x_ = _ := hx_; subst x_
                intro x_ hx_; have hx_ : x_ = _ := hx_; subst x_
                intro v10 hv10
                refine Rg.fieldc Try.underlying76 rfl rfl I48 (by decide) rfl rfl ?_
                exact Rg.nil ⟨rfl, rfl, _, rfl, rfl, Step.refl _ _⟩
              exact OblsS.nil
            · -- behind it
              intro wD11 sD11
              intro x_ hx_; have hx_ : x_ = _ := hx_; subst x_
              intro x_ hx_; have hx_ : x_ = _ := hx_; subst x_
              intro x_ hx_; have hx_ : x_ = _ := hx_; subst x_
              intro x_ hx_; have hx_ : x_ = _ := hx_; subst x_
              intro x_ hx_; have hx_ : x_ = _ := hx_; subst x_
              intro v11_5 hv11_5
              intro x_ hx_; have hx_ : x_ = _ := hx_; subst x_
              intro x_ hx_; have hx_ : x_ = _ := hx_; subst x_
              intro x_ hx_; have hx_ : x_ = _ := hx_; subst x_
              intro x_ hx_; have hx_ : x_ = _ := hx_; subst x_
              intro v11_10 hv11_10
              intro x_ hx_; have hx_ : x_ = _ := hx_; subst x_
              intro x_ hx_; have hx_ : x_ = _ := hx_; subst x_
              have h6 := h5.step sD11
              have hp6 := hp0.le (by decide) sD11.le
              refine Rg.storec (M := M2) I48 rfl rfl h6.x rfl (V_one hv11_10 rfl rfl) h6.mx (fun w11 hX11 s11 => ?_)
              refine Rg.nil ⟨rfl, ?_⟩
              have h7 := h6.setX s11 hX11 (RT.V.le s11.le hv11_10) h6.hk
              have hp7 := hp6.le (by decide) s11.le
              refine T.seq ?_
              have hO := h7.o; have hX := h7.x; have hB := h7.hb; have hlt := h7.lt
              have fbl : (putPo (-1) (l.take (i + j)) ++ put (d - lastPo (-1) (l.take (i + j)) - 1).toNat).length ≤ 35184372088832 := by rw [ftk] at ftl; simp only [List.length_append] at ftl ⊢; omega
              apply T.drawE (M := M2) mixed [(13, fun k => k = bx)] [Asr.eq _, Asr.eq _, Asr.eq _, Asr.eq _, Asr.eq _, Asr.ptr ((RT.int .i64).sl) ps, Asr.V ((RT.int .i64).sl) ps, ⟨fun t w => ∃ x, t = .tuple #[x, .int .i64 0] ∧ (RT.u8.sl).V M2 w (putPo (-1) (l.take (i + j)) ++ put (d - lastPo (-1) (l.take (i + j)) - 1).toNat ++ putRising ps) x, allB, fun ⟨x, h1, h2⟩ s _ => ⟨x, h1, h2.le s.le⟩⟩, ⟨fun t w => ∃ x, t = .tuple #[x, .int .i64 0] ∧ (RT.u8.sl).V M2 w (putPo (-1) (l.take (i + j)) ++ put (d - lastPo (-1) (l.take (i + j)) - 1).toNat ++ putRising ps) x, allB, fun ⟨x, h1, h2⟩ s _ => ⟨x, h1, h2.le s.le⟩⟩, Asr.V (RT.u8.sl) (putPo (-1) (l.take (i + j)) ++ put (d - lastPo (-1) (l.take (i + j)) - 1).toNat ++ putRising ps), Asr.eq (.int .i64 0), Asr.eq _, Asr.eq _, ⟨fun _ w => ∃ x, w.heap[bx]? = some (.cells #[x, vk, .int .i64 (totPo (l.take (i + j)))] 76 (0, 0)) ∧ (RT.u8.sl).V M2 w (putPo (-1) (l.take (i + j)) ++ put (d - lastPo (-1) (l.take (i + j)) - 1).toNat ++ putRising ps) x, fun k => k ≠ bx, fun ⟨x, h1, h2⟩ s hN => ⟨x, s.keep h1 (fun hb => hN _ hb rfl), h2.le s.le⟩⟩] -- region 12
              · rfl
              · intro p hp b hb
                simp only [List.mem_singleton] at hp
                subst hp
                cases hb
                exact h7.mx
              · exact ⟨fun _ _ _ _ => trivial, ⟨fun _ _ _ _ => trivial, ⟨fun _ _ _ _ => trivial, ⟨fun _ _ _ _ => trivial, ⟨fun _ _ _ _ => trivial, ⟨fun _ _ _ _ => trivial, ⟨fun _ _ _ _ => trivial, ⟨fun _ _ _ _ => trivial, ⟨fun _ _ _ _ => trivial, ⟨fun _ _ _ _ => trivial, ⟨fun _ _ _ _ => trivial, ⟨fun _ _ _ _ => trivial, ⟨fun _ _ _ _ => trivial, ⟨fun p hp => by simp at hp, trivial⟩⟩⟩⟩⟩⟩⟩⟩⟩⟩⟩⟩⟩⟩
              · -- its operations
                refine Obls.cons ?_ ?_
                · intro wD E sD -- 0
                  replace sD : Step M2 _ M2 wD none' := sD
                  refine Rg.loadc Try.underlying30 rfl rfl rfl (Step.same0 sD (by assumption)) rfl ?_
                  exact Rg.nil ⟨rfl, rfl, _, rfl, rfl, Step.refl _ _⟩
                refine Obls.cons ?_ ?_
                · intro wD E sD -- 1
                  replace sD : Step M2 _ M2 wD none' := sD
                  refine Rg.loadc Try.underlying30 rfl rfl rfl (Step.same0 sD (by assumption)) rfl ?_
                  exact Rg.nil ⟨rfl, rfl, _, rfl, rfl, Step.refl _ _⟩
                refine Obls.cons ?_ ?_
                · intro wD E sD -- 2
                  replace sD : Step M2 _ M2 wD none' := sD
                  intro x_ hx_; have hx_ : x_ = _ := hx_; subst x_
                  refine Rg.nilCheck rfl ⟨_, rfl⟩ rfl ?_
                  exact Rg.nil ⟨rfl, rfl, _, rfl, rfl, Step.refl _ _⟩
                refine Obls.cons ?_ ?_
                · intro wD E sD -- 3
                  replace sD : Step M2 _ M2 wD none' := sD
                  intro x_ hx_; have hx_ : x_ = _ := hx_; subst x_
                  refine Rg.fieldc Try.underlying76 rfl rfl I48 (by decide) rfl rfl ?_
                  exact Rg.nil ⟨rfl, rfl, _, rfl, rfl, Step.refl _ _⟩
                refine Obls.cons ?_ ?_
                · intro wD E sD -- 4
                  replace sD : Step M2 _ M2 wD none' := sD
                  intro x_ hx_; have hx_ : x_ = _ := hx_; subst x_
                  refine Rg.loadc Try.underlying48 rfl rfl rfl (Step.same0 sD (by assumption)) rfl ?_
                  exact Rg.nil ⟨rfl, rfl, _, rfl, rfl, Step.refl _ _⟩
                refine Obls.cons ?_ ?_
                · intro wD E sD -- 5
                  replace sD : Step M2 _ M2 wD none' := sD
                  refine Rg.fieldAddr (M := M2) (A := RT.po) (B := (RT.int .i64).sl) Try.underlying37 rfl rfl I23 (by decide) po1 rfl rfl (by decide) hp7 sD.le (fun uf huf => ?_)
                  exact Rg.nil ⟨rfl, rfl, _, rfl, huf, Step.refl _ _⟩
                refine Obls.cons ?_ ?_
                · intro wD E sD -- 6
                  replace sD : Step M2 _ M2 wD none' := sD
                  intro v5 hv5
                  refine Rg.load (M := M2) Try.underlying23 rfl rfl rfl rfl rfl (show PtrTo ((RT.int .i64).sl) M2 wD v5 ps from hv5) (Le.refl _ _) (fun uf huf => ?_)
                  exact Rg.nil ⟨rfl, rfl, _, rfl, huf, Step.refl _ _⟩
                refine Obls.cons ?_ ?_
                · intro wD E sD -- 7
                  replace sD : Step M2 _ M2 wD none' := sD
                  intro x_ hx_; have hx_ : x_ = _ := hx_; subst x_
                  intro v6 hv6
                  refine Rg.call rfl rfl E52 (PutRising_spec (M := M2) (sD.lt hlt) (hB.le sD.le) (show ((RT.int .i64).sl).V M2 wD ps v6 from hv6) (by omega)) (fun rP wP hP => ?_)
                  obtain ⟨xP, sP, hP1, hP2⟩ := hP
                  rw [if_pos f7] at hP1 hP2
                  exact Rg.nil ⟨rfl, rfl, _, rfl, ⟨xP, hP1, hP2⟩, sP⟩
                refine Obls.cons ?_ ?_
                · intro wD E sD -- 8
                  replace sD : Step M2 _ M2 wD none' := sD
                  intro v7 hv7
                  refine Rg.move rfl rfl ?_
                  exact Rg.nil ⟨rfl, rfl, _, rfl, hv7, Step.refl _ _⟩
                refine Obls.cons ?_ ?_
                · intro wD E sD -- 9
                  replace sD : Step M2 _ M2 wD none' := sD
                  intro v8 hv8
                  obtain ⟨xP, rfl, hP2⟩ := hv8
                  refine Rg.extract rfl rfl rfl ?_
                  exact Rg.nil ⟨rfl, rfl, _, rfl, hP2, Step.refl _ _⟩
                refine Obls.cons ?_ ?_
                · intro wD E sD -- 10
                  replace sD : Step M2 _ M2 wD (fun k => k = bx) := sD
                  intro v8 hv8
                  obtain ⟨xP, rfl, hP2⟩ := hv8
                  refine Rg.extract rfl rfl rfl ?_
                  exact Rg.nil ⟨rfl, rfl, _, rfl, rfl, Step.refl _ _⟩
                refine Obls.cons ?_ ?_
                · intro wD E sD -- 11
                  replace sD : Step M2 _ M2 wD (fun k => k = bx) := sD
                  intro x_ hx_; have hx_ : x_ = _ := hx_; subst x_
                  intro x_ hx_; have hx_ : x_ = _ := hx_; subst x_
                  intro x_ hx_; have hx_ : x_ = _ := hx_; subst x_
                  intro x_ hx_; have hx_ : x_ = _ := hx_; subst x_
                  intro x_ hx_; have hx_ : x_ = _ := hx_; subst x_
                  intro x_ hx_; have hx_ : x_ = _ := hx_; subst x_
                  intro v5 hv5
                  intro v6 hv6
                  intro v7 hv7
                  intro v8 hv8
                  intro v9 hv9
                  refine Rg.nilCheck rfl ⟨_, rfl⟩ rfl ?_
                  exact Rg.nil ⟨rfl, rfl, _, rfl, rfl, Step.refl _ _⟩
                refine Obls.cons ?_ ?_
                · intro wD E sD -- 12
                  replace sD : Step M2 _ M2 wD none' := sD
                  intro x_ hx_; have hx_ : x_ = _ := hx_; subst x_
                  intro x_ hx_; have hx_ : x_ = _ := hx_; subst x_
                  intro x_ hx_; have hx_ : x_ = _ := hx_; subst x_
                  intro x_ hx_; have hx_ : x_ = _ := hx_; subst x_
                  intro x_ hx_; have hx_ : x_ = _ := hx_; subst x_
                  intro x_ hx_; have hx_ : x_ = _ := hx_; subst x_
                  intro v5 hv5
                  intro v6 hv6
                  intro v7 hv7
                  intro v8 hv8
                  intro v9 hv9
                  refine Rg.fieldc Try.underlying76 rfl rfl I48 (by decide) rfl rfl ?_
                  exact Rg.nil ⟨rfl, rfl, _, rfl, rfl, Step.refl _ _⟩
                refine Obls.cons ?_ ?_
                · intro wD E sD -- 13
                  replace sD : Step M2 _ M2 wD none' := sD
                  intro x_ hx_; have hx_ : x_ = _ := hx_; subst x_
                  intro v9 hv9
                  intro v7 hv7
                  intro x_ hx_; have hx_ : x_ = _ := hx_; subst x_
                  intro x_ hx_; have hx_ : x_ = _ := hx_; subst x_
                  intro x_ hx_; have hx_ : x_ = _ := hx_; subst x_
                  intro x_ hx_; have hx_ : x_ = _ := hx_; subst x_
                  intro x_ hx_; have hx_ : x_ = _ := hx_; subst x_
                  intro v5 hv5
                  intro v6 hv6
                  intro v7 hv7
                  intro v8 hv8
                  intro v9 hv9
                  refine Rg.storec (M := M2) I48 rfl rfl (Step.same0 sD hX) rfl (V_one (A := RT.u8.sl) hv9 rfl rfl) h7.mx (fun wS hXS sS => ?_)
                  exact Rg.nil ⟨rfl, rfl, undef, rfl, ⟨_, hXS, RT.V.le (A := RT.u8.sl) sS.le hv9⟩, sS⟩
                exact Obls.nil
              · -- behind it
                intro wD12 sD12
                replace sD12 : Step M2 _ M2 wD12 (fun k => k = bx) := sD12
                intro x_ hx_; have hx_ : x_ = _ := hx_; subst x_
                intro x_ hx_; have hx_ : x_ = _ := hx_; subst x_
                intro x_ hx_; have hx_ : x_ = _ := hx_; subst x_
                intro x_ hx_; have hx_ : x_ = _ := hx_; subst x_
                intro x_ hx_; have hx_ : x_ = _ := hx_; subst x_
                intro v12_5 hv12_5
                intro v12_6 hv12_6
                intro v12_7 hv12_7
                intro v12_8 hv12_8
                intro v12_9 hv12_9
                intro x_ hx_; have hx_ : x_ = _ := hx_; subst x_
                intro x_ hx_; have hx_ : x_ = _ := hx_; subst x_
                intro x_ hx_; have hx_ : x_ = _ := hx_; subst x_
                intro v12_13 hv12_13
                obtain ⟨v12, hX12, hB12⟩ := hv12_13
                have h8 := h7.setX sD12 hX12 hB12 h7.hk
                have hp8 := hp7.le (by decide) sD12.le
                refine T.seq ?_
                have hO := h8.o; have hX := h8.x
                apply T.drawL (M := M2) (n := 85) _ mixed [] [Asr.eq _, Asr.eq _, Asr.eq _, Asr.eq _, Asr.ptr ((RT.int .i64).sl) ps, Asr.V ((RT.int .i64).sl) ps, Asr.eq (.int .i64 ps.length), Asr.eq _, Asr.eq _, Asr.eq _] -- region 13
                · rfl
                · rfl
                · rfl
                · rfl
                · exact fun p hp => by cases hp
                · exact UOk.none
                · -- its operations
                  refine OblsS.cons ?_ ?_
                  · intro wD E sD -- 0
                    refine Rg.loadc Try.underlying30 rfl rfl rfl (Step.same0 sD (by assumption)) rfl ?_
                    exact Rg.nil ⟨rfl, rfl, _, rfl, rfl, Step.refl _ _⟩
                  refine OblsS.cons ?_ ?_
                  · intro wD E sD -- 1
                    intro x_ hx_; have hx_ : x_ = _ := hx_; subst x_
                    refine Rg.nilCheck rfl ⟨_, rfl⟩ rfl ?_
                    exact Rg.nil ⟨rfl, rfl, _, rfl, rfl, Step.refl _ _⟩
                  refine OblsS.cons ?_ ?_
                  · intro wD E sD -- 2
                    intro x_ hx_; have hx_ : x_ = _ := hx_; subst x_
                    refine Rg.fieldc Try.underlying76 rfl rfl I3 (by decide) rfl rfl ?_
                    exact Rg.nil ⟨rfl, rfl, _, rfl, rfl, Step.refl _ _⟩
                  refine OblsS.cons ?_ ?_
                  · intro wD E sD -- 3
                    intro x_ hx_; have hx_ : x_ = _ := hx_; subst x_
                    refine Rg.loadc Try.underlying3 rfl rfl rfl (Step.same0 sD (by assumption)) rfl ?_
                    exact Rg.nil ⟨rfl, rfl, _, rfl, rfl, Step.refl _ _⟩
                  refine OblsS.cons ?_ ?_
                  · intro wD E sD -- 4
                    refine Rg.fieldAddr (M := M2) (A := RT.po) (B := (RT.int .i64).sl) Try.underlying37 rfl rfl I23 (by decide) po1 rfl rfl (by decide) hp8 sD.le (fun uf huf => ?_)
                    exact Rg.nil ⟨rfl, rfl, _, rfl, huf, Step.refl _ _⟩
                  refine OblsS.cons ?_ ?_
                  · intro wD E sD -- 5
                    intro v4 hv4
                    refine Rg.load (M := M2) Try.underlying23 rfl rfl rfl rfl rfl (show PtrTo ((RT.int .i64).sl) M2 wD v4 ps from hv4) (Le.refl _ _) (fun uf huf => ?_)
                    exact Rg.nil ⟨rfl, rfl, _, rfl, huf, Step.refl _ _⟩
                  refine OblsS.cons ?_ ?_
                  · intro wD E sD -- 6
                    intro v5 hv5
                    refine Rg.lensl Try.underlying23 rfl (show ((RT.int .i64).sl).V M2 wD ps v5 from hv5) rfl ?_
                    exact Rg.nil ⟨rfl, rfl, _, rfl, rfl, Step.refl _ _⟩
                  refine OblsS.cons ?_ ?_
                  · intro wD E sD -- 7
                    intro x_ hx_; have hx_ : x_ = _ := hx_; subst x_
                    intro x_ hx_; have hx_ : x_ = _ := hx_; subst x_
                    refine Rg.iadd rfl rfl rfl (by omega) ?_
                    exact Rg.nil ⟨rfl, rfl, _, rfl, rfl, Step.refl _ _⟩
                  refine OblsS.cons ?_ ?_
                  · intro wD E sD -- 8
                    intro x_ hx_; have hx_ : x_ = _ := hx_; subst x_
                    intro x_ hx_; have hx_ : x_ = _ := hx_; subst x_
                    intro x_ hx_; have hx_ : x_ = _ := hx_; subst x_
                    intro x_ hx_; have hx_ : x_ = _ := hx_; subst x_
                    intro x_ hx_; have hx_ : x_ = _ := hx_; subst x_
                    intro v4 hv4
                    intro v5 hv5
                    intro x_ hx_; have hx_ : x_ = _ := hx_; subst x_
                    intro x_ hx_; have hx_ : x_ = _ := hx_; subst x_
                    refine Rg.nilCheck rfl ⟨_, rfl⟩ rfl ?_
                    exact Rg.nil ⟨rfl, rfl, _, rfl, rfl, Step.refl _ _⟩
                  refine OblsS.cons ?_ ?_
                  · intro wD E sD -- 9
                    intro x_ hx_; have hx_ : x_ = _ := hx_; subst x_
                    intro x_ hx_; have hx_ : x_ = _ := hx_; subst x_
                    intro x_ hx_; have hx_ : x_ = _ := hx_; subst x_
                    intro x_ hx_; have hx_ : x_ = _ := hx_; subst x_
                    intro x_ hx_; have hx_ : x_ = _ := hx_; subst x_
                    intro v4 hv4
                    intro v5 hv5
                    intro x_ hx_; have hx_ : x_ = _ := hx_; subst x_
                    intro x_ hx_; have hx_ : x_ = _ := hx_; subst x_
                    refine Rg.fieldc Try.underlying76 rfl rfl I3 (by decide) rfl rfl ?_
                    exact Rg.nil ⟨rfl, rfl, _, rfl, rfl, Step.refl _ _⟩
                  exact OblsS.nil
                · -- behind it
                  intro wD13 sD13
                  intro x_ hx_; have hx_ : x_ = _ := hx_; subst x_
                  intro x_ hx_; have hx_ : x_ = _ := hx_; subst x_
                  intro x_ hx_; have hx_ : x_ = _ := hx_; subst x_
                  intro x_ hx_; have hx_ : x_ = _ := hx_; subst x_
                  intro v13_4 hv13_4
                  intro v13_5 hv13_5
                  intro x_ hx_; have hx_ : x_ = _ := hx_; subst x_
                  intro x_ hx_; have hx_ : x_ = _ := hx_; subst x_
                  intro x_ hx_; have hx_ : x_ = _ := hx_; subst x_
                  intro x_ hx_; have hx_ : x_ = _ := hx_; subst x_
                  have h9 := h8.step sD13
                  refine Rg.storec (M := M2) I3 rfl rfl h9.x rfl rfl h9.mx (fun w13 hX13 s13 => ?_)
                  refine Rg.nil ⟨rfl, ?_⟩
                  have h10 := h9.setX s13 hX13 (h9.hb.le s13.le) h9.hk
                  have hp13 := (hp8.le (by decide) sD13.le).le (by decide) s13.le
                  refine T.region ?_ -- region 14
                  refine Rg.fieldAddr (M := M2) (A := RT.po) (B := RT.int .i64) Try.underlying37 rfl rfl I3 (by decide) po0 rfl rfl (by decide) hp13 (Le.refl _ _) (fun u14_0 hu14_0 => ?_)
                  refine Rg.loadi64 (M := M2) Try.underlying3 rfl rfl hu14_0 (Le.refl _ _) (fun _ => ?_)
                  refine Rg.eqv (v' := .int .i64 d) rfl ?_
                  refine Rg.storec (M := M2) I3 rfl rfl h10.l rfl rfl h10.ml (fun w14 hL14 s14 => ?_)
                  have h11 := h10.setLast s14 hL14
                  refine Rg.nil ?_
                  refine T.region ?_ -- region 15
                  refine Rg.iadd rfl rfl rfl (by omega) ?_
                  refine Rg.move rfl rfl ?_
                  refine Rg.nil ?_
                  refine ⟨rfl, (j + 1, v12), (.cons rfl (.cons rfl (.cons rfl (.cons rfl (.cons rfl (.cons rfl (.cons rfl .nil))))))), ?_, ?_⟩
                  · refine ⟨by simp only; omega, ?_, ?_⟩
                    · exact s14.keep (s13.keep (sD13.same0 (sD12.keep (s11.keep (sD11.same0 (s10_2.same0 hQ)) (by omega)) (by omega))) (by omega)) (by omega)
                    · simp only
                      rw [show i + (j + 1) = i + j + 1 from by omega, totPo_take hx, f5, ftk]
                      exact h11
                  · simp only; omega
          · -- c9 False
            refine T.exit ?_
            refine T.seq ?_
            refine T.region ?_ -- region 16
            obtain rfl : j = ((l.drop i).take 8).length := by omega
            have hbq : M2 bq := by rw [hM2]; exact .inl rfl
            refine Rg.loadc Try.underlying3 rfl rfl rfl h4.l rfl ?_
            refine Rg.fieldc (o' := 2) Try.underlying81 rfl rfl I3 (by decide) rfl rfl ?_
            refine Rg.storec (M := M2) I3 rfl rfl hQ rfl rfl hbq (fun w16 hQ16 s16 => ?_)
            have h16 := h4.other s16 hDq hqv
            change w16.heap[bq]? = some (.cells [.int .i64 (putPo (-1) (l.take i)).length, .int .i64 (lastPo (-1) (l.take i)), .int .i64 (lastPo (-1) (l.take (i + ((l.drop i).take 8).length))), .int .i64 ((l.drop i).take 8).length].toArray 81 (0, 0)) at hQ16
            refine Rg.nil ?_
            have hO := h16.o; have hX := h16.x; have hk16 := h16.hk
            have hvo : ∀ k, vk.ownBlock = some k → k ≠ bo := fun k hk => by have := (hk16.base k hk).1; omega
            have hr16 := lt_of_get h16.r
            have g1 := lastPo_rng l (-1) hmay (by omega) i
            have g2 := lastPo_rng l (-1) hmay (by omega) (i + ((l.drop i).take 8).length)
            have g3 := putPo_take_le l i
            apply T.drawL (M := M2) (n := 85) _ mixed [(7, fun k => vk.ownBlock = some k)] [Asr.eq _, Asr.eq _, Asr.eq _, Asr.eq _, Asr.eq _, Asr.eq (.agg [.int .i64 (putPo (-1) (l.take i)).length, .int .i64 (lastPo (-1) (l.take i)), .int .i64 (lastPo (-1) (l.take (i + ((l.drop i).take 8).length))), .int .i64 ((l.drop i).take 8).length].toArray), Asr.V ((RT.bl).sl) [(((putPo (-1) (l.take i)).length : Int), lastPo (-1) (l.take i), lastPo (-1) (l.take (i + ((l.drop i).take 8).length)), (((l.drop i).take 8).length : Int))], ⟨fun t w => ∃ M3, Own RT.bl 81 M3 w (D + 2) t (blks l ((i + 7) / 8) ++ [(((putPo (-1) (l.take i)).length : Int), lastPo (-1) (l.take i), lastPo (-1) (l.take (i + ((l.drop i).take 8).length)), (((l.drop i).take 8).length : Int))]) ∧ Step M2 w16 M3 w (fun k => vk.ownBlock = some k), none', fun ⟨M3, h1, h2⟩ s hN => ⟨M3, h1.step0 ((s.widen hN (fun _ h => h.elim)).any M3), h2.trans0 ((s.widen hN (fun _ h => h.elim)).any M3)⟩⟩, Asr.eq _, Asr.eq _] -- region 17
            · rfl
            · rfl
            · rfl
            · rfl
            · intro p hp b hb
              simp only [List.mem_singleton] at hp
              subst hp
              exact hk16.mut_ b hb
            · exact ⟨fun _ _ _ _ => trivial, ⟨fun _ _ _ _ => trivial, ⟨fun _ _ _ _ => trivial, ⟨fun _ _ _ _ => trivial, ⟨fun _ _ _ _ => trivial, ⟨fun _ _ _ _ => trivial, ⟨fun _ _ _ _ => trivial, ⟨fun p hp => by simp at hp, ⟨fun _ _ _ _ => trivial, ⟨fun _ _ _ _ => trivial, trivial⟩⟩⟩⟩⟩⟩⟩⟩⟩⟩
            · -- its operations
              refine OblsS.cons ?_ ?_
              · intro wD E sD -- 0
                replace sD : Step M2 _ M2 wD (fun k => vk.ownBlock = some k) := sD
                refine Rg.loadc Try.underlying30 rfl rfl rfl (sD.keep hO (fun hb => hvo _ hb rfl)) rfl ?_
                exact Rg.nil ⟨rfl, rfl, _, rfl, rfl, Step.refl _ _⟩
              refine OblsS.cons ?_ ?_
              · intro wD E sD -- 1
                replace sD : Step M2 _ M2 wD (fun k => vk.ownBlock = some k) := sD
                refine Rg.loadc Try.underlying30 rfl rfl rfl (sD.keep hO (fun hb => hvo _ hb rfl)) rfl ?_
                exact Rg.nil ⟨rfl, rfl, _, rfl, rfl, Step.refl _ _⟩
              refine OblsS.cons ?_ ?_
              · intro wD E sD -- 2
                replace sD : Step M2 _ M2 wD (fun k => vk.ownBlock = some k) := sD
                intro x_ hx_; have hx_ : x_ = _ := hx_; subst x_
                refine Rg.nilCheck rfl ⟨_, rfl⟩ rfl ?_
                exact Rg.nil ⟨rfl, rfl, _, rfl, rfl, Step.refl _ _⟩
              refine OblsS.cons ?_ ?_
              · intro wD E sD -- 3
                replace sD : Step M2 _ M2 wD (fun k => vk.ownBlock = some k) := sD
                intro x_ hx_; have hx_ : x_ = _ := hx_; subst x_
                refine Rg.fieldc Try.underlying76 rfl rfl I74 (by decide) rfl rfl ?_
                exact Rg.nil ⟨rfl, rfl, _, rfl, rfl, Step.refl _ _⟩
              refine OblsS.cons ?_ ?_
              · intro wD E sD -- 4
                replace sD : Step M2 _ M2 wD none' := sD
                intro x_ hx_; have hx_ : x_ = _ := hx_; subst x_
                refine Rg.loadc Try.underlying74 rfl rfl rfl (Step.same0 sD (by assumption)) rfl ?_
                exact Rg.nil ⟨rfl, rfl, _, rfl, rfl, Step.refl _ _⟩
              refine OblsS.cons ?_ ?_
              · intro wD E sD -- 5
                replace sD : Step M2 _ M2 wD (fun k => vk.ownBlock = some k) := sD
                refine Rg.loadaggc (vs := [.int .i64 (putPo (-1) (l.take i)).length, .int .i64 (lastPo (-1) (l.take i)), .int .i64 (lastPo (-1) (l.take (i + ((l.drop i).take 8).length))), .int .i64 ((l.drop i).take 8).length]) Try.underlying81 rfl I81 rfl rfl rfl (sD.keep hQ16 (fun hb => hqv _ hb rfl)) ?_
                exact Rg.nil ⟨rfl, rfl, _, rfl, rfl, Step.refl _ _⟩
              refine OblsS.cons ?_ ?_
              · intro wD E sD -- 6
                replace sD : Step M2 _ M2 wD none' := sD
                intro x_ hx_; have hx_ : x_ = _ := hx_; subst x_
                refine Rg.sl1 (A := RT.bl) (hn := by decide) (M := M2) Try.underlying74 I81 (by decide) rfl rfl (sD.lt h16.lt) (V_bl (by omega) (by omega) (by omega) (by omega)) (.inl rfl) (fun uS wS hS sS => ?_)
                exact Rg.nil ⟨rfl, rfl, _, rfl, hS, sS⟩
              refine OblsS.cons ?_ ?_
              · intro wD E sD -- 7
                replace sD : Step M2 _ M2 wD none' := sD
                intro x_ hx_; have hx_ : x_ = _ := hx_; subst x_
                intro v6 hv6
                refine Rg.append (M := M2) (base := D + 2) Try.underlying74 I81 rfl rfl rfl rfl (hk16.step0 sD) (show ((RT.bl).sl).V M2 wD [(((putPo (-1) (l.take i)).length : Int), lastPo (-1) (l.take i), lastPo (-1) (l.take (i + ((l.drop i).take 8).length)), (((l.drop i).take 8).length : Int))] v6 from hv6) (Le.refl _ _) (by simp [blks]; omega) (by simp [blks]; omega) (by have := sD.size; omega) (fun v3 M3 w3 ho3 s3 => ?_)
                exact Rg.nil ⟨rfl, rfl, _, rfl, ⟨M3, ho3, (sD.widen (fun _ h => h.elim) hk16.mut_).trans s3 (fun b _ hb => hb)⟩, s3.back⟩
              refine OblsS.cons ?_ ?_
              · intro wD E sD -- 8
                replace sD : Step M2 _ M2 wD (fun k => vk.ownBlock = some k) := sD
                intro x_ hx_; have hx_ : x_ = _ := hx_; subst x_
                intro x_ hx_; have hx_ : x_ = _ := hx_; subst x_
                intro x_ hx_; have hx_ : x_ = _ := hx_; subst x_
                intro x_ hx_; have hx_ : x_ = _ := hx_; subst x_
                intro x_ hx_; have hx_ : x_ = _ := hx_; subst x_
                intro x_ hx_; have hx_ : x_ = _ := hx_; subst x_
                intro x_ hx_; have hx_ : x_ = _ := hx_; subst x_
                intro v6 hv6
                intro v7 hv7
                refine Rg.nilCheck rfl ⟨_, rfl⟩ rfl ?_
                exact Rg.nil ⟨rfl, rfl, _, rfl, rfl, Step.refl _ _⟩
              refine OblsS.cons ?_ ?_
              · intro wD E sD -- 9
                replace sD : Step M2 _ M2 wD (fun k => vk.ownBlock = some k) := sD
                intro x_ hx_; have hx_ : x_ = _ := hx_; subst x_
                intro x_ hx_; have hx_ : x_ = _ := hx_; subst x_
                intro x_ hx_; have hx_ : x_ = _ := hx_; subst x_
                intro x_ hx_; have hx_ : x_ = _ := hx_; subst x_
                intro x_ hx_; have hx_ : x_ = _ := hx_; subst x_
                intro x_ hx_; have hx_ : x_ = _ := hx_; subst x_
                intro x_ hx_; have hx_ : x_ = _ := hx_; subst x_
                intro v6 hv6
                intro v7 hv7
                refine Rg.fieldc Try.underlying76 rfl rfl I74 (by decide) rfl rfl ?_
                exact Rg.nil ⟨rfl, rfl, _, rfl, rfl, Step.refl _ _⟩
              exact OblsS.nil
            · -- behind it
              intro wD17 sD17
              replace sD17 : Step M2 _ M2 wD17 (fun k => vk.ownBlock = some k) := sD17
              intro x_ hx_; have hx_ : x_ = _ := hx_; subst x_
              intro x_ hx_; have hx_ : x_ = _ := hx_; subst x_
              intro x_ hx_; have hx_ : x_ = _ := hx_; subst x_
              intro x_ hx_; have hx_ : x_ = _ := hx_; subst x_
              intro x_ hx_; have hx_ : x_ = _ := hx_; subst x_
              intro x_ hx_; have hx_ : x_ = _ := hx_; subst x_
              intro v17_6 hv17_6
              intro v17_7 hv17_7
              intro x_ hx_; have hx_ : x_ = _ := hx_; subst x_
              intro x_ hx_; have hx_ : x_ = _ := hx_; subst x_
              obtain ⟨M3, ho3, sR⟩ := hv17_7
              obtain ⟨⟨hx3, hm3, hlt3⟩, hgo⟩ := h16.grow sR ho3
              refine Rg.storec (M := M3) I74 rfl rfl hx3 rfl (by obtain ⟨_, _, he, _⟩ := ho3.isSlice; rw [he]; rfl) hm3 (fun w17 hX17 s17 => ?_)
              refine Rg.nil ⟨rfl, ?_⟩
              have h17 := hgo s17 hX17
              have h18 := h17.setR (st' := .loop (rec .ready none)) h17.r
              have hE : i + ((l.drop i).take 8).length = min (i + 8) l.length := by omega
              rw [hE, blk_next (by omega) hi] at h18
              exact ⟨h17.r, true, rfl, fun _ => ⟨M3, _, _, h18, by omega, by omega⟩, fun h => by cases h⟩
    · obtain ⟨Mz, vb, vk, h, _, _⟩ := h3.resolve_right (fun h => h)
      left
      rw [List.take_length] at h
      have h5 := h.setR (st' := .loop (rec .exhausted none)) h.r
      refine ⟨h.r, ?_⟩
      generalize w3.putObj (D + 1) _ = wE at h5 ⊢
      refine T.seq ?_
      refine T.region ?_ -- region 18
      refine Rg.loadc Try.underlying30 rfl rfl rfl h5.o rfl ?_
      refine Rg.assign rfl rfl ?_
      refine Rg.assign rfl rfl ?_
      refine Rg.nil ?_
      refine T.ret ?_
      obtain ⟨q1, q2, q3, q4, q5, q6, q7, q8, q9, q10, q11, q12, q13, q14, q15, q16, q17, q18⟩ := h5.ne
      have sZ : Step Mz wE Mz (wE.putObj D (.deferred none)) (fun k => k = D) := step_putObj h5.md
      have SZ := h5.S.transNew sZ (fun k hk => by subst hk; omega)
      have ht := totPo_nonneg l
      refine KretM2 rfl rfl rfl h5.d ⟨SZ.back, fun _ => ⟨_, rfl, ?_⟩, fun hf => by rw [hmay] at hf; cases hf⟩
      exact li_mk (sZ.keep h5.x (by omega)) (fun hh => by have := hM _ hh; omega) ((h5.hb.le sZ.le).le (Le.close hM SZ)) (Own.close hM SZ ((h5.hk.step sZ (fun k hk hh => by have := (h5.hk.base k hk).1; omega)).rebase (by omega)) (by simp [blks]; omega)) (by omega)

end Go.K

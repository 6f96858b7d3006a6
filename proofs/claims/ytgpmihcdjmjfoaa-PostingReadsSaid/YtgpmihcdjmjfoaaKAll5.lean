/- The walks of Go functions, operation by operation. -/
import Derived.Test.YtgpmihcdjmjfoaaKTypes
import Derived.Test.YtgpmihcdjmjfoaaKNum
import Derived.Test.YtgpmihcdjmjfoaaKPost
import Derived.Test.YtgpmihcdjmjfoaaKDraw
import Derived.Test.YtgpmihcdjmjfoaaKRange
import Derived.Test.YtgpmihcdjmjfoaaKRef05
import Derived.Test.YtgpmihcdjmjfoaaKPosting
import Derived.Test.YtgpmihcdjmjfoaaProg
import Derived.KernelRfl
namespace Go.K
open Go.Proofs
namespace TKAll5
theorem I28 : TI Try.prog 28 (.slice none 0 0) 1 24 := by unfold TI; kernel_rfl -- []api.Posting
theorem I37 : TI Try.prog 37 (.agg #[(.int .i64 0), (.slice none 0 0)]) 2 32 := by unfold TI; kernel_rfl -- api.Posting
theorem E81 : Enters Try.prog 81 := enters Try.func81 rfl (by decide) -- (*concordance/posting.List).each
theorem E85 : Enters Try.prog 85 := enters Try.func85 rfl (by decide) -- (*concordance/posting.List).each$1
end TKAll5
open TKAll5
set_option linter.unusedVariables false
set_option linter.unusedSimpArgs false
set_option maxRecDepth 10000


structure AllSt (M : PSet) (w0 : World) (v : Value) (bo D bp : Nat) (st : Obj) (vo : Value) (xs : List Po) (M1 : PSet) (w : World) : Prop where
  lt : Lt M1 w
  S : Step M w0 M1 w none'
  mo : M1 bo
  md : M1 D
  mr : M1 (D + 1)
  o : w.heap[bo]? = some (.cells #[vo] 28 (0, 0))
  d : w.heap[D]? = some (.deferred (some []))
  r : w.heap[D + 1]? = some st
  p : w.heap[bp]? = some (.cells #[v] 30 (0, 0))
  ne : bo < D ∧ bp < D ∧ bo ≠ bp ∧ w0.heap.size ≤ bo ∧ w0.heap.size ≤ D
  hk : Own RT.po 37 M1 w (D + 2) vo xs
section
variable {M M1 M2 : PSet} {w0 w w' : World} {v vo : Value} {bo D bp : Nat} {st : Obj} {xs : List Po}
theorem AllSt.step (h : AllSt M w0 v bo D bp st vo xs M1 w) (s : Step M1 w M2 w' none') : AllSt M w0 v bo D bp st vo xs M2 w' :=
  ⟨s.lt h.lt, h.S.trans0 s, (s.mem _ (h.lt _ h.mo)).2 h.mo, (s.mem _ (h.lt _ h.md)).2 h.md, (s.mem _ (h.lt _ h.mr)).2 h.mr, s.same0 h.o, s.same0 h.d, s.same0 h.r, s.same0 h.p, h.ne, h.hk.step0 s⟩
theorem AllSt.setR {st' : Obj} (h : AllSt M w0 v bo D bp st vo xs M1 w) : AllSt M w0 v bo D bp st' vo xs M1 (w.putObj (D + 1) st') := by
  have s : Step M1 w M1 (w.putObj (D + 1) st') (fun k => k = D + 1) := step_putObj h.mr
  obtain ⟨e1, e2, e3, e4, e5⟩ := h.ne
  exact ⟨s.lt h.lt, h.S.transNew s (fun k hk => by subst hk; omega), h.mo, h.md, h.mr, s.keep h.o (by omega), s.keep h.d (by omega), World.putObj_heap_same (lt_of_get h.r), s.keep h.p (by omega), h.ne, h.hk.step s (fun k hk' hh => by have := (h.hk.base k hk').1; omega)⟩
theorem AllSt.grow {vo' : Value} {xs' : List Po} (h : AllSt M w0 v bo D bp st vo xs M1 w) (s : Step M1 w M2 w' (fun k => vo.ownBlock = some k)) (hk : Own RT.po 37 M2 w' (D + 2) vo' xs') :
    (w'.heap[bo]? = some (.cells #[vo] 28 (0, 0)) ∧ M2 bo) ∧ ∀ {w2 : World}, Step M2 w' M2 w2 (fun k => k = bo) → w2.heap[bo]? = some (.cells #[vo'] 28 (0, 0)) → AllSt M w0 v bo D bp st vo' xs' M2 w2 := by
  obtain ⟨e1, e2, e3, e4, e5⟩ := h.ne
  have hn : ∀ k, vo.ownBlock = some k → D + 2 ≤ k := fun k hk => (h.hk.base k hk).1
  have hmem := fun {k : Nat} (hm : M1 k) => (s.mem k (h.lt k hm)).2 hm
  refine ⟨⟨s.keep h.o (fun hh => by have := hn _ hh; omega), hmem h.mo⟩, fun {w2} s2 hx => ?_⟩
  have S' := h.S.transNew s (fun k hk => by have := hn k hk; omega)
  exact ⟨s2.lt (s.lt h.lt), S'.transNew s2 (fun k hk => by subst hk; exact e4), hmem h.mo, hmem h.md, hmem h.mr, hx, s2.keep (s.keep h.d (fun hh => by have := hn _ hh; omega)) (by omega), s2.keep (s.keep h.r (fun hh => by have := hn _ hh; omega)) (by omega), s2.keep (s.keep h.p (fun hh => by have := hn _ hh; omega)) (Ne.symm e3), h.ne,
    hk.step s2 (fun k hk' hh => by have := (hk.base k hk').1; omega)⟩
end
def AllJ (M : PSet) (w0 : World) (l : List Po) (v : Value) (bo D bp : Nat) (st : Obj) (i : Nat) (M1 : PSet) (w : World) : Prop :=
  ∃ (vo : Value), AllSt M w0 v bo D bp st vo (l.take (8 * i)) M1 w
theorem allJ0 {M : PSet} {w0 w2 w3 : World} {v : Value} {l : List Po} {bo bp : Nat} {st : Obj} (S2 : Step M w0 (ins M bo) w2 none') (s3 : Step (ins M bo) w2 (ins M bo) w3 none') (hM : Lt M w0) (e1 : w0.heap.size ≤ bo) (e2 : bo < w2.heap.size) (e3 : w2.heap.size ≤ bp)
    (hO : w2.heap[bo]? = some (.cells #[.slice none 0 0] 28 (0, 0))) (hP : w3.heap[bp]? = some (.cells #[v] 30 (0, 0))) : ∃ M1, AllJ M w0 l v bo w3.heap.size bp st 0 M1 ((w3.alloc (.deferred (some []))).alloc st) := by
  have sA : Step (ins M bo) w3 (ins (ins M bo) w3.heap.size) (w3.alloc (.deferred (some []))) none' := (step_alloc _ w3 _).own (Nat.le_refl _) (by simp)
  have sB : Step (ins (ins M bo) w3.heap.size) (w3.alloc (.deferred (some []))) (ins (ins (ins M bo) w3.heap.size) (w3.heap.size + 1)) ((w3.alloc (.deferred (some []))).alloc st) none' := (step_alloc _ _ _).own (by simp) (by simp)
  have z3 := s3.size
  have hp3 := lt_of_get hP
  have S := ((S2.trans0 s3).trans0 sA).trans0 sB
  have hD : (w3.alloc (.deferred (some []))).heap[w3.heap.size]? = some (.deferred (some [])) := heap_alloc_at w3 _
  have hR : ((w3.alloc (.deferred (some []))).alloc st).heap[w3.heap.size + 1]? = some st := by have := heap_alloc_at (w3.alloc (.deferred (some []))) st; rwa [World.size_alloc] at this
  have z0 := S2.size
  exact ⟨_, .slice none 0 0, ⟨S.lt hM, S, .inr (.inr (.inl rfl)), .inr (.inl rfl), .inl rfl, sB.same0 (sA.same0 (s3.same0 hO)), sB.same0 hD, hR, sB.same0 (sA.same0 hP), by omega, by rw [Nat.mul_zero, List.take_zero]; exact Own.nil _ _ _ _ _⟩⟩

set_option maxHeartbeats 2000000 in
/-- '(*concordance/posting.List).All' -/
theorem All_spec {M : PSet} {w0 : World} {v : Value} {l : List Po} (hM : Lt M w0) (hv : PtrTo RT.li M w0 v (mkLi l)) (hmay : mayPo (-1) l = true) (hps : ∀ p ∈ l, p.2.length ≤ 1099511627776) (hbl : (putPo (-1) l).length ≤ 1099511627776) (hll : l.length ≤ 1099511627776) :
    Spec Try.prog 62 #[v] w0 (fun v' w' => ((RT.po).sl).V M w' l v' ∧ Step M w0 M w' none') := by
  refine spec_ofM (args := [v]) (fn := Try.f62) Try.func62 rfl (n := 12) Try.ntmps62 ?_
  refine T.seq ?_
  refine T.region ?_ -- region 0
  refine Rg.assign rfl rfl ?_
  refine Rg.nil ?_
  refine T.seq ?_
  refine T.region ?_ -- region 1
  refine Rg.alloc M I28 rfl (fun bo w2 hbo hbo' hO s2 => ?_)
  refine Rg.nil ?_
  refine T.seq ?_
  refine T.seq ?_
  refine T.region ?_ -- region 2
  refine Rg.move rfl rfl ?_
  refine Rg.call rfl rfl E81 (each_spec (M := ins M bo) (s2.lt hM)) (fun r w3 h3 => ?_)
  obtain ⟨bp, rfl, hP, hbp, s3⟩ := h3
  rw [show v.cells = #[v] from by obtain ⟨q, rfl⟩ := PtrTo.isPtr hv; rfl] at hP
  refine Rg.nil ?_
  refine T.block ?_
  refine T.range (gf := 85) (lb := [.pointer (some ⟨bp, 0, none⟩)].toArray) rfl E85 (fun rec hrec => ?_)
  obtain ⟨D, hD⟩ : ∃ D, D = w3.heap.size := ⟨_, rfl⟩
  rw [← hD] at hrec ⊢
  obtain ⟨Ms, h0⟩ : ∃ Ms, AllJ M w0 l v bo D bp (.loop (rec .ready none)) 0 Ms ((w3.alloc (.deferred (some []))).alloc (.loop (rec .ready none))) := by
    rw [hD] at hrec ⊢
    exact allJ0 s2 s3 hM hbo hbo' hbp hO hP
  refine Spec.mono (each1_spec (J := AllJ M w0 l v bo D bp (.loop (rec .ready none))) (Jx := fun _ => False) (fun i M1 w ⟨vo, h⟩ => ⟨h.p, h.lt, hv.le (by decide) h.S.le, fun w' s => ⟨vo, h.step s⟩⟩) hmay hps hbl hll (fun i M1 wr u hJ hi hu => ?_) h0) (fun _ w4 h4 => ?_)
  · obtain ⟨vo, h⟩ := hJ
    refine yield_rec (ps := [7]) (vs := [u]) hrec h.r rfl (by decide) ?_
    refine T.region ?_ -- region 3
    refine Rg.assign rfl rfl ?_
    refine Rg.nil ?_
    refine ⟨rfl, h.r, ?_⟩
    have sR : Step M1 wr M1 (wr.putObj (D + 1) (.loop (rec .busy none))) (fun k => k = D + 1) := step_putObj h.mr
    have hu1 := hu.le sR.le
    have h1 := h.setR (st' := .loop (rec .busy none))
    generalize wr.putObj (D + 1) _ = wB at h1 hu1 ⊢
    refine T.block ?_
    refine T.region ?_ -- region 4
    refine Rg.loadc Try.underlying28 rfl rfl rfl h1.o rfl ?_
    refine Rg.move rfl rfl ?_
    refine Rg.append (M := M1) (base := D + 2) Try.underlying28 I37 rfl rfl rfl rfl h1.hk hu1 (Le.refl _ _) (by simp; omega) (by simp; omega) (by have := lt_of_get h1.r; omega) (fun v3 M3 w4 ho3 s4 => ?_)
    obtain ⟨⟨hx3, hm3⟩, hgo⟩ := h1.grow s4 ho3
    refine Rg.storec (M := M3) I28 rfl rfl hx3 rfl (by obtain ⟨_, _, he, _⟩ := ho3.isSlice; rw [he]; rfl) hm3 (fun w5 hX5 s5 => ?_)
    have h5 := (hgo s5 hX5).setR (st' := .loop (rec .ready none))
    have h6 := hgo s5 hX5
    refine Rg.nil ?_
    refine ⟨h6.r, true, rfl, fun _ => ⟨M3, v3, ?_⟩, fun h => by cases h⟩
    rw [show 8 * (i + 1) = 8 * i + 8 from by omega, List.take_add]
    exact h5
  · obtain ⟨Mz, vo, h⟩ := h4.resolve_right (fun h => h)
    left
    rw [List.take_of_length_le (by omega)] at h
    have h5 := h.setR (st' := .loop (rec .exhausted none))
    refine ⟨h.r, ?_⟩
    generalize w4.putObj (D + 1) _ = wE at h5 ⊢
    refine T.seq ?_
    refine T.region ?_ -- region 5
    refine Rg.loadc Try.underlying28 rfl rfl rfl h5.o rfl ?_
    refine Rg.assign rfl rfl ?_
    refine Rg.nil ?_
    refine T.ret ?_
    obtain ⟨q1, q2, q3, q4, q5⟩ := h5.ne
    have sZ : Step Mz wE Mz (wE.putObj D (.deferred none)) (fun k => k = D) := step_putObj h5.md
    have SZ := h5.S.transNew sZ (fun k hk => by subst hk; omega)
    exact KretM1 rfl rfl h5.d ⟨Own.close hM SZ ((h5.hk.step sZ (fun k hk hh => by have := (h5.hk.base k hk).1; omega)).rebase (by omega)) (by omega), SZ.back⟩

end Go.K

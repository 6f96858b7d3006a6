/- The walks of Go functions, operation by operation. -/
import Derived.Test.YtgpmihcdjmjfoaaKTypes
import Derived.Test.YtgpmihcdjmjfoaaKNum
import Derived.Test.YtgpmihcdjmjfoaaKPost
import Derived.Test.YtgpmihcdjmjfoaaKPtr
import Derived.Test.YtgpmihcdjmjfoaaKCur
import Derived.Test.YtgpmihcdjmjfoaaKCur2
import Derived.Test.YtgpmihcdjmjfoaaKCell2
import Derived.Test.YtgpmihcdjmjfoaaKFun
import Derived.Test.YtgpmihcdjmjfoaaKDraw
import Derived.Test.YtgpmihcdjmjfoaaKRange
import Derived.Test.YtgpmihcdjmjfoaaKPosting
import Derived.Test.YtgpmihcdjmjfoaaKMake2
import Derived.Test.YtgpmihcdjmjfoaaKCursor
import Derived.Test.YtgpmihcdjmjfoaaKAdv
import Derived.Test.YtgpmihcdjmjfoaaKBoth
import Derived.Test.YtgpmihcdjmjfoaaKRef04
import Derived.Test.YtgpmihcdjmjfoaaKLives6
import Derived.Test.YtgpmihcdjmjfoaaKAll6
import Derived.Test.YtgpmihcdjmjfoaaProg
import Derived.KernelRfl
namespace Go.K
open Go.Proofs
namespace TKLaw06c
theorem I4 : TI Try.prog 4 (.bool false) 1 1 := by unfold TI; kernel_rfl -- bool
theorem I23 : TI Try.prog 23 (.slice none 0 0) 1 24 := by unfold TI; kernel_rfl -- []int
theorem I28 : TI Try.prog 28 (.slice none 0 0) 1 24 := by unfold TI; kernel_rfl -- []api.Posting
theorem I37 : TI Try.prog 37 (.agg #[(.int .i64 0), (.slice none 0 0)]) 2 32 := by unfold TI; kernel_rfl -- api.Posting
theorem E18 : Enters Try.prog 18 := enters Try.func18 rfl (by decide) -- concordance/concordanceref05.Good
theorem E19 : Enters Try.prog 19 := enters Try.func19 rfl (by decide) -- concordance/posting.Make
theorem E23 : Enters Try.prog 23 := enters Try.func23 rfl (by decide) -- concordance/concordanceref01.Same
theorem E33 : Enters Try.prog 33 := enters Try.func33 rfl (by decide) -- concordance/concordancelaw06.lives
theorem E46 : Enters Try.prog 46 := enters Try.func46 rfl (by decide) -- concordance/cursor.All
theorem E73 : Enters Try.prog 73 := enters Try.func73 rfl (by decide) -- concordance/cursor.All$1
end TKLaw06c
open TKLaw06c
set_option linter.unusedVariables false
set_option linter.unusedSimpArgs false
set_option maxRecDepth 10000


structure CAst (M : PSet) (w0 : World) (g : List Po) (ug : Value) (q : Addr) (most : Int) (b3 b4 b5 bl b9 D : Nat) (st : Obj) (k : Nat) (M1 : PSet) (w : World) : Prop where
  lt : Lt M1 w
  S : Step M w0 M1 w none'
  m4 : M1 b4
  m9 : M1 b9
  md : M1 D
  mr : M1 (D + 1)
  h3 : w.heap[b3]? = some (.cells #[.int .i64 most] 3 (0, 0))
  h4 : w.heap[b4]? = some (.cells #[.bool false] 4 (0, 0))
  h5 : w.heap[b5]? = some (.cells #[ug] 28 (0, 0))
  hl : w.heap[bl]? = some (.cells #[.pointer (some q)] 30 (0, 0))
  h9 : w.heap[b9]? = some (.cells #[.int .i64 k] 3 (0, 0))
  d : w.heap[D]? = some (.deferred (some []))
  r : w.heap[D + 1]? = some st
  gv : ((RT.po).sl).V M1 w g ug
  p : PtrTo RT.li M1 w (.pointer (some q)) (mkLi g)
  ne : (b3 < D ∧ b4 < D ∧ b5 < D ∧ bl < D ∧ b9 < D) ∧ (b9 ≠ b3 ∧ b9 ≠ b4 ∧ b9 ≠ b5 ∧ b9 ≠ bl) ∧ (w0.heap.size ≤ b4 ∧ w0.heap.size ≤ b9 ∧ w0.heap.size ≤ D)
section
variable {M M1 M2 N : PSet} {w0 w w' : World} {g : List Po} {ug : Value} {q : Addr} {most : Int} {b3 b4 b5 bl b9 D k : Nat} {st st' : Obj}
theorem CAst.step (h : CAst M w0 g ug q most b3 b4 b5 bl b9 D st k M1 w) (s : Step M1 w M2 w' N) (hN : ∀ b, N b → D + 2 ≤ b) : CAst M w0 g ug q most b3 b4 b5 bl b9 D st k M2 w' := by
  obtain ⟨⟨e1, e2, e3, e4, e5⟩, e6, e7, e8, e9⟩ := h.ne
  have no : ∀ b, b < D + 2 → ¬ N b := fun b hb hn => by have := hN b hn; omega
  have mm := fun {b : Nat} (hm : M1 b) => (s.mem b (h.lt b hm)).2 hm
  exact ⟨s.lt h.lt, h.S.transNew s (fun b hb => by have := hN b hb; omega), mm h.m4, mm h.m9, mm h.md, mm h.mr, s.keep h.h3 (no _ (by omega)), s.keep h.h4 (no _ (by omega)), s.keep h.h5 (no _ (by omega)), s.keep h.hl (no _ (by omega)), s.keep h.h9 (no _ (by omega)), s.keep h.d (no _ (by omega)), s.keep h.r (no _ (by omega)), h.gv.le s.le, h.p.le (by decide) s.le, h.ne⟩
theorem CAst.setR (h : CAst M w0 g ug q most b3 b4 b5 bl b9 D st k M1 w) : CAst M w0 g ug q most b3 b4 b5 bl b9 D st' k M1 (w.putObj (D + 1) st') ∧ Step M1 w M1 (w.putObj (D + 1) st') (fun k => k = D + 1) := by
  obtain ⟨⟨e1, e2, e3, e4, e5⟩, e6, e7, e8, e9⟩ := h.ne
  have s : Step M1 w M1 (w.putObj (D + 1) st') (fun k => k = D + 1) := step_putObj h.mr
  exact ⟨⟨s.lt h.lt, h.S.transNew s (fun b hb => by omega), h.m4, h.m9, h.md, h.mr, s.keep h.h3 (by omega), s.keep h.h4 (by omega), s.keep h.h5 (by omega), s.keep h.hl (by omega), s.keep h.h9 (by omega), s.keep h.d (by omega), World.putObj_heap_same (lt_of_get h.r), h.gv.le s.le, h.p.le (by decide) s.le, h.ne⟩, s⟩
theorem CAst.set9 {k' : Nat} (h : CAst M w0 g ug q most b3 b4 b5 bl b9 D st k M1 w) (s : Step M1 w M1 w' (fun b => b = b9)) (h9 : w'.heap[b9]? = some (.cells #[.int .i64 k'] 3 (0, 0))) : CAst M w0 g ug q most b3 b4 b5 bl b9 D st k' M1 w' := by
  obtain ⟨⟨e1, e2, e3, e4, e5⟩, ⟨e6, e7, e8, e9⟩, e10, e11, e12⟩ := h.ne
  exact ⟨s.lt h.lt, h.S.transNew s (fun b hb => by omega), h.m4, h.m9, h.md, h.mr, s.keep h.h3 (by omega), s.keep h.h4 (by omega), s.keep h.h5 (by omega), s.keep h.hl (by omega), h9, s.keep h.d (by omega), s.keep h.r (by omega), h.gv.le s.le, h.p.le (by decide) s.le, h.ne⟩
end

set_option maxHeartbeats 2000000 in
/-- 'concordance/concordancelaw06.CursorAll' -/
theorem CursorAll_spec {M : PSet} {w0 : World} {v : Value} {a : List Po} {most : Int} (hM : Lt M w0) (hv : ((RT.po).sl).V M w0 a v) (hmo : -9223372036854775808 ≤ most ∧ most ≤ 9223372036854775807) :
    Spec Try.prog 13 #[v, .int .i64 most] w0 (fun v' w' => v' = .bool true ∧ Step M w0 M w' none') := by
  refine spec_ofM (args := [v, .int .i64 most]) (fn := Try.f13) Try.func13 rfl (n := 66) Try.ntmps13 ?_
  refine T.seq ?_
  refine T.region ?_ -- region 0
  refine Rg.box M rfl rfl (fun b3 w1 z1 z1' g3 s1 => ?_)
  change w1.heap[b3]? = some (.cells #[.int .i64 most] _ _) at g3
  refine Rg.alloc (ins M b3) I4 rfl (fun b4 w2 z2 z2' g4 s2 => ?_)
  change w2.heap[b4]? = some (.cells #[.bool false] _ _) at g4
  replace g3 := s2.same0 g3
  have S2 := s1.trans0 s2
  have hM2 := S2.lt hM
  refine Rg.nil ?_
  refine T.seq ?_
  refine T.region ?_ -- region 1
  refine Rg.move rfl rfl ?_
  refine Rg.call rfl rfl E18 (Good_ok (M := ins (ins M b3) b4) (n := 40) hM2 (hv.le S2.le) (by decide)) (fun ug w3 h => ?_)
  obtain ⟨s3, g, og, ogl, ogs, ogV⟩ := h
  replace g3 := s3.same0 g3
  replace g4 := s3.same0 g4
  have hM3 := s3.lt hM2
  have S3 := S2.trans0 s3
  have hug1 := V_one ogV rfl rfl
  refine Rg.alloc (ins (ins M b3) b4) I28 rfl (fun b5 w4 z4 z4' g5 s4 => ?_)
  replace g3 := s4.same0 g3
  replace g4 := s4.same0 g4
  have hM4 := s4.lt hM3
  have S4 := S3.trans0 s4
  replace ogV := ogV.le s4.le
  have y1 := s1.size
  have y2 := s2.size
  have y3 := s3.size
  have y4 := s4.size
  obtain ⟨Ma, hMa⟩ : ∃ Ma, Ma = ins (ins (ins M b3) b4) b5 := ⟨_, rfl⟩
  rw [← hMa] at s4 hM4 S4 ogV
  refine Rg.storec (M := Ma) I28 rfl rfl g5 rfl hug1 (by rw [hMa]; exact .inl rfl) (fun w5 g5' s5 => ?_)
  change w5.heap[b5]? = some (.cells #[ug] _ _) at g5'
  replace g3 := s5.keep g3 (by omega)
  replace g4 := s5.keep g4 (by omega)
  have hM5 := s5.lt hM4
  have S5 := S4.transNew s5 (fun k hk => by subst hk; omega)
  replace ogV := ogV.le s5.le
  refine Rg.nil ?_
  refine T.seq ?_
  refine T.region ?_ -- region 2
  refine Rg.loadc Try.underlying28 rfl rfl rfl (by assumption) rfl ?_
  refine Rg.call rfl rfl E19 (Make_ok (M := Ma) hM5 ogV og) (fun r w6 h => ?_)
  obtain ⟨s6, q, rfl, hp⟩ := h
  replace g3 := s6.same0 g3
  replace g4 := s6.same0 g4
  replace g5' := s6.same0 g5'
  have hM6 := s6.lt hM5
  replace ogV := ogV.le s6.le
  refine Rg.move rfl rfl ?_
  refine Rg.extract rfl rfl rfl ?_
  refine Rg.extract rfl rfl rfl ?_
  refine Rg.assign rfl rfl ?_
  refine Rg.assign rfl rfl ?_
  refine Rg.nil ?_
  refine T.seq ?_
  refine T.region ?_ -- region 3
  refine Rg.move rfl rfl ?_
  refine Rg.call rfl rfl E46 (All6_spec (M := Ma) hM6) (fun r7 w7 h => ?_)
  obtain ⟨bl, rfl, gl, z7, s7⟩ := h
  replace g3 := s7.same0 g3
  replace g4 := s7.same0 g4
  replace g5' := s7.same0 g5'
  have hM7 := s7.lt hM6
  replace ogV := ogV.le s7.le
  replace hp := hp.le (by decide) s7.le
  have S7 := (S5.trans0 s6).trans0 s7
  have y7 := S7.size
  have xl := lt_of_get gl
  refine Rg.assign rfl rfl ?_
  refine Rg.nil ?_
  refine T.seq ?_
  refine T.seq ?_
  refine T.region ?_ -- region 4
  refine Rg.move rfl rfl ?_
  refine Rg.funceqnil Try.underlying65 rfl rfl rfl ?_
  refine Rg.eqv (v' := .bool (decide False)) rfl ?_
  refine Rg.nil ?_
  refine T.iffp rfl ((fun h => h)) ?_
  refine T.skip ?_
  refine T.seq ?_
  refine T.region ?_ -- region 6
  refine Rg.alloc Ma I3 rfl (fun b9 w8 z8 z8' g9 s8 => ?_)
  replace g3 := s8.same0 g3
  replace g4 := s8.same0 g4
  replace g5' := s8.same0 g5'
  replace gl := s8.same0 gl
  have hM8 := s8.lt hM7
  replace ogV := ogV.le s8.le
  replace hp := hp.le (by decide) s8.le
  have S8 := S7.trans0 s8
  have x3 := lt_of_get g3
  have x4 := lt_of_get g4
  have x5 := lt_of_get g5'
  have hm4 : ins Ma b9 b4 := by rw [hMa]; exact .inr (.inr (.inl rfl))
  obtain ⟨Mb, hMb⟩ : ∃ Mb, Mb = ins Ma b9 := ⟨_, rfl⟩
  have hm9 : Mb b9 := by rw [hMb]; exact .inl rfl
  rw [← hMb] at s8 hM8 ogV hp S8 hm4
  have v3 := s1.size
  have v6 := s6.size
  have v7 := s7.size
  have v5 := s5.size
  have n93 : b9 ≠ b3 := by have := S2.size; omega
  refine Rg.storec (M := Mb) I3 rfl rfl g9 rfl rfl hm9 (fun w9 g9' s9 => ?_)
  change w9.heap[b9]? = some (.cells #[.int .i64 ((0 : Nat) : Int)] _ _) at g9'
  replace g3 := s9.keep g3 (by omega)
  replace g4 := s9.keep g4 (by omega)
  replace g5' := s9.keep g5' (by omega)
  replace gl := s9.keep gl (by omega)
  have hM9 := s9.lt hM8
  replace ogV := ogV.le s9.le
  replace hp := hp.le (by decide) s9.le
  have S9 := S8.transNew s9 (fun k hk => by subst hk; omega)
  have y9 := s9.size
  refine Rg.nil ?_
  refine T.seq ?_
  refine T.seq ?_
  refine T.region ?_ -- region 7
  refine Rg.move rfl rfl ?_
  refine Rg.nil ?_
  refine T.block ?_
  refine T.range (gf := 73) (lb := #[.pointer (some ⟨bl, 0, none⟩)]) rfl E73 (fun rec hrec => ?_)
  obtain ⟨D, hD⟩ : ∃ D, D = w9.heap.size := ⟨_, rfl⟩
  rw [← hD] at hrec ⊢
  obtain ⟨Ms, h0⟩ : ∃ Ms, CAst M w0 g ug q most b3 b4 b5 bl b9 D (.loop (rec .ready none)) 0 Ms ((w9.alloc (.deferred (some []))).alloc (.loop (rec .ready none))) := by
    have sA : Step Mb w9 (ins Mb w9.heap.size) (w9.alloc (.deferred (some []))) none' := (step_alloc _ w9 _).own (Nat.le_refl _) (by simp)
    have sB : Step (ins Mb w9.heap.size) (w9.alloc (.deferred (some []))) (ins (ins Mb w9.heap.size) (w9.heap.size + 1)) ((w9.alloc (.deferred (some []))).alloc (.loop (rec .ready none))) none' := (step_alloc _ _ _).own (by simp) (by simp)
    have sC := sA.trans0 sB
    have hDd : (w9.alloc (.deferred (some []))).heap[w9.heap.size]? = some (.deferred (some [])) := heap_alloc_at w9 _
    have hR : ((w9.alloc (.deferred (some []))).alloc (.loop (rec .ready none))).heap[w9.heap.size + 1]? = some (.loop (rec .ready none)) := by have := heap_alloc_at (w9.alloc (.deferred (some []))) (.loop (rec .ready none)); rwa [World.size_alloc] at this
    rw [hD]
    exact ⟨_, ⟨sC.lt hM9, S9.trans0 sC, .inr (.inr hm4), .inr (.inr hm9), .inr (.inl rfl), .inl rfl, sC.same0 g3, sC.same0 g4, sC.same0 g5', sC.same0 gl, sC.same0 g9', sB.same0 hDd, hR, ogV.le sC.le, hp.le (by decide) sC.le, by omega⟩⟩
  refine Spec.mono (All1_spec (base := D + 2) (J := CAst M w0 g ug q most b3 b4 b5 bl b9 D (.loop (rec .ready none))) (Jx := fun w => ∃ i M1, CAst M w0 g ug q most b3 b4 b5 bl b9 D (.loop (rec .done (some (.exit 0)))) i M1 w ∧ (i : Int) = most) og (fun i M1 w h => ⟨h.hl, h.lt, h.p, by have := lt_of_get h.r; omega⟩) (fun i M1 w M2 w' N h s hN => h.step s hN) (fun i M1 wr d ps u hJ hi hu => ?_) h0) (fun _ w4 h4 => ?_)
  · refine yield_rec (ps := [24, 25]) (vs := [.int .i64 d, u]) hrec hJ.r rfl (by decide) ?_
    refine T.seq ?_
    refine T.region ?_ -- region 8
    refine Rg.assign rfl rfl ?_
    refine Rg.nil ?_
    refine T.region ?_ -- region 9
    refine Rg.assign rfl rfl ?_
    refine Rg.nil ?_
    have hil := (List.getElem?_eq_some_iff.1 hi).1
    have hgl := og.ll
    refine ⟨rfl, hJ.r, ?_⟩
    obtain ⟨h1, sR⟩ := hJ.setR (st' := .loop (rec .busy none))
    have hu1 := hu.le sR.le
    generalize wr.putObj (D + 1) _ = wB at h1 hu1 sR ⊢
    refine T.block ?_
    refine T.seq ?_
    refine T.seq ?_
    refine T.region ?_ -- region 10
    refine Rg.loadc Try.underlying3 rfl rfl rfl h1.h9 rfl ?_
    have hga := h1.gv
    refine Rg.loadc Try.underlying28 rfl rfl rfl h1.h5 rfl ?_
    refine Rg.lensl Try.underlying28 rfl hga rfl ?_
    refine Rg.ige rfl rfl rfl ?_
    refine Rg.move rfl rfl ?_
    refine Rg.gfalse (g := 30) rfl ((by have := (List.getElem?_eq_some_iff.1 hi).1; omega)) ?_
    refine Rg.gyes rfl rfl ?_
    refine Rg.move rfl rfl ?_
    refine Rg.gyes rfl rfl ?_
    refine Rg.loadc Try.underlying28 rfl rfl rfl h1.h5 rfl ?_
    refine Rg.gyes rfl rfl ?_
    refine Rg.loadc Try.underlying3 rfl rfl rfl h1.h9 rfl ?_
    refine Rg.gyes rfl rfl ?_

    refine Rg.idx (M := M1) Try.underlying28 I37 rfl rfl rfl (hga) (Le.refl _ _) (by omega) (fun u10_8 a10_8 hg10_8 hu10_8 => ?_)
    obtain rfl : (d, ps) = a10_8 := Eq.symm (Option.some.inj (hg10_8.symm.trans (by rw [Int.toNat_natCast]; exact hi)))
    refine Rg.gyes rfl rfl ?_
    refine Rg.fieldAddr (M := M1) (A := RT.po) (B := RT.int .i64) Try.underlying37 rfl rfl I3 (by decide) (po0) rfl rfl (by decide) (by assumption) (by repeat (first | exact Le.refl _ _ | refine Le.trans (Step.le (by assumption)) ?_)) (fun u10_9 hu10_9 => ?_)
    refine Rg.gyes rfl rfl ?_
    refine Rg.loadi64 (M := M1) Try.underlying3 rfl rfl (by assumption) (by repeat (first | exact Le.refl _ _ | refine Le.trans (Step.le (by assumption)) ?_)) (fun in10_10 => ?_)
    refine Rg.eqv (v' := .int .i64 d) rfl ?_
    replace in10_10 : -9223372036854775808 ≤ (d : Int) ∧ d ≤ 9223372036854775807 := in10_10
    refine Rg.gyes rfl rfl ?_
    refine Rg.ine rfl rfl rfl ?_
    refine Rg.pickf rfl rfl rfl ?_
    refine Rg.move rfl rfl ?_
    refine Rg.gfalse (g := 39) rfl ((fun h => h rfl)) ?_
    refine Rg.gyes rfl rfl ?_
    refine Rg.move rfl rfl ?_
    refine Rg.gyes rfl rfl ?_
    refine Rg.loadc Try.underlying28 rfl rfl rfl h1.h5 rfl ?_
    refine Rg.gyes rfl rfl ?_
    refine Rg.loadc Try.underlying3 rfl rfl rfl h1.h9 rfl ?_
    refine Rg.gyes rfl rfl ?_

    refine Rg.idx (M := M1) Try.underlying28 I37 rfl rfl rfl (hga) (Le.refl _ _) (by omega) (fun u10_17 a10_17 hg10_17 hu10_17 => ?_)
    obtain rfl : (d, ps) = a10_17 := Eq.symm (Option.some.inj (hg10_17.symm.trans (by rw [Int.toNat_natCast]; exact hi)))
    refine Rg.gyes rfl rfl ?_
    refine Rg.fieldAddr (M := M1) (A := RT.po) (B := (RT.int .i64).sl) Try.underlying37 rfl rfl I23 (by decide) (po1) rfl rfl (by decide) (by assumption) (by repeat (first | exact Le.refl _ _ | refine Le.trans (Step.le (by assumption)) ?_)) (fun u10_18 hu10_18 => ?_)
    refine Rg.gyes rfl rfl ?_
    refine Rg.load (M := M1) Try.underlying23 rfl rfl rfl rfl rfl (by assumption) (by repeat (first | exact Le.refl _ _ | refine Le.trans (Step.le (by assumption)) ?_)) (fun v10_19 hv10_19 => ?_)
    replace hv10_19 : ((RT.int .i64).sl).V M1 _ ps v10_19 := hv10_19
    refine Rg.gyes rfl rfl ?_
    refine Rg.call rfl rfl E23 (Same_spec (M := M1) h1.lt hu1 hv10_19) (fun r9 wS h => ?_)
    obtain ⟨rfl, sS⟩ := h
    refine Rg.eqv (v' := .bool true) (by simp) ?_
    have h2 := h1.step sS (fun b h => h.elim)
    refine Rg.gyes rfl rfl ?_
    refine Rg.not rfl rfl ?_
    refine Rg.eqv (v' := .bool (decide False)) (by simp) ?_
    refine Rg.pickf rfl rfl rfl ?_
    refine Rg.nil ?_
    refine T.iffp rfl ((fun h => h)) ?_
    refine T.skip ?_
    refine T.seq ?_
    refine T.region ?_ -- region 12
    refine Rg.loadc Try.underlying3 rfl rfl rfl h2.h9 rfl ?_
    refine Rg.iadd rfl rfl rfl (by omega) ?_
    refine Rg.storec (M := M1) I3 rfl rfl h2.h9 rfl rfl h2.m9 (fun w10 g10 s10 => ?_)
    change w10.heap[b9]? = some (.cells #[.int .i64 (((i + 1 : Nat) : Nat) : Int)] _ _) at g10
    have h3 := h2.set9 s10 g10
    refine Rg.nil ?_
    refine T.seq ?_
    refine T.region ?_ -- region 13
    refine Rg.loadc Try.underlying3 rfl rfl rfl h3.h9 rfl ?_
    refine Rg.eqv (v' := .int .i64 ((i + 1 : Nat) : Int)) rfl ?_
    refine Rg.loadc Try.underlying3 rfl rfl rfl h3.h3 rfl ?_
    refine Rg.eqv (v' := .int .i64 most) rfl ?_
    refine Rg.ieq rfl rfl rfl ?_
    refine Rg.nil ?_
    refine T.ifp rfl (fun c13 => ?_) (fun c13 => ?_)
    · -- c13 True
      refine T.exit ?_
      obtain ⟨h5, sE⟩ := h3.setR (st' := .loop (rec .done (some (.exit 0))))
      exact ⟨h3.r, false, rfl, (fun h => by (cases h)), fun _ => ⟨_, _, h5, c13⟩⟩
    · -- c13 False
      refine T.skip ?_
      obtain ⟨h5, sE⟩ := h3.setR (st' := .loop (rec .ready none))
      obtain ⟨⟨e1, e2, e3, e4, e5⟩, e6, e10, e11, e12⟩ := h3.ne
      exact ⟨h3.r, true, rfl, fun _ => ⟨M1, fun k => k < D + 2 ∧ M1 k, h5, (((sR.widen (fun b hb => by subst hb; exact ⟨by omega, h3.mr⟩) (fun b hb => hb.2)).trans0 sS).trans s10 (fun b _ hb => by subst hb; exact ⟨by omega, h3.m9⟩)).trans sE (fun b _ hb => by subst hb; exact ⟨by omega, h3.mr⟩), fun k hk => hk.1⟩, fun h => by cases h⟩
  · rcases h4 with ⟨Mz, hz⟩ | ⟨kz, Mz, hz, him⟩
    · left
      obtain ⟨kz, hkz⟩ : ∃ kz, kz = g.length := ⟨_, rfl⟩
      rw [← hkz] at hz
      obtain ⟨hz5, _⟩ := hz.setR (st' := .loop (rec .exhausted none))
      refine ⟨hz.r, ?_⟩
      generalize w4.putObj (D + 1) _ = wE at hz5 ⊢
      refine T.seq ?_
      refine T.region ?_ -- region 14
      refine Rg.loadc Try.underlying3 rfl rfl rfl hz5.h9 rfl ?_
      refine Rg.eqv (v' := .int .i64 (kz : Int)) rfl ?_
      have hgz := hz5.gv
      refine Rg.loadc Try.underlying28 rfl rfl rfl hz5.h5 rfl ?_
      refine Rg.lensl Try.underlying28 rfl hgz rfl ?_
      refine Rg.ieq rfl rfl rfl ?_
      refine Rg.move rfl rfl ?_
      refine Rg.gsplitp (g := 58) rfl (fun g14_4 => ?_) (fun g14_4 => ?_)
      · -- g14_4 True
        refine Rg.gno rfl rfl rfl rfl ?_
        refine Rg.gno rfl rfl rfl rfl ?_
        refine Rg.gno rfl rfl rfl rfl ?_
        refine Rg.pickt rfl rfl rfl ?_
        refine Rg.move rfl rfl ?_
        refine Rg.gyes rfl rfl ?_
        refine Rg.call rfl rfl E33 (lives6_spec (M := Mz) (hz5.lt)) (fun rL wL h => ?_)
        obtain ⟨rfl, sL⟩ := h
        have hz6 := hz5.step sL (fun b h => h.elim)
        refine Rg.pickt rfl rfl rfl ?_
        refine Rg.storec (M := Mz) (v := .bool true) I4 rfl rfl hz6.h4 rfl rfl hz6.m4 (fun w14 g14 s14 => ?_)
        change w14.heap[b4]? = some (.cells #[.bool true] _ _) at g14
        refine Rg.nil ?_
        refine T.ret ?_
        obtain ⟨⟨e1, e2, e3, e4, e5⟩, ⟨e6, e7, e8, e9⟩, e10, e11, e12⟩ := hz6.ne
        have gD := s14.keep hz6.d (by omega)
        have sZ : Step Mz w14 Mz (w14.putObj D (.deferred none)) (fun k => k = D) := step_putObj hz6.md
        exact KretMF1 rfl rfl Try.underlying4 rfl gD (sZ.keep g14 (by omega)) ⟨rfl, ((hz6.S.transNew s14 (fun k hk => by subst hk; exact e10)).transNew sZ (fun k hk => by subst hk; exact e12)).back⟩
      · -- g14_4 False
        refine Rg.gyes rfl rfl ?_
        refine Rg.loadc Try.underlying3 rfl rfl rfl hz5.h9 rfl ?_
        refine Rg.eqv (v' := .int .i64 (kz : Int)) rfl ?_
        refine Rg.gyes rfl rfl ?_
        refine Rg.loadc Try.underlying3 rfl rfl rfl hz5.h3 rfl ?_
        refine Rg.eqv (v' := .int .i64 most) rfl ?_
        refine Rg.gyes rfl rfl ?_
        refine Rg.ieq rfl rfl rfl ?_
        refine Rg.pickf rfl rfl rfl ?_
        refine Rg.move rfl rfl ?_
        refine Rg.gtrue (g := 63) rfl ((by first | assumption | omega)) ?_
        refine Rg.gyes rfl rfl ?_
        refine Rg.call rfl rfl E33 (lives6_spec (M := Mz) (hz5.lt)) (fun rL wL h => ?_)
        obtain ⟨rfl, sL⟩ := h
        have hz6 := hz5.step sL (fun b h => h.elim)
        refine Rg.pickt rfl rfl rfl ?_
        refine Rg.storec (M := Mz) (v := .bool true) I4 rfl rfl hz6.h4 rfl rfl hz6.m4 (fun w14 g14 s14 => ?_)
        change w14.heap[b4]? = some (.cells #[.bool true] _ _) at g14
        refine Rg.nil ?_
        refine T.ret ?_
        obtain ⟨⟨e1, e2, e3, e4, e5⟩, ⟨e6, e7, e8, e9⟩, e10, e11, e12⟩ := hz6.ne
        have gD := s14.keep hz6.d (by omega)
        have sZ : Step Mz w14 Mz (w14.putObj D (.deferred none)) (fun k => k = D) := step_putObj hz6.md
        exact KretMF1 rfl rfl Try.underlying4 rfl gD (sZ.keep g14 (by omega)) ⟨rfl, ((hz6.S.transNew s14 (fun k hk => by subst hk; exact e10)).transNew sZ (fun k hk => by subst hk; exact e12)).back⟩
    · right
      obtain ⟨hz5, _⟩ := hz.setR (st' := .loop (rec .exhausted (some (.exit 0))))
      refine ⟨.exit 0, hz.r, ?_⟩
      generalize w4.putObj (D + 1) _ = wE at hz5 ⊢
      refine T.exit ?_
      refine T.seq ?_
      refine T.region ?_ -- region 14
      refine Rg.loadc Try.underlying3 rfl rfl rfl hz5.h9 rfl ?_
      refine Rg.eqv (v' := .int .i64 (kz : Int)) rfl ?_
      have hgz := hz5.gv
      refine Rg.loadc Try.underlying28 rfl rfl rfl hz5.h5 rfl ?_
      refine Rg.lensl Try.underlying28 rfl hgz rfl ?_
      refine Rg.ieq rfl rfl rfl ?_
      refine Rg.move rfl rfl ?_
      refine Rg.gsplitp (g := 58) rfl (fun g14_4 => ?_) (fun g14_4 => ?_)
      · -- g14_4 True
        refine Rg.gno rfl rfl rfl rfl ?_
        refine Rg.gno rfl rfl rfl rfl ?_
        refine Rg.gno rfl rfl rfl rfl ?_
        refine Rg.pickt rfl rfl rfl ?_
        refine Rg.move rfl rfl ?_
        refine Rg.gyes rfl rfl ?_
        refine Rg.call rfl rfl E33 (lives6_spec (M := Mz) (hz5.lt)) (fun rL wL h => ?_)
        obtain ⟨rfl, sL⟩ := h
        have hz6 := hz5.step sL (fun b h => h.elim)
        refine Rg.pickt rfl rfl rfl ?_
        refine Rg.storec (M := Mz) (v := .bool true) I4 rfl rfl hz6.h4 rfl rfl hz6.m4 (fun w14 g14 s14 => ?_)
        change w14.heap[b4]? = some (.cells #[.bool true] _ _) at g14
        refine Rg.nil ?_
        refine T.ret ?_
        obtain ⟨⟨e1, e2, e3, e4, e5⟩, ⟨e6, e7, e8, e9⟩, e10, e11, e12⟩ := hz6.ne
        have gD := s14.keep hz6.d (by omega)
        have sZ : Step Mz w14 Mz (w14.putObj D (.deferred none)) (fun k => k = D) := step_putObj hz6.md
        exact KretMF1 rfl rfl Try.underlying4 rfl gD (sZ.keep g14 (by omega)) ⟨rfl, ((hz6.S.transNew s14 (fun k hk => by subst hk; exact e10)).transNew sZ (fun k hk => by subst hk; exact e12)).back⟩
      · -- g14_4 False
        refine Rg.gyes rfl rfl ?_
        refine Rg.loadc Try.underlying3 rfl rfl rfl hz5.h9 rfl ?_
        refine Rg.eqv (v' := .int .i64 (kz : Int)) rfl ?_
        refine Rg.gyes rfl rfl ?_
        refine Rg.loadc Try.underlying3 rfl rfl rfl hz5.h3 rfl ?_
        refine Rg.eqv (v' := .int .i64 most) rfl ?_
        refine Rg.gyes rfl rfl ?_
        refine Rg.ieq rfl rfl rfl ?_
        refine Rg.pickf rfl rfl rfl ?_
        refine Rg.move rfl rfl ?_
        refine Rg.gtrue (g := 63) rfl ((by first | assumption | omega)) ?_
        refine Rg.gyes rfl rfl ?_
        refine Rg.call rfl rfl E33 (lives6_spec (M := Mz) (hz5.lt)) (fun rL wL h => ?_)
        obtain ⟨rfl, sL⟩ := h
        have hz6 := hz5.step sL (fun b h => h.elim)
        refine Rg.pickt rfl rfl rfl ?_
        refine Rg.storec (M := Mz) (v := .bool true) I4 rfl rfl hz6.h4 rfl rfl hz6.m4 (fun w14 g14 s14 => ?_)
        change w14.heap[b4]? = some (.cells #[.bool true] _ _) at g14
        refine Rg.nil ?_
        refine T.ret ?_
        obtain ⟨⟨e1, e2, e3, e4, e5⟩, ⟨e6, e7, e8, e9⟩, e10, e11, e12⟩ := hz6.ne
        have gD := s14.keep hz6.d (by omega)
        have sZ : Step Mz w14 Mz (w14.putObj D (.deferred none)) (fun k => k = D) := step_putObj hz6.md
        exact KretMF1 rfl rfl Try.underlying4 rfl gD (sZ.keep g14 (by omega)) ⟨rfl, ((hz6.S.transNew s14 (fun k hk => by subst hk; exact e10)).transNew sZ (fun k hk => by subst hk; exact e12)).back⟩

end Go.K

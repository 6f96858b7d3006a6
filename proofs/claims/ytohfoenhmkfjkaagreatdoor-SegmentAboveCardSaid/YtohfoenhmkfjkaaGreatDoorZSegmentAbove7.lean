/- What the law 'SegmentAbove' needs of walks and plain Lean, part 7: nothing is assumed beyond the texts that it imports. -/
import Derived.KernelRfl
import Derived.Test.YtohfoenhmkfjkaaGreatDoorProg
import Derived.Test.YtohfoenhmkfjkaaGreatDoorZSegmentAbove1
import Derived.Test.YtohfoenhmkfjkaaGreatDoorZSegmentAbove2
import Derived.Test.YtohfoenhmkfjkaaGreatDoorZSegmentAbove3
import Derived.Test.YtohfoenhmkfjkaaGreatDoorZSegmentAbove4
import Derived.Test.YtohfoenhmkfjkaaGreatDoorZSegmentAbove5
import Derived.Test.YtohfoenhmkfjkaaGreatDoorZSegmentAbove6
namespace Go.K
open Go.Proofs
namespace TKBldJ
theorem I56 : TI Tryz.prog 56 (.slice none 0 0) 1 24 := by unfold TI; kernel_rfl -- [][]api.Posting
theorem I58 : TI Tryz.prog 58 (.agg #[(.slice none 0 0), (.slice none 0 0), (.slice none 0 0), (.slice none 0 0)]) 4 96 := by unfold TI; kernel_rfl -- segment.Parts
theorem I107 : TI Tryz.prog 107 (.slice none 0 0) 1 24 := by unfold TI; kernel_rfl -- []api.Posting
theorem E27 : Enters Tryz.prog 27 := enters Tryz.func27 rfl (by decide) -- concordance/segment.Make
theorem E56 : Enters Tryz.prog 56 := enters Tryz.func56 rfl (by decide) -- concordance/buffer.New
theorem E57 : Enters Tryz.prog 57 := enters Tryz.func57 rfl (by decide) -- (*concordance/buffer.Buffer).Add
theorem E58 : Enters Tryz.prog 58 := enters Tryz.func58 rfl (by decide) -- (*concordance/buffer.Buffer).Keys
theorem E59 : Enters Tryz.prog 59 := enters Tryz.func59 rfl (by decide) -- (*concordance/buffer.Buffer).Postings
end TKBldJ
open TKBldJ
set_option linter.unusedVariables false
set_option linter.unusedSimpArgs false
set_option maxRecDepth 10000
set_option maxHeartbeats 4000000 in
/-- 'concordance/segment.Build' -/
theorem build_spec {M : PSet} {L : List En} {v0 : Value} (w0 : World) (hM : Lt M w0) (hv : (RT.en.sl).V M w0 L v0) (hl : ∀ e ∈ L, ∀ f ∈ e.1.2, f.1.length ≤ 900000 ∧ f.2.length ≤ 900000) (hn : L.length ≤ 100000) (hok : okL (-1) L = true) :
    Spec Tryz.prog 15 #[v0] w0 (fun v w => ∃ s, v = .tuple #[s, .int .i64 0] ∧ PtrTo RT.se M w s (seP (paOf L)) ∧ Step M w0 M w none') := by
  have hM0 := hM
  have hF := okL_fine hok
  have hkn : (keysOf L).length ≤ 500000000 := by
    have h1 := (keys_up L).nodup.length_le_of_subset (l₂ := keysL L) (fun x hx => keys_mem.1 hx)
    have := keysL_len hF; omega
  have hks : ∀ k ∈ keysOf L, k.length ≤ 43 := fun k hk => keysL_small hF k (keys_mem.1 hk)
  refine spec_of (args := [_]) (fn := Tryz.f15) Tryz.func15 rfl (n := 63) Tryz.ntmps15 ?_
  have S : Step M w0 M w0 none' := (Step.refl _ _).widen (fun _ h => h.elim) (fun _ h => h.elim)
  refine T.seq ?_
  refine T.region ?_ -- region 0
  refine Rg.assign rfl rfl ?_
  refine Rg.assign rfl rfl ?_
  refine Rg.nil ?_
  refine T.seq ?_
  refine T.region ?_ -- region 1
  refine Rg.call rfl rfl E56 (new_spec (Z := fun k => w0.heap.size ≤ k) (B := w0.heap.size) _ hM (Nat.le_refl _) (fun k hk => hk)) (fun r1 w1 hc => ?_)
  obtain ⟨M1, b1, rfl, _, hbuf, s1⟩ := hc
  replace hbuf := hbuf.zone (Z' := fun k => w0.heap.size ≤ k ∧ k < w1.heap.size) (fun c hc hlt => ⟨hc, hlt⟩) --@M M1
  --@step s1
  --@fact2 hbuf ;; hbuf.step0 @s ;; sorry
  replace hv := hv.le s1.le
  replace hM := s1.lt hM
  have := S.size
  replace S := S.trans0 s1
  refine Rg.assign rfl rfl ?_
  refine Rg.nil ?_
  refine T.seq ?_
  refine T.region ?_ -- region 2
  refine Rg.alloc M1 I58 rfl (fun b2_0 w2_0 p2_0 q2_0 g2_0 s2_0 => ?_)
  obtain ⟨M_2_0, eM_2_0⟩ : ∃ M', M' = ins M1 b2_0 := ⟨_, rfl⟩
  rw [← eM_2_0] at s2_0
  have m_g2_0 : M_2_0 b2_0 := by rw [eM_2_0]; exact .inl rfl
  change w2_0.heap[b2_0]? = some (.cells #[.slice none 0 0, .slice none 0 0, .slice none 0 0, .slice none 0 0] _ _) at g2_0
  replace hv := hv.le s2_0.le
  replace hbuf := hbuf.step0 s2_0
  replace hM := s2_0.lt hM
  have := S.size
  replace S := S.trans0 s2_0
  refine Rg.nil ?_
  refine T.seq ?_
  refine T.seq ?_
  refine T.region ?_ -- region 3
  refine Rg.move rfl rfl ?_
  refine Rg.lensl Tryz.underlying37 rfl hv rfl ?_
  refine Rg.move rfl rfl ?_
  refine Rg.nil ?_
  refine T.block ?_
  refine T.loop (σ := Nat × Value × Value) (fun q => [(4, .pointer (some ⟨b1, 0, none⟩)), (5, .pointer (some ⟨b2_0, 0, none⟩)), (12, v0), (13, .int .i64 (L.length : Int)), (14, .int .i64 (q.1 : Int))]) (fun q w => ∃ M' words, Lt M' w ∧ Step M w0 M' w none' ∧ (RT.en.sl).V M' w L v0 ∧ BufE (ZP w0.heap.size b2_0 q.2.1 q.2.2) M' w w0.heap.size b1 (L.take q.1) words (lastE (-1) (L.take q.1)) ∧ w.heap[b2_0]? = some (.cells #[q.2.1, q.2.2, .slice none 0 0, .slice none 0 0] 58 (0, 0)) ∧ M' b2_0 ∧ Own (RT.int .i64) 3 M' w w0.heap.size q.2.1 ((L.take q.1).map (·.1.1)) ∧ Own (RT.int .i64) 3 M' w w0.heap.size q.2.2 ((L.take q.1).map (·.2)) ∧ Apart q.2.1 q.2.2 ∧ 0 ≤ words ∧ words ≤ 500 * (q.1 : Int) ∧ q.1 ≤ L.length) (fun q => L.length - q.1) (0, .slice none 0 0, .slice none 0 0) (.cons rfl (.cons rfl (.cons rfl (.cons rfl (.cons rfl .nil))))) ?_ ?_ -- loop 0
  · exact ⟨_, 0, hM, S, hv, hbuf.zone (Z' := ZP w0.heap.size b2_0 (.slice none 0 0) (.slice none 0 0)) (fun c hc hlt => ⟨hc.1, (fun h => by have := hc.2; omega), (fun h => by cases h), (fun h => by cases h)⟩), g2_0, m_g2_0, Own.nil _ _ _ _ _, Own.nil _ _ _ _ _, Apart.nil _, by omega, by omega, Nat.zero_le _⟩
  · clear hM S hv hbuf
    rintro ⟨i, vi, vs⟩ w ⟨M2, words, hM, S, hv, hbuf, g2, m_g2, hoi, hos, hap, hw1, hw2, hi⟩
    dsimp only at hbuf g2 hoi hos hap hw2 hi ⊢
    refine T.seq ?_
    refine T.region ?_ -- region 4
    refine Rg.ilt rfl rfl rfl ?_
    refine Rg.nil ?_
    refine T.seq ?_
    refine T.ifp rfl (fun c4 => ?_) (fun c4 => ?_)
    · -- c4 True
      refine T.skip ?_
      refine T.seq ?_
      refine T.block ?_
      refine T.seq ?_
      refine T.region ?_ -- region 5
      refine Rg.idx (M := M2) Tryz.underlying37 I43 rfl rfl rfl hv (Le.refl _ _) (by omega) (fun u5 e hg5 hu5 => ?_)
      rw [Int.toNat_natCast] at hg5
      obtain ⟨hadd0, hlast0⟩ := okL_at hok hg5
      have hem := List.mem_of_getElem? hg5
      refine Rg.loadagg (M := M2) (A := RT.en) Tryz.underlying43 rfl I43 (by decide) rfl rfl rfl hu5 (Le.refl _ _) (fun v5 hv5 => ?_)
      obtain ⟨hr1, hr2⟩ := en_rng hv5
      refine Rg.newagg (A := RT.en) (M := M2) I43 rfl rfl rfl rfl rfl (by assumption) (Le.refl _ _) hM (fun u5_2 w5_2 hu5_2 s5_2 z5_2 => ?_)
      have := lt_of_get g2
      replace m_g2 := (s5_2.mem _ this).2 m_g2
      replace g2 := s5_2.same0 g2
      replace hv := hv.le s5_2.le
      replace hoi := hoi.step0 s5_2
      replace hos := hos.step0 s5_2
      replace hbuf := hbuf.step0 s5_2
      replace hM := s5_2.lt hM
      have := S.size
      replace S := S.trans0 s5_2
      refine Rg.nil ?_
      refine T.seq ?_
      refine T.seq ?_
      refine T.region ?_ -- region 6
      refine Rg.move rfl rfl ?_
      refine Rg.loadagg (M := M2) (A := RT.en) Tryz.underlying43 rfl I43 (by decide) rfl rfl rfl hu5_2 (Le.refl _ _) (fun v6 hv6 => ?_)
      refine Rg.call rfl rfl E57 (add_spec (Z := ZP w0.heap.size b2_0 vi vs) _ hM (fun k hk => ⟨by have := S.size; omega, fun h => by have := lt_of_get g2; omega, fun h => by have := (hoi.base k h).2; omega, fun h => by have := (hos.base k h).2; omega⟩) hbuf (by have := S.size; omega) hv6 (hl e hem) (fun x hx => hF x (List.mem_of_mem_take hx)) (by simp; omega) (by omega)) (fun r6 w6 hc => ?_)
      obtain ⟨M6, hM6, s6, rfl, _, hadd⟩ := hc
      replace hbuf := hadd hadd0
      have hmany : (tlE e).length ≤ 500 := (hF e hem).many
      refine Rg.eqv (v' := .int .i64 0) (by rw [hadd0]) ?_
      replace hoi := hoi.step s6 (fun c hc h => h.1.2.2.1 hc)
      replace hos := hos.step s6 (fun c hc h => h.1.2.2.2 hc)
      replace m_g2 := (s6.mem _ (lt_of_get g2)).2 m_g2
      replace g2 := s6.keep g2 (fun h => h.1.2.1 rfl)
      replace hv := hv.le s6.le
      replace hu5_2 := hu5_2.le (by decide) s6.le
      replace S := S.transNew s6 (fun k hk => hk.1.1)
      replace hM := hM6
      rw [hlast0.symm] at hbuf
      --@M M6
      refine Rg.assign rfl rfl ?_
      refine Rg.nil ?_
      refine T.seq ?_
      refine T.region ?_ -- region 7
      refine Rg.move rfl rfl ?_
      refine Rg.ine rfl rfl rfl ?_
      refine Rg.nil ?_
      refine T.iffp rfl ((fun h => h rfl)) ?_
      refine T.skip ?_
      have g2p := g2
      have m_g2p := m_g2
      have hvp := hv
      have hbufp := hbuf
      have hoip := hoi
      have hosp := hos
      have hMp := hM
      have Sp := S
      obtain ⟨P6, hP6⟩ : ∃ P6 : Value → World → Prop, P6 = fun v w' => Own (RT.int .i64) 3 (blkM v) w' w0.heap.size v ((L.take i).map (·.1.1) ++ [e.1.1]) ∧ (∀ c, v.ownBlock = some c → w6.heap.size ≤ c ∨ vi.ownBlock = some c) := ⟨_, rfl⟩
      have h6 : ∀ {v : Value} {w w' : World}, P6 v w → Step M6 w M6 w' none' → P6 v w' := fun {v w w'} h s => by rw [hP6] at h ⊢; exact ⟨h.1.keepL s (fun _ _ h => h), h.2⟩
      apply T.drawR (M := M6) [0, 1, 2, 3, 4, 5, 6, 7, 8, 9, 10, 11, 13, 12, 14, 15, 16] 13 12 37 (.pointer (some ⟨b2_0, 0, none⟩)) [(6, blk vi)] [Asr.eq (.pointer (some ⟨b2_0, 0, none⟩)), Asr.eq vi, Asr.ptr RT.dc e.1, Asr.ptr (RT.int .i64) e.1.1, Asr.eq (.int .i64 e.1.1), Asr.V ((RT.int .i64).sl) [e.1.1], (Asr.mk' (fun v w => P6 v w) (fun h s => h6 h s)), Asr.eq (.pointer (some ⟨b2_0, 1, none⟩)), Asr.eq vs, Asr.ptr (RT.int .i64) e.2, Asr.eq (.int .i64 e.2), Asr.V ((RT.int .i64).sl) [e.2], Asr.eq (.pointer (some ⟨b2_0, 0, none⟩))] mixed -- region 9
      · simp +decide only [ren, renO, List.map_cons, List.map_nil, List.getD_cons_zero, List.getD_cons_succ, List.map_toArray, Option.map_some, Option.map_none, List.idxOf_cons, cond_true, cond_false, Nat.reduceBEq, Nat.reduceAdd, beq_self_eq_true]; rfl
      · rfl
      · rfl
      · rfl
      · rfl
      · rfl
      · rfl
      · rfl
      · rfl
      · rfl
      · rfl
      · rfl
      · exact fun ρ w h => run_fieldc (size := 1) (o := 0) (o' := 0) Tryz.underlying58 rfl rfl I32 (by decide) (h (.tmp 5) _ rfl) w
      · intro p hp b hb
        simp only [List.mem_cons, List.not_mem_nil, or_false] at hp
        subst hp
        exact hoi.mut_ b hb
      · exact fun p hp => by
          simp only [List.mem_cons, List.not_mem_nil, or_false] at hp
          subst hp
          show (6 : Nat) ≠ 12
          decide
      · exact UOk.st (by exact ⟨fun _ _ _ _ => trivial, ⟨fun _ _ _ _ => trivial, ⟨fun _ _ _ _ => trivial, ⟨fun _ _ _ _ => trivial, ⟨fun _ _ _ _ => trivial, ⟨fun _ _ _ _ => trivial, ⟨fun p hp b hb => (by simp at hp), ⟨fun _ _ _ _ => trivial, ⟨fun _ _ _ _ => trivial, ⟨fun _ _ _ _ => trivial, ⟨fun _ _ _ _ => trivial, ⟨fun _ _ _ _ => trivial, ⟨fun _ _ _ _ => trivial, trivial⟩⟩⟩⟩⟩⟩⟩⟩⟩⟩⟩⟩⟩)
      intro wR9 sA9
      have sR9 := sA9 M6
      have := lt_of_get g2
      replace m_g2 := (sR9.mem _ this).2 m_g2
      replace g2 := sR9.same0 g2
      replace hv := hv.le sR9.le
      replace hu5_2 := hu5_2.le (by decide) sR9.le
      replace hoi := hoi.step0 sR9
      replace hos := hos.step0 sR9
      replace hbuf := hbuf.step0 sR9
      replace hM := sR9.lt hM
      have := S.size
      replace S := S.trans0 sR9
      have g2R := g2
      have hoiR := hoi
      have hosR := hos
      have hz6 := sR9.size
      refine ⟨?_, ?_⟩
      · -- its operations
        refine OblsS.cons ?_ ?_
        · intro wD E sD -- 0
          replace sD : Step M6 _ M6 wD (blk vi) := sD
          refine Rg.fieldc (o' := 0) Tryz.underlying58 rfl rfl I32 (by decide) rfl rfl ?_
          exact Rg.nil ⟨rfl, rfl, _, rfl, rfl, Step.refl _ _⟩
        refine OblsS.cons ?_ ?_
        · intro wD E sD -- 1
          replace sD : Step M6 _ M6 wD none' := sD
          intro x_ hx_; have hx_ : x_ = _ := hx_; subst x_
          refine Rg.loadc Tryz.underlying32 rfl rfl rfl (sD.same0 g2R) rfl ?_
          exact Rg.nil ⟨rfl, rfl, _, rfl, rfl, Step.refl _ _⟩
        refine OblsS.cons ?_ ?_
        · intro wD E sD -- 2
          replace sD : Step M6 _ M6 wD (blk vi) := sD
          refine Rg.fieldAddr (M := M6) (A := RT.en) (B := RT.dc) Tryz.underlying43 rfl rfl I41 (by decide) en0 rfl rfl (by decide) hu5_2 sD.le (fun uf huf => ?_)
          exact Rg.nil ⟨rfl, rfl, _, rfl, huf, Step.refl _ _⟩
        refine OblsS.cons ?_ ?_
        · intro wD E sD -- 3
          replace sD : Step M6 _ M6 wD (blk vi) := sD
          intro v2 hv2
          refine Rg.fieldAddr (M := M6) (A := RT.dc) (B := RT.int .i64) Tryz.underlying41 rfl rfl I3 (by decide) dc0 rfl rfl (by decide) (show PtrTo RT.dc M6 wD v2 e.1 from hv2) (Le.refl _ _) (fun uf huf => ?_)
          exact Rg.nil ⟨rfl, rfl, _, rfl, huf, Step.refl _ _⟩
        refine OblsS.cons ?_ ?_
        · intro wD E sD -- 4
          replace sD : Step M6 _ M6 wD (blk vi) := sD
          intro v3 hv3
          refine Rg.loadi64 (M := M6) Tryz.underlying3 rfl rfl (show PtrTo (RT.int .i64) M6 wD v3 e.1.1 from hv3) (Le.refl _ _) (fun hin => ?_)
          exact Rg.nil ⟨rfl, rfl, _, rfl, rfl, Step.refl _ _⟩
        refine OblsS.cons ?_ ?_
        · intro wD E sD -- 5
          replace sD : Step M6 _ M6 wD none' := sD
          intro x_ hx_; have hx_ : x_ = _ := hx_; subst x_
          refine Rg.sl1 (A := RT.int .i64) (hn := by decide) (M := M6) Tryz.underlying32 I3 (by decide) rfl rfl (sD.lt hM) (V_i64 hr1) (.inr ⟨rfl, rfl⟩) (fun uS wS hS sS => ?_)
          exact Rg.nil ⟨rfl, rfl, _, rfl, hS, sS⟩
        refine OblsS.cons ?_ ?_
        · intro wD E sD -- 6
          replace sD : Step M6 _ M6 wD none' := sD
          intro x_ hx_; have hx_ : x_ = _ := hx_; subst x_
          intro v5 hv5
          replace sD : Step M6 wR9 M6 wD none' := sD
          refine Rg.appendF (M := M6) (base := w0.heap.size) Tryz.underlying32 I3 rfl rfl rfl rfl (hoiR.step0 sD) (show ((RT.int .i64).sl).V M6 wD [e.1.1] v5 from hv5) (Le.refl _ _) (by simp; omega) (by simp; omega) (by have := sD.size; have := S.size; omega) (fun vA wA hoA sA hFA => ?_)
          exact Rg.nil ⟨rfl, rfl, _, rfl, by show P6 vA wA; rw [hP6]; exact ⟨hoA.lone, fun c hc => (hFA c hc).elim (fun h => .inl (by have := sD.size; omega)) .inr⟩, sA.back⟩
        refine OblsS.cons ?_ ?_
        · intro wD E sD -- 7
          replace sD : Step M6 _ M6 wD (blk vi) := sD
          refine Rg.fieldc (o' := 1) Tryz.underlying58 rfl rfl I32 (by decide) rfl rfl ?_
          exact Rg.nil ⟨rfl, rfl, _, rfl, rfl, Step.refl _ _⟩
        refine OblsS.cons ?_ ?_
        · intro wD E sD -- 8
          replace sD : Step M6 _ M6 wD (blk vi) := sD
          intro x_ hx_; have hx_ : x_ = _ := hx_; subst x_
          refine Rg.loadc Tryz.underlying32 rfl rfl rfl (sD.keep g2R (fun h => hoiR.neT g2R (by decide) h)) rfl ?_
          exact Rg.nil ⟨rfl, rfl, _, rfl, rfl, Step.refl _ _⟩
        refine OblsS.cons ?_ ?_
        · intro wD E sD -- 9
          replace sD : Step M6 _ M6 wD (blk vi) := sD
          refine Rg.fieldAddr (M := M6) (A := RT.en) (B := RT.int .i64) Tryz.underlying43 rfl rfl I3 (by decide) en1 rfl rfl (by decide) hu5_2 sD.le (fun uf huf => ?_)
          exact Rg.nil ⟨rfl, rfl, _, rfl, huf, Step.refl _ _⟩
        refine OblsS.cons ?_ ?_
        · intro wD E sD -- 10
          replace sD : Step M6 _ M6 wD (blk vi) := sD
          intro v9 hv9
          refine Rg.loadi64 (M := M6) Tryz.underlying3 rfl rfl (show PtrTo (RT.int .i64) M6 wD v9 e.2 from hv9) (Le.refl _ _) (fun hin => ?_)
          exact Rg.nil ⟨rfl, rfl, _, rfl, rfl, Step.refl _ _⟩
        refine OblsS.cons ?_ ?_
        · intro wD E sD -- 11
          replace sD : Step M6 _ M6 wD (blk vi) := sD
          intro x_ hx_; have hx_ : x_ = _ := hx_; subst x_
          refine Rg.sl1 (A := RT.int .i64) (hn := by decide) (M := M6) Tryz.underlying32 I3 (by decide) rfl rfl (sD.lt hM) (V_i64 hr2) (.inr ⟨rfl, rfl⟩) (fun uS wS hS sS => ?_)
          exact Rg.nil ⟨rfl, rfl, _, rfl, hS, sS⟩
        refine OblsS.cons ?_ ?_
        · intro wD E sD -- 12
          replace sD : Step M6 _ M6 wD (blk vi) := sD
          intro x_ hx_; have hx_ : x_ = _ := hx_; subst x_
          intro x_ hx_; have hx_ : x_ = _ := hx_; subst x_
          intro v2 hv2
          intro v3 hv3
          intro x_ hx_; have hx_ : x_ = _ := hx_; subst x_
          intro v5 hv5
          intro v6 hv6
          intro x_ hx_; have hx_ : x_ = _ := hx_; subst x_
          intro x_ hx_; have hx_ : x_ = _ := hx_; subst x_
          refine Rg.fieldc (o' := 0) Tryz.underlying58 rfl rfl I32 (by decide) rfl rfl ?_
          exact Rg.nil ⟨rfl, rfl, _, rfl, rfl, Step.refl _ _⟩
        exact OblsS.nil
      · -- behind it
        intro wD9 sD9
        replace sD9 : Step M6 _ M6 wD9 (blk vi) := sD9
        intro x_ hx_; have hx_ : x_ = _ := hx_; subst x_
        intro x_ hx_; have hx_ : x_ = _ := hx_; subst x_
        intro v9_2 hv9_2
        intro v9_3 hv9_3
        intro x_ hx_; have hx_ : x_ = _ := hx_; subst x_
        intro v9_5 hv9_5
        intro v9_6 hv9_6
        intro x_ hx_; have hx_ : x_ = _ := hx_; subst x_
        intro x_ hx_; have hx_ : x_ = _ := hx_; subst x_
        intro v9_9 hv9_9
        intro x_ hx_; have hx_ : x_ = _ := hx_; subst x_
        intro v9_11 hv9_11
        intro x_ hx_; have hx_ : x_ = _ := hx_; subst x_
        replace hv9_6 : P6 v9_6 wD9 := hv9_6
        rw [hP6] at hv9_6
        obtain ⟨ho6, hb9⟩ := hv9_6
        replace hv9_11 : ((RT.int .i64).sl).V M6 wD9 [e.2] v9_11 := hv9_11
        have sX : Step M6 w6 M6 wD9 (blk vi) := (sR9.widen (fun _ h => h.elim) (fun b h => hoip.mut_ b h)).trans sD9 (fun b _ h => h)
        have hos9 := hosp.step sX (fun c hc h => hap c h hc)
        refine Rg.appendF (M := M6) (base := w0.heap.size) Tryz.underlying32 I3 rfl rfl rfl rfl hos9 hv9_11 (Le.refl _ _) (by simp; omega) (by simp; omega) (by have := Sp.size; have := sX.size; omega) (fun v12 w12 ho12 s12 hF12 => ?_)
        have hap6 : ∀ c, v9_6.ownBlock = some c → vs.ownBlock ≠ some c := fun c hc hv => by
          rcases hb9 c hc with h | h
          · have := (hosp.base c hv).2; omega
          · exact hap c h hv
        have ho6' := ho6.keepL s12 (fun c hc h => hap6 c hc h)
        have hap12 : Apart v12 v9_6 := fun c hc hc6 => by
          rcases hF12 c hc with h | h
          · have := (ho6.base c hc6).2; omega
          · exact hap6 c hc6 h
        have hb12 : ∀ c, v12.ownBlock = some c → w6.heap.size ≤ c ∨ vs.ownBlock = some c := fun c hc => (hF12 c hc).elim (fun h => .inl (by have := sX.size; omega)) .inr
        have sZ : Step M6 w6 (insV M6 v12) w12 (fun k => blk vi k ∨ blk vs k) := (sX.widen (fun _ h => .inl h) (fun b h => h.elim (hoip.mut_ b) (hosp.mut_ b))).trans s12 (fun b _ h => .inr h)
        obtain ⟨M12, eM12⟩ : ∃ M', M' = insV (insV M6 v12) v9_6 := ⟨_, rfl⟩
        have sW : Step M6 w6 M12 w12 (fun k => blk vi k ∨ blk vs k) := by rw [eM12]; exact sZ.addV (fun c hc => ⟨(ho6'.base c hc).2, (hb9 c hc).elim .inl (fun h => .inr (.inr (hoip.mut_ c h)))⟩)
        have hoi := ho6'.alli (M' := M12) (by rw [eM12]; exact fun b hb => .inl hb)
        have hos := ho12.alli (M' := M12) (by rw [eM12]; exact fun b hb => .inr (.inl hb))
        have m_g2 := (sW.mem _ (lt_of_get g2p)).2 m_g2p
        have g2 := sW.keep g2p (fun h => h.elim (hoip.neT g2p (by decide)) (hosp.neT g2p (by decide)))
        have hbuf := ((hbufp.zone (Z' := fun k => ZP w0.heap.size b2_0 vi vs k ∧ ZP w0.heap.size b2_0 v9_6 v12 k) (fun c hc hlt => ⟨hc, hc.1, hc.2.1, fun h => (hb9 c h).elim (fun h => by omega) hc.2.2.1, fun h => (hb12 c h).elim (fun h => by omega) hc.2.2.2⟩)).step sW (fun k hk hz => hk.elim hz.1.2.2.1 hz.1.2.2.2)).zone (Z' := ZP w0.heap.size b2_0 v9_6 v12) (fun c hc _ => hc.2)
        have hv := hvp.le sW.le
        have S := Sp.transNew sW (fun k hk => hk.elim (fun h => (hoip.base k h).1) (fun h => (hosp.base k h).1))
        have hM := sW.lt hMp
        --@M M12
        refine Rg.nil ⟨rfl, rfl, fun h => absurd rfl h, ?_⟩
        refine Rg.storec (M := M12) I32 rfl rfl g2 rfl (by obtain ⟨_, _, he, _⟩ := hoi.isSlice; rw [he]; rfl) m_g2 (fun w14 g14 s14 => ?_)
        replace g14 : w14.heap[b2_0]? = some (.cells #[v9_6, vs, .slice none 0 0, .slice none 0 0] 58 (0, 0)) := g14
        replace hoi := hoi.step s14 (fun c hc (h : c = b2_0) => hoi.neT g2 (by decide) (h ▸ hc))
        replace hos := hos.step s14 (fun c hc (h : c = b2_0) => hos.neT g2 (by decide) (h ▸ hc))
        replace m_g2 := (s14.mem _ (lt_of_get g2)).2 m_g2
        replace hbuf := hbuf.step s14 (fun k (hk : k = b2_0) hz => hz.2.1 hk)
        replace hv := hv.le s14.le
        replace S := S.transNew s14 (fun k (hk : k = b2_0) => by rw [hk]; omega)
        replace hM := s14.lt hM
        clear g2
        have g2 := g14
        refine Rg.nil ⟨rfl, rfl, fun h => absurd rfl h, ?_⟩
        refine Rg.fieldc (o' := 1) Tryz.underlying58 rfl rfl I32 (by decide) rfl rfl ?_
        refine Rg.nil ⟨rfl, rfl, fun h => absurd rfl h, ?_⟩
        refine Rg.storec (M := M12) I32 rfl rfl g2 rfl (by obtain ⟨_, _, he, _⟩ := hos.isSlice; rw [he]; rfl) m_g2 (fun w16 g16 s16 => ?_)
        replace g16 : w16.heap[b2_0]? = some (.cells #[v9_6, v12, .slice none 0 0, .slice none 0 0] 58 (0, 0)) := g16
        replace hoi := hoi.step s16 (fun c hc (h : c = b2_0) => hoi.neT g2 (by decide) (h ▸ hc))
        replace hos := hos.step s16 (fun c hc (h : c = b2_0) => hos.neT g2 (by decide) (h ▸ hc))
        replace m_g2 := (s16.mem _ (lt_of_get g2)).2 m_g2
        replace hbuf := hbuf.step s16 (fun k (hk : k = b2_0) hz => hz.2.1 hk)
        replace hv := hv.le s16.le
        replace S := S.transNew s16 (fun k (hk : k = b2_0) => by rw [hk]; omega)
        replace hM := s16.lt hM
        clear g2
        have g2 := g16
        refine Rg.nil ⟨rfl, rfl, fun h => absurd rfl h, ?_⟩
        refine TRg.nil ?_
        refine T.region ?_ -- region 10
        refine Rg.iadd rfl rfl rfl (by omega) ?_
        refine Rg.move rfl rfl ?_
        refine Rg.nil ?_
        have et : L.take (i + 1) = L.take i ++ [e] := by rw [List.take_add_one, hg5, Option.toList_some]
        rw [et] at hbuf
        refine ⟨rfl, (i + 1, v9_6, v12), (.cons rfl (.cons rfl (.cons rfl (.cons rfl (.cons rfl .nil))))), ?_, ?_⟩
        · exact ⟨_, _, hM, S, hv, by rw [et]; exact hbuf, g2, m_g2, by rw [et, List.map_append]; exact hoi, by rw [et, List.map_append]; exact hos, hap12.symm, by omega, by dsimp only; omega, by dsimp only; omega⟩
        · dsimp only; omega
    · -- c4 False
      refine T.exit ?_
      refine T.seq ?_
      refine T.region ?_ -- region 11
      have hLi : L.take i = L := List.take_of_length_le (by omega)
      rw [hLi] at hbuf hoi hos
      refine Rg.move rfl rfl ?_
      refine Rg.call rfl rfl E58 (bkeys_spec _ hM hbuf hF (by omega)) (fun rk w11 hc => ?_)
      obtain ⟨hrk, s11⟩ := hc --@step s11
      --@vf hrk
      have := lt_of_get g2
      replace m_g2 := (s11.mem _ this).2 m_g2
      replace g2 := s11.same0 g2
      replace hv := hv.le s11.le
      replace hoi := hoi.step0 s11
      replace hos := hos.step0 s11
      replace hbuf := hbuf.step0 s11
      replace hM := s11.lt hM
      have := S.size
      replace S := S.trans0 s11
      refine Rg.fieldc (o' := 2) Tryz.underlying58 rfl rfl I55 (by decide) rfl rfl ?_
      refine Rg.storec (M := M2) I55 rfl rfl g2 rfl (V_one hrk rfl rfl) m_g2 (fun w11_3 g11_3 s11_3 => ?_)
      change w11_3.heap[_]? = some (Obj.cells #[vi, vs, rk, .slice none 0 0] _ _) at g11_3
      have := lt_of_get g2
      replace m_g2 := (s11_3.mem _ this).2 m_g2
      replace hv := hv.le s11_3.le
      replace hrk := hrk.le s11_3.le
      replace hoi := hoi.step s11_3 (fun c hc (h : c = b2_0) => hoi.neT g2 (by decide) (h ▸ hc))
      replace hos := hos.step s11_3 (fun c hc (h : c = b2_0) => hos.neT g2 (by decide) (h ▸ hc))
      replace hbuf := hbuf.stepT s11_3 (by first | exact fun k hk => by (obtain ⟨cs, hc⟩ := hol.isCells hk; exact ⟨cs, _, hc, by decide, by decide, by decide⟩) | exact fun k (hk : k = b2_0) => ⟨_, _, hk ▸ g2, by decide, by decide, by decide⟩)
      replace hM := s11_3.lt hM
      have := S.size
      replace S := S.trans s11_3 (fun k hk h => by have h : _ = _ := h; subst h; first | (exfalso; omega) | (show _ ≤ _; omega) | exact ⟨by first | omega | assumption, (S.mem _ hk).1 ((s11_3.mem _ (lt_of_get g2)).1 m_g2)⟩ | exact .inl rfl | exact .inr rfl | exact .inr (.inl rfl) | exact .inr (.inr rfl) | exact rfl)
      have g2_ := g11_3
      clear g2
      have g2 := g2_
      clear g2_
      refine Rg.nil ?_
      refine T.seq ?_
      refine T.seq ?_
      refine T.region ?_ -- region 12
      refine Rg.fieldc (o' := 2) Tryz.underlying58 rfl rfl I55 (by decide) rfl rfl ?_
      refine Rg.loadc Tryz.underlying55 rfl rfl rfl g2 rfl ?_
      refine Rg.eqv (v' := rk) rfl ?_
      refine Rg.lensl Tryz.underlying55 rfl hrk rfl ?_
      refine Rg.move rfl rfl ?_
      refine Rg.nil ?_
      refine T.block ?_
      refine T.loop (σ := Nat × Value) (fun q => [(4, .pointer (some ⟨b1, 0, none⟩)), (5, .pointer (some ⟨b2_0, 0, none⟩)), (44, rk), (45, .int .i64 ((keysOf L).length : Int)), (46, .int .i64 (q.1 : Int))]) (fun q w => ∃ M', Lt M' w ∧ Step M w0 M' w none' ∧ BufE (ZP w0.heap.size b2_0 vi vs) M' w w0.heap.size b1 L words (lastE (-1) L) ∧ w.heap[b2_0]? = some (.cells #[vi, vs, rk, q.2] 58 (0, 0)) ∧ M' b2_0 ∧ Own (RT.int .i64) 3 M' w w0.heap.size vi (L.map (·.1.1)) ∧ Own (RT.int .i64) 3 M' w w0.heap.size vs (L.map (·.2)) ∧ Own ((RT.po).sl) 107 M' w w0.heap.size q.2 (((keysOf L).take q.1).map (pk L)) ∧ (RT.str.sl).V M' w (keysOf L) rk ∧ q.1 ≤ (keysOf L).length) (fun q => (keysOf L).length - q.1) (0, .slice none 0 0) (.cons rfl (.cons rfl (.cons rfl (.cons rfl (.cons rfl .nil))))) ?_ ?_ -- loop 1
      · exact ⟨_, hM, S, hbuf, g2, m_g2, hoi, hos, Own.nil _ _ _ _ _, hrk, Nat.zero_le _⟩
      · clear hM S hbuf g2 m_g2 hoi hos hrk hv
        rintro ⟨i3, vl⟩ w ⟨M3, hM, S, hbuf, g2, m_g2, hoi, hos, hol, hrk, hi3⟩
        dsimp only at g2 hol hi3 ⊢
        refine T.seq ?_
        refine T.region ?_ -- region 13
        refine Rg.ilt rfl rfl rfl ?_
        refine Rg.nil ?_
        refine T.seq ?_
        refine T.ifp rfl (fun c13 => ?_) (fun c13 => ?_)
        · -- c13 True
          refine T.skip ?_
          refine T.seq ?_
          refine T.block ?_
          refine T.seq ?_
          refine T.region ?_ -- region 14
          refine Rg.idx (M := M3) Tryz.underlying55 I9 rfl rfl rfl hrk (Le.refl _ _) (by omega) (fun u14 k hg14 hu14 => ?_)
          rw [Int.toNat_natCast] at hg14
          refine Rg.load (M := M3) Tryz.underlying9 rfl rfl rfl rfl rfl hu14 (Le.refl _ _) (fun vk hvk => ?_)
          obtain rfl := V_strE hvk
          refine Rg.assign rfl rfl ?_
          refine Rg.nil ?_
          apply T.drawF 4 [0, 1] 2 none' mixed rfl rfl rfl rfl -- region 15
          intro wD15 sA15
          have sD15 := sA15 M3
          have := lt_of_get g2
          replace m_g2 := (sD15.mem _ this).2 m_g2
          replace g2 := sD15.same0 g2
          replace hrk := hrk.le sD15.le
          replace hoi := hoi.step0 sD15
          replace hos := hos.step0 sD15
          replace hol := hol.step0 sD15
          replace hbuf := hbuf.step0 sD15
          replace hM := sD15.lt hM
          have := S.size
          replace S := S.trans0 sD15
          refine Rg.fieldc (o' := 3) Tryz.underlying58 rfl rfl I56 (by decide) rfl rfl ?_
          refine Rg.nil ⟨rfl, rfl, rfl, ?_⟩
          refine Rg.loadc Tryz.underlying56 rfl rfl rfl (by first | assumption | exact Step.same0 sD15 (by assumption)) rfl ?_
          refine Rg.nil ⟨rfl, rfl, rfl, ?_⟩
          refine Rg.move rfl rfl ?_
          refine Rg.nil ⟨rfl, rfl, rfl, ?_⟩
          refine Rg.move rfl rfl ?_
          refine Rg.nil ⟨rfl, rfl, rfl, ?_⟩
          refine QRg.nil ?_
          refine ⟨Floats.all ⟨FloatOk.field Tryz.underlying58 rfl I56 (by decide), ⟨FloatOk.load rfl g2 (fun h => h), trivial⟩⟩, ?_⟩
          have kp := Keep.refl none' wD15
          refine Rg.call rfl rfl E59 (bpost_spec (k := k) _ hM hbuf hF (by omega) (by have := hks k (List.mem_of_getElem? hg14); omega)) (fun r15 w15 hc => ?_)
          obtain ⟨hpo, s15⟩ := hc --@step s15
          --@vf hpo
          have := lt_of_get g2
          replace m_g2 := (s15.mem _ this).2 m_g2
          replace g2 := s15.same0 g2
          replace hrk := hrk.le s15.le
          replace hoi := hoi.step0 s15
          replace hos := hos.step0 s15
          replace hol := hol.step0 s15
          replace hbuf := hbuf.step0 s15
          replace hM := s15.lt hM
          have := S.size
          replace S := S.trans0 s15
          refine (fun (kp : Keep _ _ _) => Rg.nil ⟨rfl, rfl, fun _ => kp, ?_⟩) (by first | exact kp | exact kp.go0 (by assumption) | exact kp.goN (by assumption) | exact kp.go (by assumption) (fun _ _ h => by first | exact h | exact h.elim))
          refine Rg.sl1 (A := ((RT.po).sl)) (hn := by decide) (M := M3) Tryz.underlying56 I107 (by decide) rfl rfl hM (hpo) (.inr ⟨rfl, rfl⟩) (fun u15_5 w15_5 hu15_5 s15_5 => ?_)
          have := lt_of_get g2
          replace m_g2 := (s15_5.mem _ this).2 m_g2
          replace g2 := s15_5.same0 g2
          replace hrk := hrk.le s15_5.le
          replace hpo := hpo.le s15_5.le
          replace hoi := hoi.step0 s15_5
          replace hos := hos.step0 s15_5
          replace hol := hol.step0 s15_5
          replace hbuf := hbuf.step0 s15_5
          replace hM := s15_5.lt hM
          have := S.size
          replace S := S.trans0 s15_5
          refine (fun (kp : Keep _ _ _) => Rg.nil ⟨rfl, rfl, fun _ => kp, ?_⟩) (by first | exact kp | exact kp.go0 (by assumption) | exact kp.goN (by assumption) | exact kp.go (by assumption) (fun _ _ h => by first | exact h | exact h.elim))
          refine Rg.append (M := M3) (base := w0.heap.size) Tryz.underlying56 I107 rfl rfl rfl rfl hol hu15_5 (Le.refl _ _) (by simp; omega) (by simp; omega) (S.size) (fun u15_6 M15_6 w15_6 ho15_6 s15_6 => ?_)
          have := lt_of_get g2
          replace m_g2 := (s15_6.mem _ this).2 m_g2
          replace g2 := s15_6.keep g2 (fun h => by first | exact hol.notIter g2 h | exact hol.neT g2 (by decide) h | (have := (hol.base _ h).1; omega))
          replace hrk := hrk.le s15_6.le
          replace hpo := hpo.le s15_6.le
          replace hu15_5 := hu15_5.le s15_6.le
          replace hoi := hoi.step s15_6 (fun b h1 h2 => hoi.apartT hol (by decide) h1 h2)
          replace hos := hos.step s15_6 (fun b h1 h2 => hos.apartT hol (by decide) h1 h2)
          replace hbuf := hbuf.stepT s15_6 (by first | exact fun k hk => by (obtain ⟨cs, hc⟩ := hol.isCells hk; exact ⟨cs, _, hc, by decide, by decide, by decide⟩) | exact fun k (hk : k = b2_0) => ⟨_, _, hk ▸ g2, by decide, by decide, by decide⟩)
          replace hM := s15_6.lt hM
          have := S.size
          replace S := S.transBlk s15_6 hol (Nat.le_refl _)
          replace hol := ho15_6
          refine Rg.nil ⟨rfl, rfl, fun h => absurd rfl h, ?_⟩
          refine Rg.fieldc (o' := 3) Tryz.underlying58 rfl rfl I56 (by decide) rfl rfl ?_
          refine Rg.nil ⟨rfl, rfl, fun h => absurd rfl h, ?_⟩
          refine Rg.storec (M := M15_6) I56 rfl rfl g2 rfl (by obtain ⟨_, _, he, _⟩ := hol.isSlice; rw [he]; rfl) m_g2 (fun w15_8 g15_8 s15_8 => ?_)
          change w15_8.heap[_]? = some (Obj.cells #[vi, vs, rk, u15_6] _ _) at g15_8
          have := lt_of_get g2
          replace m_g2 := (s15_8.mem _ this).2 m_g2
          replace hrk := hrk.le s15_8.le
          replace hpo := hpo.le s15_8.le
          replace hu15_5 := hu15_5.le s15_8.le
          replace hoi := hoi.step s15_8 (fun c hc (h : c = b2_0) => hoi.neT g2 (by decide) (h ▸ hc))
          replace hos := hos.step s15_8 (fun c hc (h : c = b2_0) => hos.neT g2 (by decide) (h ▸ hc))
          replace hol := hol.step s15_8 (fun c hc (h : c = b2_0) => hol.neT g2 (by decide) (h ▸ hc))
          replace hbuf := hbuf.stepT s15_8 (by first | exact fun k hk => by (obtain ⟨cs, hc⟩ := hol.isCells hk; exact ⟨cs, _, hc, by decide, by decide, by decide⟩) | exact fun k (hk : k = b2_0) => ⟨_, _, hk ▸ g2, by decide, by decide, by decide⟩)
          replace hM := s15_8.lt hM
          have := S.size
          replace S := S.trans s15_8 (fun k hk h => by have h : _ = _ := h; subst h; first | (exfalso; omega) | (show _ ≤ _; omega) | exact ⟨by first | omega | assumption, (S.mem _ hk).1 ((s15_8.mem _ (lt_of_get g2)).1 m_g2)⟩ | exact .inl rfl | exact .inr rfl | exact .inr (.inl rfl) | exact .inr (.inr rfl) | exact rfl)
          have g2_ := g15_8
          clear g2
          have g2 := g2_
          clear g2_
          refine Rg.nil ⟨rfl, rfl, fun h => absurd rfl h, ?_⟩
          refine TRg.nil ?_
          refine T.region ?_ -- region 16
          refine Rg.iadd rfl rfl rfl (by omega) ?_
          refine Rg.move rfl rfl ?_
          refine Rg.nil ?_
          refine ⟨rfl, (i3 + 1, u15_6), (.cons rfl (.cons rfl (.cons rfl (.cons rfl (.cons rfl .nil))))), ?_, ?_⟩
          · exact ⟨_, hM, S, hbuf, g2, m_g2, hoi, hos, by rw [List.take_add_one, hg14, Option.toList_some, List.map_append]; exact hol, hrk, by dsimp only; omega⟩
          · dsimp only; omega
        · -- c13 False
          refine T.exit ?_
          refine T.seq ?_
          refine T.region ?_ -- region 17
          refine Rg.loadaggc (vs := [vi, vs, rk, vl]) Tryz.underlying58 rfl I58 rfl rfl rfl g2 ?_
          rw [List.take_of_length_le (by omega)] at hol
          have hpa : RT.pa.V M _ (paOf L) _ := V_pa (x := paOf L) (hoi.close hM0 S (by show (L.map _).length ≤ _; rw [List.length_map]; omega)) (hos.close hM0 S (by show (L.map _).length ≤ _; rw [List.length_map]; omega)) (hrk.le (Le.close hM0 S)) (hol.close hM0 S (by show ((keysOf L).map _).length ≤ _; rw [List.length_map]; omega))
          replace S := S.back
          replace hM := S.lt hM0
          refine Rg.call rfl rfl E27 (smake_spec (p := paOf L) _ hM hpa (room_pa hF (by omega))) (fun r17 w17 hc => ?_)
          obtain ⟨s17, hok17, _⟩ := hc
          obtain ⟨sg, rfl, hsg⟩ := hok17 (okP_of hok (by omega))
          replace S := S.trans0 s17
          refine Rg.extract rfl rfl rfl ?_
          refine Rg.extract rfl rfl rfl ?_
          refine Rg.assign rfl rfl ?_
          refine Rg.assign rfl rfl ?_
          refine Rg.nil ?_
          refine T.ret ?_
          exact Kret2 rfl rfl rfl ⟨sg, rfl, hsg, S⟩
end Go.K
namespace Go.K
open Go.Proofs
namespace TKSegF
theorem B127 : placesOf Tryz.prog 127 = [(0, 1), (1, 1)].map some := by kernel_rfl
theorem E15 : Enters Tryz.prog 15 := enters Tryz.func15 rfl (by decide) -- concordance/segment.Build
theorem E25 : Enters Tryz.prog 25 := enters Tryz.func25 rfl (by decide) -- (*concordance/segment.Segment).Count
theorem E67 : Enters Tryz.prog 67 := enters Tryz.func67 rfl (by decide) -- (*concordance/segment.Segment).Len
theorem E68 : Enters Tryz.prog 68 := enters Tryz.func68 rfl (by decide) -- (*concordance/segment.Segment).Keys
theorem E69 : Enters Tryz.prog 69 := enters Tryz.func69 rfl (by decide) -- (*concordance/segment.Segment).Id
theorem E70 : Enters Tryz.prog 70 := enters Tryz.func70 rfl (by decide) -- (*concordance/segment.Segment).Seq
end TKSegF
open TKSegF
set_option linter.unusedVariables false
set_option linter.unusedSimpArgs false
set_option maxRecDepth 10000
theorem goodF_may {id : Int} : ∀ (fs : List Fd) (i : Nat) (out : List Fd), mayD (id, out) = 0 → mayD (id, goodF id i out fs) = 0
  | [], _, _, h => h
  | x :: fs, i, out, h => by
    unfold goodF
    split
    · split
      · rename_i h1; exact goodF_may fs _ _ h1
      · exact goodF_may fs _ _ h
    · exact h
theorem goodF_smallF {id : Int} : ∀ (fs : List Fd) (i : Nat) (out : List Fd), SmallF out → SmallF (goodF id i out fs)
  | [], _, _, h => h
  | x :: fs, i, out, h => by
    unfold goodF
    split
    · rename_i hi
      split
      · exact goodF_smallF fs _ _ (h.snoc (fixF_small x hi))
      · exact goodF_smallF fs _ _ h
    · exact h
theorem goodD_may (d : Dc) : mayD (goodD d) = 0 := goodF_may d.2 0 [] rfl
theorem goodD_small (d : Dc) : SmallF (goodD d).2 := goodF_smallF d.2 0 [] (fun x h => by cases h)
theorem okL_snoc {e : En} : ∀ {L : List En} {last : Int}, okL last (L ++ [e]) = (okL last L && decide (addE (lastE last L) e = 0))
  | [], last => by show (decide (addE last e = 0) && true) = (true && decide (addE last e = 0)); rw [Bool.and_true, Bool.true_and]
  | x :: L, last => by rw [List.cons_append]; show (decide (addE last x = 0) && okL x.2 (L ++ [e])) = (decide (addE last x = 0) && okL x.2 L && decide (addE (lastE x.2 L) e = 0)); rw [okL_snoc (L := L), Bool.and_assoc]
theorem lastE_snoc {e : En} : ∀ {L : List En} {last : Int}, lastE last (L ++ [e]) = e.2
  | [], _ => rfl
  | x :: L, last => by simp only [List.cons_append, lastE]; exact lastE_snoc
theorem goodE_ok (l : List Dc) {a s : Int} (ha : 0 ≤ a) (hs : 1 ≤ s) : ∀ k, okL (-1) (goodE l a s k) = true ∧ lastE (-1) (goodE l a s k) < a + s * (k : Int)
  | 0 => ⟨rfl, by show (-1 : Int) < _; simp; omega⟩
  | k + 1 => by
    obtain ⟨h1, h2⟩ := goodE_ok l ha hs k
    have e1 : a + s * ((k + 1 : Nat) : Int) = a + s * (k : Int) + s := by rw [Int.natCast_add, Int.mul_add]; simp; omega
    cases h : l[k]? with
    | none => rw [goodE_over (List.getElem?_eq_none_iff.1 h), e1]; exact ⟨h1, by omega⟩
    | some d =>
      rw [goodE_succ h, okL_snoc, lastE_snoc, h1, e1]
      have : addE (lastE (-1) (goodE l a s k)) (goodD d, a + s * (k : Int)) = 0 := by
        unfold addE
        rw [if_neg (fun h => h (goodD_may d)), if_neg (by show ¬ (a + s * (k : Int) ≤ _); omega)]
      exact ⟨by rw [this]; rfl, by show a + s * (k : Int) < _; omega⟩
theorem goodE_mem {l : List Dc} {a s : Int} : ∀ {k : Nat} {e : En}, e ∈ goodE l a s k → ∃ d, e.1 = goodD d
  | 0, e, h => by cases h
  | k + 1, e, h => by
    rw [goodE] at h
    rcases List.mem_append.1 h with h | h
    · exact goodE_mem h
    · split at h
      · rename_i d _; rw [List.mem_singleton.1 h]; exact ⟨d, rfl⟩
      · cases h
theorem goodE_lens {l : List Dc} {a s : Int} {k : Nat} : ∀ e ∈ goodE l a s k, ∀ f ∈ e.1.2, f.1.length ≤ 900000 ∧ f.2.length ≤ 900000 := fun e he f hf => by
  obtain ⟨d, hd⟩ := goodE_mem he
  rw [hd] at hf
  have := goodD_small d f hf; omega
theorem low_up (L : List En) (t : Int) : lowN (L.map (·.2)) t + L.countP (fun e => decide (t ≤ e.2)) = L.length := by
  unfold lowN
  rw [List.countP_map]
  induction L with
  | nil => rfl
  | cons e L ih =>
    by_cases h : e.2 < t
    · rw [List.countP_cons_of_pos (by simpa using h), List.countP_cons_of_neg (by simpa using h), List.length_cons]; omega
    · rw [List.countP_cons_of_neg (by simpa using h), List.countP_cons_of_pos (by simpa using h), List.length_cons]; omega
/-- the document's example -/
abbrev exL : List En := [((4, [([116], [97])]), 7)]
theorem ex_words : words [97] = [[97]] := by
  have h : signs [97] = [97] := by rw [signs_step (by simp)]; simp [dec, decG, atB, contB, signs_nil]
  unfold words; rw [h]; simp [takeF]; rfl
theorem ex_ok : okL (-1) exL = true := by
  have h : addE (-1) ((4, [([116], [97])]), 7) = 0 := by
    unfold addE mayD
    simp only [mayL, ex_words]
    decide
  show (decide (addE (-1) ((4, [([116], [97])]), 7) = 0) && true) = true
  rw [h]; rfl
theorem ex_tells : tellsL [([116], [97])] = [(([116], [97]), 0)] := by
  show tellF ([116], [97]) ++ [] = _
  unfold tellF; rw [ex_words]; rfl
theorem ex_pk : (pk exL (keyE ([116], [97]))).length = 1 := by
  show (pkE 0 (tellsL [([116], [97])]) (keyE ([116], [97])) ++ []).length = 1
  rw [ex_tells]; decide
/-- 'concordance/concordancelaw10.lives' -/
theorem lives10_spec {M : PSet} (w0 : World) (hM : Lt M w0) :
    Spec Tryz.prog 23 #[] w0 (fun v w => v = .bool true ∧ Step M w0 M w none') := by
  refine spec_of (args := []) (fn := Tryz.f23) Tryz.func23 rfl (n := 57) Tryz.ntmps23 ?_
  have S : Step M w0 M w0 none' := (Step.refl _ _).widen (fun _ h => h.elim) (fun _ h => h.elim)
  refine T.seq ?_
  refine T.region ?_ -- region 0
  refine Rg.assign rfl rfl ?_
  refine Rg.nil ?_
  refine T.seq ?_
  refine T.region ?_ -- region 1
  refine Rg.call rfl rfl E15 (build_spec (L := []) _ hM V_nil (fun e h => by cases h) (by decide) rfl) (fun r1 w1 hc => ?_)
  obtain ⟨sa, rfl, hsa, s1⟩ := hc 
  obtain ⟨aa, rfl⟩ := hsa.isPtr
  replace hM := s1.lt hM
  have := S.size
  replace S := S.trans0 s1
  refine Rg.move rfl rfl ?_
  refine Rg.extract rfl rfl rfl ?_
  refine Rg.extract rfl rfl rfl ?_
  refine Rg.assign rfl rfl ?_
  refine Rg.assign rfl rfl ?_
  refine Rg.nil ?_
  refine T.seq ?_
  refine T.region ?_ -- region 2
  refine Rg.build (places := [(0, 1), (1, 1)]) Tryz.underlying127 I127 B127 rfl ⟨_, _, rfl, rfl, _, _, rfl, rfl, rfl⟩ (out := [_, _]) ⟨0, [_], rfl, rfl, by simp [Value.cells], 1, [_], rfl, rfl, by simp [Value.cells], rfl⟩ ?_
  refine Rg.sl1 (A := RT.fd) (hn := by decide) (M := M) Tryz.underlying39 I127 (by decide) rfl rfl hM (kv_V (t := ([116], [97])) (by decide) (by decide)) (.inl rfl) (fun u2_1 w2_1 hu2_1 s2_1 => ?_)
  replace hsa := hsa.le (by decide) s2_1.le
  replace hM := s2_1.lt hM
  have := S.size
  replace S := S.trans0 s2_1
  refine Rg.build (places := [(0, 1), (1, 1)]) Tryz.underlying41 I41 B41 rfl ⟨_, _, rfl, rfl, _, _, rfl, rfl, rfl⟩ (out := [_, _]) ⟨0, [_], rfl, rfl, by simp [Value.cells], 1, [_], rfl, V_cells hu2_1, by simp [Value.cells], rfl⟩ ?_
  have hdd : RT.dc.V M _ (4, [([116], [97])]) (.agg #[.int .i64 4, u2_1]) := V_pair_mk (V_i64 (by decide)) hu2_1 rfl rfl rfl rfl
  refine Rg.build (places := [(0, 2), (2, 1)]) Tryz.underlying43 I43 B43 rfl ⟨_, _, rfl, rfl, _, _, rfl, rfl, rfl⟩ (out := [_, _, _]) ⟨0, [_, _], rfl, rfl, by simp [Value.cells], 2, [_], rfl, rfl, by simp [Value.cells], rfl⟩ ?_
  have hen : RT.en.V M _ ((4, [([116], [97])]), 7) (.agg [.int .i64 4, u2_1, .int .i64 7].toArray) := en_mk hdd (by decide)
  refine Rg.sl1 (A := RT.en) (hn := by decide) (M := M) Tryz.underlying37 I43 (by decide) rfl rfl hM (hen) (.inl rfl) (fun u2_4 w2_4 hu2_4 s2_4 => ?_)
  replace hsa := hsa.le (by decide) s2_4.le
  replace hu2_1 := hu2_1.le s2_4.le
  replace hM := s2_4.lt hM
  have := S.size
  replace S := S.trans0 s2_4
  refine Rg.call rfl rfl E15 (build_spec (L := exL) _ hM hu2_4 (fun e he f hf => by simp only [exL, List.mem_singleton] at he; subst he; simp only [List.mem_singleton] at hf; subst hf; decide) (by decide) ex_ok) (fun r2 w2 hc => ?_)
  obtain ⟨sb, rfl, hsb, s2⟩ := hc 
  obtain ⟨ab, rfl⟩ := hsb.isPtr
  replace hsa := hsa.le (by decide) s2.le
  replace hu2_1 := hu2_1.le s2.le
  replace hu2_4 := hu2_4.le s2.le
  replace hM := s2.lt hM
  have := S.size
  replace S := S.trans0 s2
  refine Rg.move rfl rfl ?_
  refine Rg.extract rfl rfl rfl ?_
  refine Rg.extract rfl rfl rfl ?_
  refine Rg.assign rfl rfl ?_
  refine Rg.assign rfl rfl ?_
  refine Rg.nil ?_
  refine T.seq ?_
  refine T.seq ?_
  refine T.region ?_ -- region 3
  refine Rg.move rfl rfl ?_
  refine Rg.ptreq Tryz.underlying25 rfl rfl rfl ?_
  refine Rg.move rfl rfl ?_
  refine Rg.gfalse (g := 20) rfl ((by simp)) ?_
  refine Rg.gyes rfl rfl ?_
  refine Rg.move rfl rfl ?_
  refine Rg.gyes rfl rfl ?_
  refine Rg.ptreq Tryz.underlying25 rfl rfl rfl ?_
  refine Rg.pickf rfl rfl rfl ?_
  refine Rg.nil ?_
  refine T.iffp rfl ((by simp)) ?_
  refine T.skip ?_
  refine T.seq ?_
  refine T.region ?_ -- region 5
  refine Rg.move rfl rfl ?_
  refine Rg.ieq rfl rfl rfl ?_
  refine Rg.move rfl rfl ?_
  refine Rg.gtrue (g := 26) rfl (rfl) ?_
  refine Rg.gyes rfl rfl ?_
  refine Rg.move rfl rfl ?_
  refine Rg.gyes rfl rfl ?_
  refine Rg.call rfl rfl E67 (slen_spec _ hsa) (fun r wc hc => ?_)
  obtain ⟨rfl, rfl⟩ := hc 
  refine Rg.gyes rfl rfl ?_
  refine Rg.ieq rfl rfl rfl ?_
  refine Rg.pickt rfl rfl rfl ?_
  refine Rg.move rfl rfl ?_
  refine Rg.gtrue (g := 31) rfl (rfl) ?_
  refine Rg.gyes rfl rfl ?_
  refine Rg.move rfl rfl ?_
  refine Rg.gyes rfl rfl ?_
  refine Rg.call rfl rfl E68 (skeys_spec _ hM rfl (by decide) hsa) (fun r9 w9 hc => ?_)
  obtain ⟨hk9, s9⟩ := hc
  replace hsa := hsa.le (by decide) s9.le
  replace hu2_1 := hu2_1.le s9.le
  replace hu2_4 := hu2_4.le s9.le
  replace hsb := hsb.le (by decide) s9.le
  replace hM := s9.lt hM
  have := S.size
  replace S := S.trans0 s9
  refine Rg.gyes rfl rfl ?_
  refine Rg.lensl Tryz.underlying55 rfl hk9 rfl ?_
  refine Rg.gyes rfl rfl ?_
  refine Rg.ieq rfl rfl rfl ?_
  refine Rg.pickt rfl rfl rfl ?_
  refine Rg.move rfl rfl ?_
  refine Rg.gtrue (g := 37) rfl (rfl) ?_
  refine Rg.gyes rfl rfl ?_
  refine Rg.move rfl rfl ?_
  refine Rg.gyes rfl rfl ?_
  refine Rg.ieq rfl rfl rfl ?_
  refine Rg.pickt rfl rfl rfl ?_
  refine Rg.move rfl rfl ?_
  refine Rg.gtrue (g := 41) rfl (rfl) ?_
  refine Rg.gyes rfl rfl ?_
  refine Rg.move rfl rfl ?_
  refine Rg.gyes rfl rfl ?_
  refine Rg.call rfl rfl E69 (sid_spec _ hsb) (fun r wc hc => ?_)
  obtain ⟨rfl, rfl⟩ := hc 
  refine Rg.gyes rfl rfl ?_
  refine Rg.ieq rfl rfl rfl ?_
  refine Rg.pickt rfl rfl rfl ?_
  refine Rg.move rfl rfl ?_
  refine Rg.gtrue (g := 46) rfl (rfl) ?_
  refine Rg.gyes rfl rfl ?_
  refine Rg.move rfl rfl ?_
  refine Rg.gyes rfl rfl ?_
  refine Rg.call rfl rfl E70 (sseq_spec _ hsb) (fun r wc hc => ?_)
  obtain ⟨rfl, rfl⟩ := hc 
  refine Rg.gyes rfl rfl ?_
  refine Rg.ieq rfl rfl rfl ?_
  refine Rg.pickt rfl rfl rfl ?_
  refine Rg.move rfl rfl ?_
  refine Rg.gtrue (g := 51) rfl (rfl) ?_
  refine Rg.gyes rfl rfl ?_
  refine Rg.move rfl rfl ?_
  refine Rg.gyes rfl rfl ?_
  refine Rg.build (places := [(0, 1), (1, 1)]) Tryz.underlying47 I47 B47 rfl ⟨_, _, rfl, rfl, _, _, rfl, rfl, rfl⟩ (out := [_, _]) ⟨0, [_], rfl, rfl, by simp [Value.cells], 1, [_], rfl, rfl, by simp [Value.cells], rfl⟩ ?_
  refine Rg.gyes rfl rfl ?_
  refine Rg.call rfl rfl E25 (scount_spec (ls := (keysOf exL).map (pk exL)) (t := ([116], [97])) _ hM hsb (keys_up exL) rfl (by rw [List.length_map]; rfl) (by decide) (by decide)) (fun r30 w30 hc => ?_)
  obtain ⟨rfl, s30⟩ := hc
  replace hsa := hsa.le (by decide) s30.le
  replace hu2_1 := hu2_1.le s30.le
  replace hu2_4 := hu2_4.le s30.le
  replace hsb := hsb.le (by decide) s30.le
  replace hM := s30.lt hM
  have := S.size
  replace S := S.trans0 s30
  refine Rg.gyes rfl rfl ?_
  refine Rg.ieq rfl rfl rfl ?_
  refine Rg.pickt rfl rfl rfl ?_
  refine Rg.assign rfl rfl ?_
  refine Rg.nil ?_
  refine T.ret ?_
  have e : (atK (seP (paOf exL)).2.2.1 ((keysOf exL).map (pk exL)) (keyE ([116], [97]))).length = 1 := (congrArg List.length (atK_pk (L := exL) _)).trans ex_pk
  exact Kret1 rfl rfl ⟨by rw [e]; rfl, S⟩
end Go.K
namespace Go.K
open Go.Proofs
namespace TKAbove
theorem E15 : Enters Tryz.prog 15 := enters Tryz.func15 rfl (by decide) -- concordance/segment.Build
theorem E21 : Enters Tryz.prog 21 := enters Tryz.func21 rfl (by decide) -- concordance/concordanceref09.Good
theorem E22 : Enters Tryz.prog 22 := enters Tryz.func22 rfl (by decide) -- (*concordance/segment.Segment).Above
theorem E23 : Enters Tryz.prog 23 := enters Tryz.func23 rfl (by decide) -- concordance/concordancelaw10.lives
end TKAbove
open TKAbove
set_option linter.unusedVariables false
set_option linter.unusedSimpArgs false
set_option maxRecDepth 10000
/-- 'concordance/concordancelaw10.SegmentAbove' -/
theorem SegmentAbove_spec {M : PSet} {l : List Dc} {v0 : Value} {x : Int} {w0 : World} (hM : Lt M w0) (hv : (RT.dc.sl).V M w0 l v0) (hx : -9223372036854775808 ≤ x ∧ x ≤ 9223372036854775807) :
    Spec Tryz.prog 4 #[v0, .int .i64 x] w0 (fun v w => v = .bool true ∧ Step M w0 M w none') := by
  have hM0 := hM
  have hgl := goodE_len l 3 4 10
  obtain ⟨hok, _⟩ := goodE_ok l (show (0 : Int) ≤ 3 by decide) (show (1 : Int) ≤ 4 by decide) 10
  refine spec_of (args := [_, _]) (fn := Tryz.f4) Tryz.func4 rfl (n := 42) Tryz.ntmps4 ?_
  have S : Step M w0 M w0 none' := (Step.refl _ _).widen (fun _ h => h.elim) (fun _ h => h.elim)
  refine T.seq ?_
  refine T.region ?_ -- region 0
  refine Rg.assign rfl rfl ?_
  refine Rg.nil ?_
  refine T.seq ?_
  refine T.region ?_ -- region 1
  refine Rg.move rfl rfl ?_
  refine Rg.call rfl rfl E21 (good9_spec (most := 10) (a := 3) (s := 4) _ hM hv (by decide) (by decide) (by decide)) (fun r1 w1 hc => ?_)
  obtain ⟨hg, s1⟩ := hc
  replace hM := s1.lt hM
  have := S.size
  replace S := S.trans0 s1
  refine Rg.assign rfl rfl ?_
  refine Rg.nil ?_
  refine T.seq ?_
  refine T.region ?_ -- region 2
  refine Rg.move rfl rfl ?_
  refine Rg.call rfl rfl E15 (build_spec _ hM hg goodE_lens (by omega) hok) (fun r2 w2 hc => ?_)
  obtain ⟨sa, rfl, hs, s2⟩ := hc 
  obtain ⟨aa, rfl⟩ := hs.isPtr
  replace hg := hg.le s2.le
  replace hM := s2.lt hM
  have := S.size
  replace S := S.trans0 s2
  refine Rg.move rfl rfl ?_
  refine Rg.extract rfl rfl rfl ?_
  refine Rg.extract rfl rfl rfl ?_
  refine Rg.assign rfl rfl ?_
  refine Rg.assign rfl rfl ?_
  refine Rg.nil ?_
  refine T.seq ?_
  refine T.seq ?_
  refine T.region ?_ -- region 3
  refine Rg.move rfl rfl ?_
  refine Rg.ptreq Tryz.underlying25 rfl rfl rfl ?_
  refine Rg.nil ?_
  refine T.iffp rfl ((by simp)) ?_
  refine T.skip ?_
  refine T.seq ?_
  refine T.region ?_ -- region 5
  refine Rg.assign rfl rfl ?_
  refine Rg.nil ?_
  refine T.seq ?_
  refine T.seq ?_
  refine T.region ?_ -- region 6
  refine Rg.assign rfl rfl ?_
  refine Rg.nil ?_
  refine T.block ?_
  refine T.loop (σ := Nat) (fun i => [(5, r1), (6, .pointer (some aa)), (1, .int .i64 x), (8, .int .i64 (((goodE l 3 4 10).take i).countP (fun e => decide (x ≤ e.2)) : Nat)), (9, .int .i64 (i : Int))]) (fun i w => Step M w0 M w none' ∧ (RT.en.sl).V M w (goodE l 3 4 10) r1 ∧ PtrTo RT.se M w (.pointer (some aa)) (seP (paOf (goodE l 3 4 10))) ∧ i ≤ (goodE l 3 4 10).length) (fun i => (goodE l 3 4 10).length - i) 0 (.cons rfl (.cons rfl (.cons rfl (.cons rfl (.cons rfl .nil))))) ?_ ?_ -- loop 0
  · exact ⟨S, hg, hs, Nat.zero_le _⟩
  · clear S hg hs hM
    rintro i w ⟨S, hg, hs, hi⟩
    have hM := S.lt hM0
    have hcl : ((goodE l 3 4 10).take i).countP (fun e => decide (x ≤ e.2)) ≤ ((goodE l 3 4 10).take i).length := List.countP_le_length
    rw [List.length_take] at hcl
    refine T.seq ?_
    refine T.seq ?_
    refine T.region ?_ -- region 7
    refine Rg.move rfl rfl ?_
    refine Rg.move rfl rfl ?_
    refine Rg.lensl Tryz.underlying37 rfl hg rfl ?_
    refine Rg.ilt rfl rfl rfl ?_
    refine Rg.nil ?_
    refine T.ifp rfl (fun c7 => ?_) (fun c7 => ?_)
    · -- c7 True
      refine T.skip ?_
      refine T.seq ?_
      refine T.block ?_
      refine T.seq ?_
      refine T.region ?_ -- region 9
      refine Rg.move rfl rfl ?_
      refine Rg.move rfl rfl ?_
      refine Rg.idx (M := M) Tryz.underlying37 I43 rfl rfl rfl hg (Le.refl _ _) (by omega) (fun u9 e hg9 hu9 => ?_)
      rw [Int.toNat_natCast] at hg9
      refine Rg.fieldAddr (M := M) (A := RT.en) (B := RT.int .i64) Tryz.underlying43 rfl rfl I3 (by decide) en1 rfl rfl (by decide) hu9 (Le.refl _ _) (fun u93 hu93 => ?_)
      refine Rg.loadi64 (M := M) Tryz.underlying3 rfl rfl hu93 (Le.refl _ _) (fun hin => ?_)
      refine Rg.eqv (v' := .int .i64 e.2) rfl ?_
      refine Rg.move rfl rfl ?_
      refine Rg.ige rfl rfl rfl ?_
      refine Rg.nil ?_
      refine T.ifp rfl (fun c9 => ?_) (fun c9 => ?_)
      · -- c9 True
        refine T.region ?_ -- region 10
        refine Rg.move rfl rfl ?_
        refine Rg.iadd rfl rfl rfl (by omega) ?_
        refine Rg.eqv (v' := .int .i64 ((((goodE l 3 4 10).take i).countP (fun e => decide (x ≤ e.2)) + 1 : Nat) : Int)) rfl ?_
        refine Rg.assign rfl rfl ?_
        refine Rg.nil ?_
        refine T.region ?_ -- region 8
        refine Rg.move rfl rfl ?_
        refine Rg.iadd rfl rfl rfl (by omega) ?_
        refine Rg.assign rfl rfl ?_
        refine Rg.nil ?_
        have hc : ((goodE l 3 4 10).take i).countP (fun e => decide (x ≤ e.2)) + 1 = ((goodE l 3 4 10).take (i + 1)).countP (fun e => decide (x ≤ e.2)) := by rw [List.take_add_one, hg9, Option.toList_some, List.countP_append, List.countP_cons_of_pos (by simpa using c9)]; rfl
        refine ⟨rfl, i + 1, (.cons rfl (.cons rfl (.cons rfl (.cons (congrArg (fun n : Nat => some (Value.int .i64 (n : Int))) hc) (.cons rfl .nil))))), ?_, ?_⟩
        · exact ⟨S, hg, hs, by omega⟩
        · omega
      · -- c9 False
        refine T.skip ?_
        refine T.region ?_ -- region 8
        refine Rg.move rfl rfl ?_
        refine Rg.iadd rfl rfl rfl (by omega) ?_
        refine Rg.assign rfl rfl ?_
        refine Rg.nil ?_
        have hc : ((goodE l 3 4 10).take i).countP (fun e => decide (x ≤ e.2)) = ((goodE l 3 4 10).take (i + 1)).countP (fun e => decide (x ≤ e.2)) := by rw [List.take_add_one, hg9, Option.toList_some, List.countP_append, List.countP_cons_of_neg (by simpa using c9)]; rfl
        refine ⟨rfl, i + 1, (.cons rfl (.cons rfl (.cons rfl (.cons (congrArg (fun n : Nat => some (Value.int .i64 (n : Int))) hc) (.cons rfl .nil))))), ?_, ?_⟩
        · exact ⟨S, hg, hs, by omega⟩
        · omega
    · -- c7 False
      refine T.exit ?_
      refine T.seq ?_
      refine T.region ?_ -- region 11
      refine Rg.move rfl rfl ?_
      refine Rg.move rfl rfl ?_
      refine Rg.call rfl rfl E22 (above_spec _ (okL_rises hok) hs) (fun r11 w11 hc => ?_)
      obtain ⟨rfl, rfl⟩ := hc 
      refine Rg.move rfl rfl ?_
      refine Rg.ieq rfl rfl rfl ?_
      refine Rg.move rfl rfl ?_
      refine Rg.gtrue (g := 39) rfl ((by
          have h := low_up (goodE l 3 4 10) x
          rw [List.take_of_length_le (by omega)]
          show (((goodE l 3 4 10).map (·.2)).length : Int) - (lowN ((goodE l 3 4 10).map (·.2)) x : Int) = _
          rw [List.length_map]; omega)) ?_
      refine Rg.gyes rfl rfl ?_
      refine Rg.call rfl rfl E23 (lives10_spec _ hM) (fun r12 w12 hc => ?_)
      obtain ⟨rfl, s12⟩ := hc
      replace hg := hg.le s12.le
      replace hs := hs.le (by decide) s12.le
      replace hM := s12.lt hM
      have := S.size
      replace S := S.trans0 s12
      refine Rg.pickt rfl rfl rfl ?_
      refine Rg.assign rfl rfl ?_
      refine Rg.nil ?_
      refine T.ret ?_
      exact Kret1 rfl rfl ⟨rfl, S⟩
end Go.K

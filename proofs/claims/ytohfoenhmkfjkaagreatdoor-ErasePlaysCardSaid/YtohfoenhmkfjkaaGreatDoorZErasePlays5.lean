/- What the law 'ErasePlays' needs of walks and plain Lean, part 5: nothing is assumed beyond the texts that it imports. -/
import Derived.KernelRfl
import Derived.Laws.StructEq
import Derived.Test.YtohfoenhmkfjkaaGreatDoorProg
import Derived.Test.YtohfoenhmkfjkaaGreatDoorZErasePlays1
import Derived.Test.YtohfoenhmkfjkaaGreatDoorZErasePlays2
import Derived.Test.YtohfoenhmkfjkaaGreatDoorZErasePlays3
import Derived.Test.YtohfoenhmkfjkaaGreatDoorZErasePlays4
namespace Go.K
open Go.Proofs
namespace TKBldJ
theorem I56 : TI Tryz.prog 56 (.slice none 0 0) 1 24 := by unfold TI; kernel_rfl
theorem I58 : TI Tryz.prog 58 (.agg #[(.slice none 0 0), (.slice none 0 0), (.slice none 0 0), (.slice none 0 0)]) 4 96 := by unfold TI; kernel_rfl
theorem I107 : TI Tryz.prog 107 (.slice none 0 0) 1 24 := by unfold TI; kernel_rfl
theorem E27 : Enters Tryz.prog 27 := enters Tryz.func27 rfl (by decide)
theorem E56 : Enters Tryz.prog 56 := enters Tryz.func56 rfl (by decide)
theorem E57 : Enters Tryz.prog 57 := enters Tryz.func57 rfl (by decide)
theorem E58 : Enters Tryz.prog 58 := enters Tryz.func58 rfl (by decide)
theorem E59 : Enters Tryz.prog 59 := enters Tryz.func59 rfl (by decide)
end TKBldJ
open TKBldJ
set_option linter.unusedVariables false
set_option linter.unusedSimpArgs false
set_option maxRecDepth 10000
set_option maxHeartbeats 4000000 in
theorem build_spec {M : PSet} {L : List En} {v0 : Value} (w0 : World) (hM : Lt M w0) (hv : (RT.en.sl).V M w0 L v0) (hl : ∀ e ∈ L, ∀ f ∈ e.1.2, f.1.length ≤ 900000 ∧ f.2.length ≤ 900000) (hn : L.length ≤ 100000) (hok : okL (-1) L = true) :
  Spec Tryz.prog 15 #[v0] w0 (fun v w => ∃ s, v = .tuple #[s, .int .i64 0] ∧ PtrTo RT.se M w s (seP (paOf L)) ∧ Step M w0 M w none') := by
 have hM0 := hM
 have hF := okL_fine hok
 have hkn : (keysOf L).length ≤ 500000000 := by
  have h1 := (keys_up L).nodup.length_le_of_subset (l₂ := keysL L) (fun x hx => keys_mem.1 hx)
  have := keysL_len hF; omega
 have hks : ∀ k ∈ keysOf L, k.length ≤ 43 := fun k hk => keysL_small hF k (keys_mem.1 hk)
 refine spec_of (args := [_]) (fn := Tryz.f15) Tryz.func15 rfl (n := 63) Tryz.ntmps15 ?_
 have S : Step M w0 M w0 none' := (Step.refl _ _).widen (fun _ h => h.elim) (fun _ h => h.elim)
 refine T.seq ?_
 refine T.region ?_
 refine Rg.assign rfl rfl ?_
 refine Rg.assign rfl rfl ?_
 refine Rg.nil ?_
 refine T.seq ?_
 refine T.region ?_
 refine Rg.call rfl rfl E56 (new_spec (Z := fun k => w0.heap.size ≤ k) (B := w0.heap.size) _ hM (Nat.le_refl _) (fun k hk => hk)) (fun r1 w1 hc => ?_)
 obtain ⟨M1, b1, rfl, _, hbuf, s1⟩ := hc
 replace hbuf := hbuf.zone (Z' := fun k => w0.heap.size ≤ k ∧ k < w1.heap.size) (fun c hc hlt => ⟨hc, hlt⟩) --@M M1
 --@step s1
 --@fact2 hbuf ;; hbuf.step0 @s ;; sorry
 replace hv := hv.le s1.le
 replace hM := s1.lt hM
 have := S.size
 replace S := S.trans0 s1
 refine Rg.assign rfl rfl ?_
 refine Rg.nil ?_
 refine T.seq ?_
 refine T.region ?_
 refine Rg.alloc M1 I58 rfl (fun b2_0 w2_0 p2_0 q2_0 g2_0 s2_0 => ?_)
 obtain ⟨M_2_0, eM_2_0⟩ : ∃ M', M' = ins M1 b2_0 := ⟨_, rfl⟩
 rw [← eM_2_0] at s2_0
 have m_g2_0 : M_2_0 b2_0 := by rw [eM_2_0]; exact .inl rfl
 change w2_0.heap[b2_0]? = some (.cells #[.slice none 0 0, .slice none 0 0, .slice none 0 0, .slice none 0 0] _ _) at g2_0
 replace hv := hv.le s2_0.le
 replace hbuf := hbuf.step0 s2_0
 replace hM := s2_0.lt hM
 have := S.size
 replace S := S.trans0 s2_0
 refine Rg.nil ?_
 refine T.seq ?_
 refine T.seq ?_
 refine T.region ?_
 refine Rg.move rfl rfl ?_
 refine Rg.lensl Tryz.underlying37 rfl hv rfl ?_
 refine Rg.move rfl rfl ?_
 refine Rg.nil ?_
 refine T.block ?_
 refine T.loop (σ := Nat × Value × Value) (fun q => [(4, .pointer (some ⟨b1, 0, none⟩)), (5, .pointer (some ⟨b2_0, 0, none⟩)), (12, v0), (13, .int .i64 (L.length : Int)), (14, .int .i64 (q.1 : Int))]) (fun q w => ∃ M' words, Lt M' w ∧ Step M w0 M' w none' ∧ (RT.en.sl).V M' w L v0 ∧ BufE (ZP w0.heap.size b2_0 q.2.1 q.2.2) M' w w0.heap.size b1 (L.take q.1) words (lastE (-1) (L.take q.1)) ∧ w.heap[b2_0]? = some (.cells #[q.2.1, q.2.2, .slice none 0 0, .slice none 0 0] 58 (0, 0)) ∧ M' b2_0 ∧ Own (RT.int .i64) 3 M' w w0.heap.size q.2.1 ((L.take q.1).map (·.1.1)) ∧ Own (RT.int .i64) 3 M' w w0.heap.size q.2.2 ((L.take q.1).map (·.2)) ∧ Apart q.2.1 q.2.2 ∧ 0 ≤ words ∧ words ≤ 500 * (q.1 : Int) ∧ q.1 ≤ L.length) (fun q => L.length - q.1) (0, .slice none 0 0, .slice none 0 0) (.cons rfl (.cons rfl (.cons rfl (.cons rfl (.cons rfl .nil))))) ?_ ?_
 ·exact ⟨_, 0, hM, S, hv, hbuf.zone (Z' := ZP w0.heap.size b2_0 (.slice none 0 0) (.slice none 0 0)) (fun c hc hlt => ⟨hc.1, (fun h => by have := hc.2; omega), (fun h => by cases h), (fun h => by cases h)⟩), g2_0, m_g2_0, Own.nil _ _ _ _ _, Own.nil _ _ _ _ _, Apart.nil _, by omega, by omega, Nat.zero_le _⟩
 ·clear hM S hv hbuf
  rintro ⟨i, vi, vs⟩ w ⟨M2, words, hM, S, hv, hbuf, g2, m_g2, hoi, hos, hap, hw1, hw2, hi⟩
  dsimp only at hbuf g2 hoi hos hap hw2 hi ⊢
  refine T.seq ?_
  refine T.region ?_
  refine Rg.ilt rfl rfl rfl ?_
  refine Rg.nil ?_
  refine T.seq ?_
  refine T.ifp rfl (fun c4 => ?_) (fun c4 => ?_)
  ·refine T.skip ?_
   refine T.seq ?_
   refine T.block ?_
   refine T.seq ?_
   refine T.region ?_
   refine Rg.idx (M := M2) Tryz.underlying37 I43 rfl rfl rfl hv (Le.refl _ _) (by omega) (fun u5 e hg5 hu5 => ?_)
   rw [Int.toNat_natCast] at hg5
   obtain ⟨hadd0, hlast0⟩ := okL_at hok hg5
   have hem := List.mem_of_getElem? hg5
   refine Rg.loadagg (M := M2) (A := RT.en) Tryz.underlying43 rfl I43 (by decide) rfl rfl rfl hu5 (Le.refl _ _) (fun v5 hv5 => ?_)
   obtain ⟨hr1, hr2⟩ := en_rng hv5
   refine Rg.newagg (A := RT.en) (M := M2) I43 rfl rfl rfl rfl rfl (by assumption) (Le.refl _ _) hM (fun u5_2 w5_2 hu5_2 s5_2 z5_2 => ?_)
   have := lt_of_get g2
   replace m_g2 := (s5_2.mem _ this).2 m_g2
   replace g2 := s5_2.same0 g2
   replace hv := hv.le s5_2.le
   replace hoi := hoi.step0 s5_2
   replace hos := hos.step0 s5_2
   replace hbuf := hbuf.step0 s5_2
   replace hM := s5_2.lt hM
   have := S.size
   replace S := S.trans0 s5_2
   refine Rg.nil ?_
   refine T.seq ?_
   refine T.seq ?_
   refine T.region ?_
   refine Rg.move rfl rfl ?_
   refine Rg.loadagg (M := M2) (A := RT.en) Tryz.underlying43 rfl I43 (by decide) rfl rfl rfl hu5_2 (Le.refl _ _) (fun v6 hv6 => ?_)
   refine Rg.call rfl rfl E57 (add_spec (Z := ZP w0.heap.size b2_0 vi vs) _ hM (fun k hk => ⟨by have := S.size; omega, fun h => by have := lt_of_get g2; omega, fun h => by have := (hoi.base k h).2; omega, fun h => by have := (hos.base k h).2; omega⟩) hbuf (by have := S.size; omega) hv6 (hl e hem) (fun x hx => hF x (List.mem_of_mem_take hx)) (by simp; omega) (by omega)) (fun r6 w6 hc => ?_)
   obtain ⟨M6, hM6, s6, rfl, _, hadd⟩ := hc
   replace hbuf := hadd hadd0
   have hmany : (tlE e).length ≤ 500 := (hF e hem).many
   refine Rg.eqv (v' := .int .i64 0) (by rw [hadd0]) ?_
   replace hoi := hoi.step s6 (fun c hc h => h.1.2.2.1 hc)
   replace hos := hos.step s6 (fun c hc h => h.1.2.2.2 hc)
   replace m_g2 := (s6.mem _ (lt_of_get g2)).2 m_g2
   replace g2 := s6.keep g2 (fun h => h.1.2.1 rfl)
   replace hv := hv.le s6.le
   replace hu5_2 := hu5_2.le (by decide) s6.le
   replace S := S.transNew s6 (fun k hk => hk.1.1)
   replace hM := hM6
   rw [hlast0.symm] at hbuf
   --@M M6
   refine Rg.assign rfl rfl ?_
   refine Rg.nil ?_
   refine T.seq ?_
   refine T.region ?_
   refine Rg.move rfl rfl ?_
   refine Rg.ine rfl rfl rfl ?_
   refine Rg.nil ?_
   refine T.iffp rfl ((fun h => h rfl)) ?_
   refine T.skip ?_
   have g2p := g2
   have m_g2p := m_g2
   have hvp := hv
   have hbufp := hbuf
   have hoip := hoi
   have hosp := hos
   have hMp := hM
   have Sp := S
   obtain ⟨P6, hP6⟩ : ∃ P6 : Value → World → Prop, P6 = fun v w' => Own (RT.int .i64) 3 (blkM v) w' w0.heap.size v ((L.take i).map (·.1.1) ++ [e.1.1]) ∧ (∀ c, v.ownBlock = some c → w6.heap.size ≤ c ∨ vi.ownBlock = some c) := ⟨_, rfl⟩
   have h6 : ∀ {v : Value} {w w' : World}, P6 v w → Step M6 w M6 w' none' → P6 v w' := fun {v w w'} h s => by rw [hP6] at h ⊢; exact ⟨h.1.keepL s (fun _ _ h => h), h.2⟩
   apply T.drawR (M := M6) [0, 1, 2, 3, 4, 5, 6, 7, 8, 9, 10, 11, 13, 12, 14, 15, 16] 13 12 37 (.pointer (some ⟨b2_0, 0, none⟩)) [(6, blk vi)] [Asr.eq (.pointer (some ⟨b2_0, 0, none⟩)), Asr.eq vi, Asr.ptr RT.dc e.1, Asr.ptr (RT.int .i64) e.1.1, Asr.eq (.int .i64 e.1.1), Asr.V ((RT.int .i64).sl) [e.1.1], (Asr.mk' (fun v w => P6 v w) (fun h s => h6 h s)), Asr.eq (.pointer (some ⟨b2_0, 1, none⟩)), Asr.eq vs, Asr.ptr (RT.int .i64) e.2, Asr.eq (.int .i64 e.2), Asr.V ((RT.int .i64).sl) [e.2], Asr.eq (.pointer (some ⟨b2_0, 0, none⟩))] mixed
   ·simp +decide only [ren, renO, List.map_cons, List.map_nil, List.getD_cons_zero, List.getD_cons_succ, List.map_toArray, Option.map_some, Option.map_none, List.idxOf_cons, cond_true, cond_false, Nat.reduceBEq, Nat.reduceAdd, beq_self_eq_true]; rfl
   ·rfl
   ·rfl
   ·rfl
   ·rfl
   ·rfl
   ·rfl
   ·rfl
   ·rfl
   ·rfl
   ·rfl
   ·rfl
   ·exact fun ρ w h => run_fieldc (size := 1) (o := 0) (o' := 0) Tryz.underlying58 rfl rfl I32 (by decide) (h (.tmp 5) _ rfl) w
   ·intro p hp b hb
    simp only [List.mem_cons, List.not_mem_nil, or_false] at hp
    subst hp
    exact hoi.mut_ b hb
   ·exact fun p hp => by
     simp only [List.mem_cons, List.not_mem_nil, or_false] at hp
     subst hp
     show (6 : Nat) ≠ 12
     decide
   ·exact UOk.st (by exact ⟨fun _ _ _ _ => trivial, ⟨fun _ _ _ _ => trivial, ⟨fun _ _ _ _ => trivial, ⟨fun _ _ _ _ => trivial, ⟨fun _ _ _ _ => trivial, ⟨fun _ _ _ _ => trivial, ⟨fun p hp b hb => (by simp at hp), ⟨fun _ _ _ _ => trivial, ⟨fun _ _ _ _ => trivial, ⟨fun _ _ _ _ => trivial, ⟨fun _ _ _ _ => trivial, ⟨fun _ _ _ _ => trivial, ⟨fun _ _ _ _ => trivial, trivial⟩⟩⟩⟩⟩⟩⟩⟩⟩⟩⟩⟩⟩)
   intro wR9 sA9
   have sR9 := sA9 M6
   have := lt_of_get g2
   replace m_g2 := (sR9.mem _ this).2 m_g2
   replace g2 := sR9.same0 g2
   replace hv := hv.le sR9.le
   replace hu5_2 := hu5_2.le (by decide) sR9.le
   replace hoi := hoi.step0 sR9
   replace hos := hos.step0 sR9
   replace hbuf := hbuf.step0 sR9
   replace hM := sR9.lt hM
   have := S.size
   replace S := S.trans0 sR9
   have g2R := g2
   have hoiR := hoi
   have hosR := hos
   have hz6 := sR9.size
   refine ⟨?_, ?_⟩
   ·refine OblsS.cons ?_ ?_
    ·intro wD E sD
     replace sD : Step M6 _ M6 wD (blk vi) := sD
     refine Rg.fieldc (o' := 0) Tryz.underlying58 rfl rfl I32 (by decide) rfl rfl ?_
     exact Rg.nil ⟨rfl, rfl, _, rfl, rfl, Step.refl _ _⟩
    refine OblsS.cons ?_ ?_
    ·intro wD E sD
     replace sD : Step M6 _ M6 wD none' := sD
     intro x_ hx_; have hx_ : x_ = _ := hx_; subst x_
     refine Rg.loadc Tryz.underlying32 rfl rfl rfl (sD.same0 g2R) rfl ?_
     exact Rg.nil ⟨rfl, rfl, _, rfl, rfl, Step.refl _ _⟩
    refine OblsS.cons ?_ ?_
    ·intro wD E sD
     replace sD : Step M6 _ M6 wD (blk vi) := sD
     refine Rg.fieldAddr (M := M6) (A := RT.en) (B := RT.dc) Tryz.underlying43 rfl rfl I41 (by decide) en0 rfl rfl (by decide) hu5_2 sD.le (fun uf huf => ?_)
     exact Rg.nil ⟨rfl, rfl, _, rfl, huf, Step.refl _ _⟩
    refine OblsS.cons ?_ ?_
    ·intro wD E sD
     replace sD : Step M6 _ M6 wD (blk vi) := sD
     intro v2 hv2
     refine Rg.fieldAddr (M := M6) (A := RT.dc) (B := RT.int .i64) Tryz.underlying41 rfl rfl I3 (by decide) dc0 rfl rfl (by decide) (show PtrTo RT.dc M6 wD v2 e.1 from hv2) (Le.refl _ _) (fun uf huf => ?_)
     exact Rg.nil ⟨rfl, rfl, _, rfl, huf, Step.refl _ _⟩
    refine OblsS.cons ?_ ?_
    ·intro wD E sD
     replace sD : Step M6 _ M6 wD (blk vi) := sD
     intro v3 hv3
     refine Rg.loadi64 (M := M6) Tryz.underlying3 rfl rfl (show PtrTo (RT.int .i64) M6 wD v3 e.1.1 from hv3) (Le.refl _ _) (fun hin => ?_)
     exact Rg.nil ⟨rfl, rfl, _, rfl, rfl, Step.refl _ _⟩
    refine OblsS.cons ?_ ?_
    ·intro wD E sD
     replace sD : Step M6 _ M6 wD none' := sD
     intro x_ hx_; have hx_ : x_ = _ := hx_; subst x_
     refine Rg.sl1 (A := RT.int .i64) (hn := by decide) (M := M6) Tryz.underlying32 I3 (by decide) rfl rfl (sD.lt hM) (V_i64 hr1) (.inr ⟨rfl, rfl⟩) (fun uS wS hS sS => ?_)
     exact Rg.nil ⟨rfl, rfl, _, rfl, hS, sS⟩
    refine OblsS.cons ?_ ?_
    ·intro wD E sD
     replace sD : Step M6 _ M6 wD none' := sD
     intro x_ hx_; have hx_ : x_ = _ := hx_; subst x_
     intro v5 hv5
     replace sD : Step M6 wR9 M6 wD none' := sD
     refine Rg.appendF (M := M6) (base := w0.heap.size) Tryz.underlying32 I3 rfl rfl rfl rfl (hoiR.step0 sD) (show ((RT.int .i64).sl).V M6 wD [e.1.1] v5 from hv5) (Le.refl _ _) (by simp; omega) (by simp; omega) (by have := sD.size; have := S.size; omega) (fun vA wA hoA sA hFA => ?_)
     exact Rg.nil ⟨rfl, rfl, _, rfl, by show P6 vA wA; rw [hP6]; exact ⟨hoA.lone, fun c hc => (hFA c hc).elim (fun h => .inl (by have := sD.size; omega)) .inr⟩, sA.back⟩
    refine OblsS.cons ?_ ?_
    ·intro wD E sD
     replace sD : Step M6 _ M6 wD (blk vi) := sD
     refine Rg.fieldc (o' := 1) Tryz.underlying58 rfl rfl I32 (by decide) rfl rfl ?_
     exact Rg.nil ⟨rfl, rfl, _, rfl, rfl, Step.refl _ _⟩
    refine OblsS.cons ?_ ?_
    ·intro wD E sD
     replace sD : Step M6 _ M6 wD (blk vi) := sD
     intro x_ hx_; have hx_ : x_ = _ := hx_; subst x_
     refine Rg.loadc Tryz.underlying32 rfl rfl rfl (sD.keep g2R (fun h => hoiR.neT g2R (by decide) h)) rfl ?_
     exact Rg.nil ⟨rfl, rfl, _, rfl, rfl, Step.refl _ _⟩
    refine OblsS.cons ?_ ?_
    ·intro wD E sD
     replace sD : Step M6 _ M6 wD (blk vi) := sD
     refine Rg.fieldAddr (M := M6) (A := RT.en) (B := RT.int .i64) Tryz.underlying43 rfl rfl I3 (by decide) en1 rfl rfl (by decide) hu5_2 sD.le (fun uf huf => ?_)
     exact Rg.nil ⟨rfl, rfl, _, rfl, huf, Step.refl _ _⟩
    refine OblsS.cons ?_ ?_
    ·intro wD E sD
     replace sD : Step M6 _ M6 wD (blk vi) := sD
     intro v9 hv9
     refine Rg.loadi64 (M := M6) Tryz.underlying3 rfl rfl (show PtrTo (RT.int .i64) M6 wD v9 e.2 from hv9) (Le.refl _ _) (fun hin => ?_)
     exact Rg.nil ⟨rfl, rfl, _, rfl, rfl, Step.refl _ _⟩
    refine OblsS.cons ?_ ?_
    ·intro wD E sD
     replace sD : Step M6 _ M6 wD (blk vi) := sD
     intro x_ hx_; have hx_ : x_ = _ := hx_; subst x_
     refine Rg.sl1 (A := RT.int .i64) (hn := by decide) (M := M6) Tryz.underlying32 I3 (by decide) rfl rfl (sD.lt hM) (V_i64 hr2) (.inr ⟨rfl, rfl⟩) (fun uS wS hS sS => ?_)
     exact Rg.nil ⟨rfl, rfl, _, rfl, hS, sS⟩
    refine OblsS.cons ?_ ?_
    ·intro wD E sD
     replace sD : Step M6 _ M6 wD (blk vi) := sD
     intro x_ hx_; have hx_ : x_ = _ := hx_; subst x_
     intro x_ hx_; have hx_ : x_ = _ := hx_; subst x_
     intro v2 hv2
     intro v3 hv3
     intro x_ hx_; have hx_ : x_ = _ := hx_; subst x_
     intro v5 hv5
     intro v6 hv6
     intro x_ hx_; have hx_ : x_ = _ := hx_; subst x_
     intro x_ hx_; have hx_ : x_ = _ := hx_; subst x_
     refine Rg.fieldc (o' := 0) Tryz.underlying58 rfl rfl I32 (by decide) rfl rfl ?_
     exact Rg.nil ⟨rfl, rfl, _, rfl, rfl, Step.refl _ _⟩
    exact OblsS.nil
   ·intro wD9 sD9
    replace sD9 : Step M6 _ M6 wD9 (blk vi) := sD9
    intro x_ hx_; have hx_ : x_ = _ := hx_; subst x_
    intro x_ hx_; have hx_ : x_ = _ := hx_; subst x_
    intro v9_2 hv9_2
    intro v9_3 hv9_3
    intro x_ hx_; have hx_ : x_ = _ := hx_; subst x_
    intro v9_5 hv9_5
    intro v9_6 hv9_6
    intro x_ hx_; have hx_ : x_ = _ := hx_; subst x_
    intro x_ hx_; have hx_ : x_ = _ := hx_; subst x_
    intro v9_9 hv9_9
    intro x_ hx_; have hx_ : x_ = _ := hx_; subst x_
    intro v9_11 hv9_11
    intro x_ hx_; have hx_ : x_ = _ := hx_; subst x_
    replace hv9_6 : P6 v9_6 wD9 := hv9_6
    rw [hP6] at hv9_6
    obtain ⟨ho6, hb9⟩ := hv9_6
    replace hv9_11 : ((RT.int .i64).sl).V M6 wD9 [e.2] v9_11 := hv9_11
    have sX : Step M6 w6 M6 wD9 (blk vi) := (sR9.widen (fun _ h => h.elim) (fun b h => hoip.mut_ b h)).trans sD9 (fun b _ h => h)
    have hos9 := hosp.step sX (fun c hc h => hap c h hc)
    refine Rg.appendF (M := M6) (base := w0.heap.size) Tryz.underlying32 I3 rfl rfl rfl rfl hos9 hv9_11 (Le.refl _ _) (by simp; omega) (by simp; omega) (by have := Sp.size; have := sX.size; omega) (fun v12 w12 ho12 s12 hF12 => ?_)
    have hap6 : ∀ c, v9_6.ownBlock = some c → vs.ownBlock ≠ some c := fun c hc hv => by
     rcases hb9 c hc with h | h
     ·have := (hosp.base c hv).2; omega
     ·exact hap c h hv
    have ho6' := ho6.keepL s12 (fun c hc h => hap6 c hc h)
    have hap12 : Apart v12 v9_6 := fun c hc hc6 => by
     rcases hF12 c hc with h | h
     ·have := (ho6.base c hc6).2; omega
     ·exact hap6 c hc6 h
    have hb12 : ∀ c, v12.ownBlock = some c → w6.heap.size ≤ c ∨ vs.ownBlock = some c := fun c hc => (hF12 c hc).elim (fun h => .inl (by have := sX.size; omega)) .inr
    have sZ : Step M6 w6 (insV M6 v12) w12 (fun k => blk vi k ∨ blk vs k) := (sX.widen (fun _ h => .inl h) (fun b h => h.elim (hoip.mut_ b) (hosp.mut_ b))).trans s12 (fun b _ h => .inr h)
    obtain ⟨M12, eM12⟩ : ∃ M', M' = insV (insV M6 v12) v9_6 := ⟨_, rfl⟩
    have sW : Step M6 w6 M12 w12 (fun k => blk vi k ∨ blk vs k) := by rw [eM12]; exact sZ.addV (fun c hc => ⟨(ho6'.base c hc).2, (hb9 c hc).elim .inl (fun h => .inr (.inr (hoip.mut_ c h)))⟩)
    have hoi := ho6'.alli (M' := M12) (by rw [eM12]; exact fun b hb => .inl hb)
    have hos := ho12.alli (M' := M12) (by rw [eM12]; exact fun b hb => .inr (.inl hb))
    have m_g2 := (sW.mem _ (lt_of_get g2p)).2 m_g2p
    have g2 := sW.keep g2p (fun h => h.elim (hoip.neT g2p (by decide)) (hosp.neT g2p (by decide)))
    have hbuf := ((hbufp.zone (Z' := fun k => ZP w0.heap.size b2_0 vi vs k ∧ ZP w0.heap.size b2_0 v9_6 v12 k) (fun c hc hlt => ⟨hc, hc.1, hc.2.1, fun h => (hb9 c h).elim (fun h => by omega) hc.2.2.1, fun h => (hb12 c h).elim (fun h => by omega) hc.2.2.2⟩)).step sW (fun k hk hz => hk.elim hz.1.2.2.1 hz.1.2.2.2)).zone (Z' := ZP w0.heap.size b2_0 v9_6 v12) (fun c hc _ => hc.2)
    have hv := hvp.le sW.le
    have S := Sp.transNew sW (fun k hk => hk.elim (fun h => (hoip.base k h).1) (fun h => (hosp.base k h).1))
    have hM := sW.lt hMp
    --@M M12
    refine Rg.nil ⟨rfl, rfl, fun h => absurd rfl h, ?_⟩
    refine Rg.storec (M := M12) I32 rfl rfl g2 rfl (by obtain ⟨_, _, he, _⟩ := hoi.isSlice; rw [he]; rfl) m_g2 (fun w14 g14 s14 => ?_)
    replace g14 : w14.heap[b2_0]? = some (.cells #[v9_6, vs, .slice none 0 0, .slice none 0 0] 58 (0, 0)) := g14
    replace hoi := hoi.step s14 (fun c hc (h : c = b2_0) => hoi.neT g2 (by decide) (h ▸ hc))
    replace hos := hos.step s14 (fun c hc (h : c = b2_0) => hos.neT g2 (by decide) (h ▸ hc))
    replace m_g2 := (s14.mem _ (lt_of_get g2)).2 m_g2
    replace hbuf := hbuf.step s14 (fun k (hk : k = b2_0) hz => hz.2.1 hk)
    replace hv := hv.le s14.le
    replace S := S.transNew s14 (fun k (hk : k = b2_0) => by rw [hk]; omega)
    replace hM := s14.lt hM
    clear g2
    have g2 := g14
    refine Rg.nil ⟨rfl, rfl, fun h => absurd rfl h, ?_⟩
    refine Rg.fieldc (o' := 1) Tryz.underlying58 rfl rfl I32 (by decide) rfl rfl ?_
    refine Rg.nil ⟨rfl, rfl, fun h => absurd rfl h, ?_⟩
    refine Rg.storec (M := M12) I32 rfl rfl g2 rfl (by obtain ⟨_, _, he, _⟩ := hos.isSlice; rw [he]; rfl) m_g2 (fun w16 g16 s16 => ?_)
    replace g16 : w16.heap[b2_0]? = some (.cells #[v9_6, v12, .slice none 0 0, .slice none 0 0] 58 (0, 0)) := g16
    replace hoi := hoi.step s16 (fun c hc (h : c = b2_0) => hoi.neT g2 (by decide) (h ▸ hc))
    replace hos := hos.step s16 (fun c hc (h : c = b2_0) => hos.neT g2 (by decide) (h ▸ hc))
    replace m_g2 := (s16.mem _ (lt_of_get g2)).2 m_g2
    replace hbuf := hbuf.step s16 (fun k (hk : k = b2_0) hz => hz.2.1 hk)
    replace hv := hv.le s16.le
    replace S := S.transNew s16 (fun k (hk : k = b2_0) => by rw [hk]; omega)
    replace hM := s16.lt hM
    clear g2
    have g2 := g16
    refine Rg.nil ⟨rfl, rfl, fun h => absurd rfl h, ?_⟩
    refine TRg.nil ?_
    refine T.region ?_
    refine Rg.iadd rfl rfl rfl (by omega) ?_
    refine Rg.move rfl rfl ?_
    refine Rg.nil ?_
    have et : L.take (i + 1) = L.take i ++ [e] := by rw [List.take_add_one, hg5, Option.toList_some]
    rw [et] at hbuf
    refine ⟨rfl, (i + 1, v9_6, v12), (.cons rfl (.cons rfl (.cons rfl (.cons rfl (.cons rfl .nil))))), ?_, ?_⟩
    ·exact ⟨_, _, hM, S, hv, by rw [et]; exact hbuf, g2, m_g2, by rw [et, List.map_append]; exact hoi, by rw [et, List.map_append]; exact hos, hap12.symm, by omega, by dsimp only; omega, by dsimp only; omega⟩
    ·dsimp only; omega
  ·refine T.exit ?_
   refine T.seq ?_
   refine T.region ?_
   have hLi : L.take i = L := List.take_of_length_le (by omega)
   rw [hLi] at hbuf hoi hos
   refine Rg.move rfl rfl ?_
   refine Rg.call rfl rfl E58 (bkeys_spec _ hM hbuf hF (by omega)) (fun rk w11 hc => ?_)
   obtain ⟨hrk, s11⟩ := hc --@step s11
   --@vf hrk
   have := lt_of_get g2
   replace m_g2 := (s11.mem _ this).2 m_g2
   replace g2 := s11.same0 g2
   replace hv := hv.le s11.le
   replace hoi := hoi.step0 s11
   replace hos := hos.step0 s11
   replace hbuf := hbuf.step0 s11
   replace hM := s11.lt hM
   have := S.size
   replace S := S.trans0 s11
   refine Rg.fieldc (o' := 2) Tryz.underlying58 rfl rfl I55 (by decide) rfl rfl ?_
   refine Rg.storec (M := M2) I55 rfl rfl g2 rfl (V_one hrk rfl rfl) m_g2 (fun w11_3 g11_3 s11_3 => ?_)
   change w11_3.heap[_]? = some (Obj.cells #[vi, vs, rk, .slice none 0 0] _ _) at g11_3
   have := lt_of_get g2
   replace m_g2 := (s11_3.mem _ this).2 m_g2
   replace hv := hv.le s11_3.le
   replace hrk := hrk.le s11_3.le
   replace hoi := hoi.step s11_3 (fun c hc (h : c = b2_0) => hoi.neT g2 (by decide) (h ▸ hc))
   replace hos := hos.step s11_3 (fun c hc (h : c = b2_0) => hos.neT g2 (by decide) (h ▸ hc))
   replace hbuf := hbuf.stepT s11_3 (by first | exact fun k hk => by (obtain ⟨cs, hc⟩ := hol.isCells hk; exact ⟨cs, _, hc, by decide, by decide, by decide⟩) | exact fun k (hk : k = b2_0) => ⟨_, _, hk ▸ g2, by decide, by decide, by decide⟩)
   replace hM := s11_3.lt hM
   have := S.size
   replace S := S.trans s11_3 (fun k hk h => by have h : _ = _ := h; subst h; first | (exfalso; omega) | (show _ ≤ _; omega) | exact ⟨by first | omega | assumption, (S.mem _ hk).1 ((s11_3.mem _ (lt_of_get g2)).1 m_g2)⟩ | exact .inl rfl | exact .inr rfl | exact .inr (.inl rfl) | exact .inr (.inr rfl) | exact rfl)
   have g2_ := g11_3
   clear g2
   have g2 := g2_
   clear g2_
   refine Rg.nil ?_
   refine T.seq ?_
   refine T.seq ?_
   refine T.region ?_
   refine Rg.fieldc (o' := 2) Tryz.underlying58 rfl rfl I55 (by decide) rfl rfl ?_
   refine Rg.loadc Tryz.underlying55 rfl rfl rfl g2 rfl ?_
   refine Rg.eqv (v' := rk) rfl ?_
   refine Rg.lensl Tryz.underlying55 rfl hrk rfl ?_
   refine Rg.move rfl rfl ?_
   refine Rg.nil ?_
   refine T.block ?_
   refine T.loop (σ := Nat × Value) (fun q => [(4, .pointer (some ⟨b1, 0, none⟩)), (5, .pointer (some ⟨b2_0, 0, none⟩)), (44, rk), (45, .int .i64 ((keysOf L).length : Int)), (46, .int .i64 (q.1 : Int))]) (fun q w => ∃ M', Lt M' w ∧ Step M w0 M' w none' ∧ BufE (ZP w0.heap.size b2_0 vi vs) M' w w0.heap.size b1 L words (lastE (-1) L) ∧ w.heap[b2_0]? = some (.cells #[vi, vs, rk, q.2] 58 (0, 0)) ∧ M' b2_0 ∧ Own (RT.int .i64) 3 M' w w0.heap.size vi (L.map (·.1.1)) ∧ Own (RT.int .i64) 3 M' w w0.heap.size vs (L.map (·.2)) ∧ Own ((RT.po).sl) 107 M' w w0.heap.size q.2 (((keysOf L).take q.1).map (pk L)) ∧ (RT.str.sl).V M' w (keysOf L) rk ∧ q.1 ≤ (keysOf L).length) (fun q => (keysOf L).length - q.1) (0, .slice none 0 0) (.cons rfl (.cons rfl (.cons rfl (.cons rfl (.cons rfl .nil))))) ?_ ?_
   ·exact ⟨_, hM, S, hbuf, g2, m_g2, hoi, hos, Own.nil _ _ _ _ _, hrk, Nat.zero_le _⟩
   ·clear hM S hbuf g2 m_g2 hoi hos hrk hv
    rintro ⟨i3, vl⟩ w ⟨M3, hM, S, hbuf, g2, m_g2, hoi, hos, hol, hrk, hi3⟩
    dsimp only at g2 hol hi3 ⊢
    refine T.seq ?_
    refine T.region ?_
    refine Rg.ilt rfl rfl rfl ?_
    refine Rg.nil ?_
    refine T.seq ?_
    refine T.ifp rfl (fun c13 => ?_) (fun c13 => ?_)
    ·refine T.skip ?_
     refine T.seq ?_
     refine T.block ?_
     refine T.seq ?_
     refine T.region ?_
     refine Rg.idx (M := M3) Tryz.underlying55 I9 rfl rfl rfl hrk (Le.refl _ _) (by omega) (fun u14 k hg14 hu14 => ?_)
     rw [Int.toNat_natCast] at hg14
     refine Rg.load (M := M3) Tryz.underlying9 rfl rfl rfl rfl rfl hu14 (Le.refl _ _) (fun vk hvk => ?_)
     obtain rfl := V_strE hvk
     refine Rg.assign rfl rfl ?_
     refine Rg.nil ?_
     apply T.drawF 4 [0, 1] 2 none' mixed rfl rfl rfl rfl
     intro wD15 sA15
     have sD15 := sA15 M3
     have := lt_of_get g2
     replace m_g2 := (sD15.mem _ this).2 m_g2
     replace g2 := sD15.same0 g2
     replace hrk := hrk.le sD15.le
     replace hoi := hoi.step0 sD15
     replace hos := hos.step0 sD15
     replace hol := hol.step0 sD15
     replace hbuf := hbuf.step0 sD15
     replace hM := sD15.lt hM
     have := S.size
     replace S := S.trans0 sD15
     refine Rg.fieldc (o' := 3) Tryz.underlying58 rfl rfl I56 (by decide) rfl rfl ?_
     refine Rg.nil ⟨rfl, rfl, rfl, ?_⟩
     refine Rg.loadc Tryz.underlying56 rfl rfl rfl (by first | assumption | exact Step.same0 sD15 (by assumption)) rfl ?_
     refine Rg.nil ⟨rfl, rfl, rfl, ?_⟩
     refine Rg.move rfl rfl ?_
     refine Rg.nil ⟨rfl, rfl, rfl, ?_⟩
     refine Rg.move rfl rfl ?_
     refine Rg.nil ⟨rfl, rfl, rfl, ?_⟩
     refine QRg.nil ?_
     refine ⟨Floats.all ⟨FloatOk.field Tryz.underlying58 rfl I56 (by decide), ⟨FloatOk.load rfl g2 (fun h => h), trivial⟩⟩, ?_⟩
     have kp := Keep.refl none' wD15
     refine Rg.call rfl rfl E59 (bpost_spec (k := k) _ hM hbuf hF (by omega) (by have := hks k (List.mem_of_getElem? hg14); omega)) (fun r15 w15 hc => ?_)
     obtain ⟨hpo, s15⟩ := hc --@step s15
     --@vf hpo
     have := lt_of_get g2
     replace m_g2 := (s15.mem _ this).2 m_g2
     replace g2 := s15.same0 g2
     replace hrk := hrk.le s15.le
     replace hoi := hoi.step0 s15
     replace hos := hos.step0 s15
     replace hol := hol.step0 s15
     replace hbuf := hbuf.step0 s15
     replace hM := s15.lt hM
     have := S.size
     replace S := S.trans0 s15
     refine (fun (kp : Keep _ _ _) => Rg.nil ⟨rfl, rfl, fun _ => kp, ?_⟩) (by first | exact kp | exact kp.go0 (by assumption) | exact kp.goN (by assumption) | exact kp.go (by assumption) (fun _ _ h => by first | exact h | exact h.elim))
     refine Rg.sl1 (A := ((RT.po).sl)) (hn := by decide) (M := M3) Tryz.underlying56 I107 (by decide) rfl rfl hM (hpo) (.inr ⟨rfl, rfl⟩) (fun u15_5 w15_5 hu15_5 s15_5 => ?_)
     have := lt_of_get g2
     replace m_g2 := (s15_5.mem _ this).2 m_g2
     replace g2 := s15_5.same0 g2
     replace hrk := hrk.le s15_5.le
     replace hpo := hpo.le s15_5.le
     replace hoi := hoi.step0 s15_5
     replace hos := hos.step0 s15_5
     replace hol := hol.step0 s15_5
     replace hbuf := hbuf.step0 s15_5
     replace hM := s15_5.lt hM
     have := S.size
     replace S := S.trans0 s15_5
     refine (fun (kp : Keep _ _ _) => Rg.nil ⟨rfl, rfl, fun _ => kp, ?_⟩) (by first | exact kp | exact kp.go0 (by assumption) | exact kp.goN (by assumption) | exact kp.go (by assumption) (fun _ _ h => by first | exact h | exact h.elim))
     refine Rg.append (M := M3) (base := w0.heap.size) Tryz.underlying56 I107 rfl rfl rfl rfl hol hu15_5 (Le.refl _ _) (by simp; omega) (by simp; omega) (S.size) (fun u15_6 M15_6 w15_6 ho15_6 s15_6 => ?_)
     have := lt_of_get g2
     replace m_g2 := (s15_6.mem _ this).2 m_g2
     replace g2 := s15_6.keep g2 (fun h => by first | exact hol.notIter g2 h | exact hol.neT g2 (by decide) h | (have := (hol.base _ h).1; omega))
     replace hrk := hrk.le s15_6.le
     replace hpo := hpo.le s15_6.le
     replace hu15_5 := hu15_5.le s15_6.le
     replace hoi := hoi.step s15_6 (fun b h1 h2 => hoi.apartT hol (by decide) h1 h2)
     replace hos := hos.step s15_6 (fun b h1 h2 => hos.apartT hol (by decide) h1 h2)
     replace hbuf := hbuf.stepT s15_6 (by first | exact fun k hk => by (obtain ⟨cs, hc⟩ := hol.isCells hk; exact ⟨cs, _, hc, by decide, by decide, by decide⟩) | exact fun k (hk : k = b2_0) => ⟨_, _, hk ▸ g2, by decide, by decide, by decide⟩)
     replace hM := s15_6.lt hM
     have := S.size
     replace S := S.transBlk s15_6 hol (Nat.le_refl _)
     replace hol := ho15_6
     refine Rg.nil ⟨rfl, rfl, fun h => absurd rfl h, ?_⟩
     refine Rg.fieldc (o' := 3) Tryz.underlying58 rfl rfl I56 (by decide) rfl rfl ?_
     refine Rg.nil ⟨rfl, rfl, fun h => absurd rfl h, ?_⟩
     refine Rg.storec (M := M15_6) I56 rfl rfl g2 rfl (by obtain ⟨_, _, he, _⟩ := hol.isSlice; rw [he]; rfl) m_g2 (fun w15_8 g15_8 s15_8 => ?_)
     change w15_8.heap[_]? = some (Obj.cells #[vi, vs, rk, u15_6] _ _) at g15_8
     have := lt_of_get g2
     replace m_g2 := (s15_8.mem _ this).2 m_g2
     replace hrk := hrk.le s15_8.le
     replace hpo := hpo.le s15_8.le
     replace hu15_5 := hu15_5.le s15_8.le
     replace hoi := hoi.step s15_8 (fun c hc (h : c = b2_0) => hoi.neT g2 (by decide) (h ▸ hc))
     replace hos := hos.step s15_8 (fun c hc (h : c = b2_0) => hos.neT g2 (by decide) (h ▸ hc))
     replace hol := hol.step s15_8 (fun c hc (h : c = b2_0) => hol.neT g2 (by decide) (h ▸ hc))
     replace hbuf := hbuf.stepT s15_8 (by first | exact fun k hk => by (obtain ⟨cs, hc⟩ := hol.isCells hk; exact ⟨cs, _, hc, by decide, by decide, by decide⟩) | exact fun k (hk : k = b2_0) => ⟨_, _, hk ▸ g2, by decide, by decide, by decide⟩)
     replace hM := s15_8.lt hM
     have := S.size
     replace S := S.trans s15_8 (fun k hk h => by have h : _ = _ := h; subst h; first | (exfalso; omega) | (show _ ≤ _; omega) | exact ⟨by first | omega | assumption, (S.mem _ hk).1 ((s15_8.mem _ (lt_of_get g2)).1 m_g2)⟩ | exact .inl rfl | exact .inr rfl | exact .inr (.inl rfl) | exact .inr (.inr rfl) | exact rfl)
     have g2_ := g15_8
     clear g2
     have g2 := g2_
     clear g2_
     refine Rg.nil ⟨rfl, rfl, fun h => absurd rfl h, ?_⟩
     refine TRg.nil ?_
     refine T.region ?_
     refine Rg.iadd rfl rfl rfl (by omega) ?_
     refine Rg.move rfl rfl ?_
     refine Rg.nil ?_
     refine ⟨rfl, (i3 + 1, u15_6), (.cons rfl (.cons rfl (.cons rfl (.cons rfl (.cons rfl .nil))))), ?_, ?_⟩
     ·exact ⟨_, hM, S, hbuf, g2, m_g2, hoi, hos, by rw [List.take_add_one, hg14, Option.toList_some, List.map_append]; exact hol, hrk, by dsimp only; omega⟩
     ·dsimp only; omega
    ·refine T.exit ?_
     refine T.seq ?_
     refine T.region ?_
     refine Rg.loadaggc (vs := [vi, vs, rk, vl]) Tryz.underlying58 rfl I58 rfl rfl rfl g2 ?_
     rw [List.take_of_length_le (by omega)] at hol
     have hpa : RT.pa.V M _ (paOf L) _ := V_pa (x := paOf L) (hoi.close hM0 S (by show (L.map _).length ≤ _; rw [List.length_map]; omega)) (hos.close hM0 S (by show (L.map _).length ≤ _; rw [List.length_map]; omega)) (hrk.le (Le.close hM0 S)) (hol.close hM0 S (by show ((keysOf L).map _).length ≤ _; rw [List.length_map]; omega))
     replace S := S.back
     replace hM := S.lt hM0
     refine Rg.call rfl rfl E27 (smake_spec (p := paOf L) _ hM hpa (room_pa hF (by omega))) (fun r17 w17 hc => ?_)
     obtain ⟨s17, hok17, _⟩ := hc
     obtain ⟨sg, rfl, hsg⟩ := hok17 (okP_of hok (by omega))
     replace S := S.trans0 s17
     refine Rg.extract rfl rfl rfl ?_
     refine Rg.extract rfl rfl rfl ?_
     refine Rg.assign rfl rfl ?_
     refine Rg.assign rfl rfl ?_
     refine Rg.nil ?_
     refine T.ret ?_
     exact Kret2 rfl rfl rfl ⟨sg, rfl, hsg, S⟩
end Go.K
namespace Go.K
open Go.Proofs
namespace TKSegF
theorem B127 : placesOf Tryz.prog 127 = [(0, 1), (1, 1)].map some := by kernel_rfl
theorem E15 : Enters Tryz.prog 15 := enters Tryz.func15 rfl (by decide)
theorem E70 : Enters Tryz.prog 70 := enters Tryz.func70 rfl (by decide)
end TKSegF
open TKSegF
set_option linter.unusedVariables false
set_option linter.unusedSimpArgs false
set_option maxRecDepth 10000
theorem ex_words : words [97] = [[97]] := by
 have h : signs [97] = [97] := by rw [signs_step (by simp)]; simp [dec, decG, atB, contB, signs_nil]
 unfold words; rw [h]; simp [takeF]; rfl
theorem ex_tells : tellsL [([116], [97])] = [(([116], [97]), 0)] := by
 show tellF ([116], [97]) ++ [] = _
 unfold tellF; rw [ex_words]; rfl
end Go.K
namespace Go.K
open Go.Proofs
namespace TKErsD
theorem I51 : TI Tryz.prog 51 (.agg #[(.string ⟨#[]⟩), (.string ⟨#[]⟩), (.int .i64 0)]) 3 40 := by unfold TI; kernel_rfl
theorem B51 : placesOf Tryz.prog 51 = [(0, 2), (2, 1)].map some := by kernel_rfl
theorem B127 : placesOf Tryz.prog 127 = [(0, 1), (1, 1)].map some := by kernel_rfl
theorem E15 : Enters Tryz.prog 15 := enters Tryz.func15 rfl (by decide)
theorem E24 : Enters Tryz.prog 24 := enters Tryz.func24 rfl (by decide)
end TKErsD
open TKErsD
set_option linter.unusedVariables false
set_option linter.unusedSimpArgs false
set_option maxRecDepth 10000
abbrev exM : List En := [((0, [([116], [97])]), 1), ((0, [([116], [97])]), 5)]
theorem exM_ok : okL (-1) exM = true := by
 have h : ∀ a b : Int, a < b → addE a ((0, [([116], [97])]), b) = 0 := by
  intro a b hab
  have hm : mayD (0, [([116], [97])]) = 0 := by
   unfold mayD
   simp only [mayL, ex_words]
   decide
  unfold addE
  rw [if_neg (fun h => h hm), if_neg (by show ¬ b ≤ a; omega)]
 show (decide (addE (-1) ((0, [([116], [97])]), 1) = 0) && (decide (addE 1 ((0, [([116], [97])]), 5) = 0) && true)) = true
 rw [h (-1) 1 (by decide), h 1 5 (by decide)]; rfl
theorem exM_okC : OkC (atK (seP (paOf exM)).2.2.1 ((keysOf exM).map (pk exM)) (keyE ([116], [97]))) := by
 show OkC (atK (keysOf exM) _ _)
 rw [atK_pk]; exact okC_pk (okL_fine exM_ok) (by decide) _
theorem exM_pk : (pk exM (keyE ([116], [97]))).map (fun p : Po => p.1) = [0, 1] := by
 show (pkE 0 (tellsL [([116], [97])]) (keyE ([116], [97])) ++ (pkE 1 (tellsL [([116], [97])]) (keyE ([116], [97])) ++ [])).map (fun p : Po => p.1) = _
 rw [ex_tells]; decide
theorem exM_takes : takeZ (atK (seP (paOf exM)).2.2.1 ((keysOf exM).map (pk exM)) (keyE ([116], [97]))) (seP (paOf exM)).2.1 3 = [0] := by
 show takeZ (atK (keysOf exM) _ _) [1, 5] 3 = [0]
 rw [atK_pk]; unfold takeZ; rw [exM_pk]; decide
theorem lives15_spec {M : PSet} (w0 : World) (hM : Lt M w0) :
  Spec Tryz.prog 26 #[] w0 (fun v w => v = .bool true ∧ Step M w0 M w none') := by
 refine spec_of (args := []) (fn := Tryz.f26) Tryz.func26 rfl (n := 32) Tryz.ntmps26 ?_
 have S : Step M w0 M w0 none' := (Step.refl _ _).widen (fun _ h => h.elim) (fun _ h => h.elim)
 refine T.seq ?_
 refine T.region ?_
 refine Rg.assign rfl rfl ?_
 refine Rg.nil ?_
 refine T.seq ?_
 refine T.region ?_
 refine Rg.build (places := [(0, 1), (1, 1)]) Tryz.underlying127 I127 B127 rfl ⟨_, _, rfl, rfl, _, _, rfl, rfl, rfl⟩ (out := [_, _]) ⟨0, [_], rfl, rfl, by simp [Value.cells], 1, [_], rfl, rfl, by simp [Value.cells], rfl⟩ ?_
 refine Rg.sl1 (A := RT.fd) (hn := by decide) (M := M) Tryz.underlying39 I127 (by decide) rfl rfl hM (kv_V (t := ([116], [97])) (by decide) (by decide)) (.inl rfl) (fun u1_1 w1_1 hu1_1 s1_1 => ?_)
 replace hM := s1_1.lt hM
 have := S.size
 replace S := S.trans0 s1_1
 refine Rg.build (places := [(0, 1), (1, 1)]) Tryz.underlying41 I41 B41 rfl ⟨_, _, rfl, rfl, rfl⟩ (out := [.int .i64 0, _]) ⟨1, [_], rfl, V_cells hu1_1, by simp [Value.cells], rfl⟩ ?_
 have hdd : RT.dc.V M _ (0, [([116], [97])]) (.agg #[.int .i64 0, u1_1]) := V_pair_mk (V_i64 (by decide)) hu1_1 rfl rfl rfl rfl
 refine Rg.newagg (A := RT.dc) (M := M) I41 rfl rfl rfl rfl rfl (by assumption) (Le.refl _ _) hM (fun u1_3 w1_3 hu1_3 s1_3 z1_3 => ?_)
 replace hu1_1 := hu1_1.le s1_3.le
 replace hM := s1_3.lt hM
 have := S.size
 replace S := S.trans0 s1_3
 refine Rg.nil ?_
 refine T.seq ?_
 refine T.region ?_
 refine Rg.loadagg (M := M) (A := RT.dc) Tryz.underlying41 rfl I41 (by decide) rfl rfl rfl hu1_3 (Le.refl _ _) (fun v hv2_0 => ?_)
 obtain ⟨w2_0, rfl⟩ := dc_val hv2_0
 refine Rg.build (places := [(0, 2), (2, 1)]) Tryz.underlying43 I43 B43 rfl ⟨_, _, rfl, rfl, _, _, rfl, rfl, rfl⟩ (out := [_, _, _]) ⟨0, [_, _], rfl, rfl, by simp [Value.cells], 2, [_], rfl, rfl, by simp [Value.cells], rfl⟩ ?_
 refine Rg.loadagg (M := M) (A := RT.dc) Tryz.underlying41 rfl I41 (by decide) rfl rfl rfl hu1_3 (Le.refl _ _) (fun v hv2_2 => ?_)
 obtain ⟨w2_2, rfl⟩ := dc_val hv2_2
 refine Rg.build (places := [(0, 2), (2, 1)]) Tryz.underlying43 I43 B43 rfl ⟨_, _, rfl, rfl, _, _, rfl, rfl, rfl⟩ (out := [_, _, _]) ⟨0, [_, _], rfl, rfl, by simp [Value.cells], 2, [_], rfl, rfl, by simp [Value.cells], rfl⟩ ?_
 refine Rg.sln (A := RT.en) (hn := by decide) (M := M) (xs := exM) Tryz.underlying37 I43 rfl (by decide) rfl ⟨_, _, _, rfl, rfl, rfl, en_mk hv2_0 (by decide), _, _, _, rfl, rfl, rfl, en_mk hv2_2 (by decide), rfl⟩ rfl hM (.inl rfl) (by decide) (fun u4 w4 hu4 s4 => ?_)
 replace hu1_1 := hu1_1.le s4.le
 replace hu1_3 := hu1_3.le (by decide) s4.le
 replace hM := s4.lt hM
 have := S.size
 replace S := S.trans0 s4
 refine Rg.call rfl rfl E15 (build_spec (L := exM) _ hM hu4 (fun e he f hf => by simp only [exM, List.mem_cons, List.mem_nil_iff, or_false] at he; rcases he with rfl | rfl <;> (simp only [List.mem_singleton] at hf; subst hf; decide)) (by decide) exM_ok) (fun r5 w5 hc => ?_)
 obtain ⟨sb, rfl, hsb, s5⟩ := hc
 obtain ⟨ab, rfl⟩ := hsb.isPtr
 replace hu1_1 := hu1_1.le s5.le
 replace hu1_3 := hu1_3.le (by decide) s5.le
 replace hu4 := hu4.le s5.le
 replace hM := s5.lt hM
 have := S.size
 replace S := S.trans0 s5
 refine Rg.move rfl rfl ?_
 refine Rg.extract rfl rfl rfl ?_
 refine Rg.extract rfl rfl rfl ?_
 refine Rg.assign rfl rfl ?_
 refine Rg.assign rfl rfl ?_
 refine Rg.nil ?_
 refine T.seq ?_
 refine T.seq ?_
 refine T.region ?_
 refine Rg.move rfl rfl ?_
 refine Rg.ptreq Tryz.underlying25 rfl rfl rfl ?_
 refine Rg.nil ?_
 refine T.iffp rfl ((by simp)) ?_
 refine T.skip ?_
 refine T.seq ?_
 refine T.region ?_
 refine Rg.move rfl rfl ?_
 refine Rg.build (places := [(0, 1), (1, 1)]) Tryz.underlying47 I47 B47 rfl ⟨_, _, rfl, rfl, _, _, rfl, rfl, rfl⟩ (out := [_, _]) ⟨0, [_], rfl, rfl, by simp [Value.cells], 1, [_], rfl, rfl, by simp [Value.cells], rfl⟩ ?_
 refine Rg.build (places := [(0, 2), (2, 1)]) Tryz.underlying51 I51 B51 rfl ⟨_, _, rfl, rfl, _, _, rfl, rfl, rfl⟩ (out := [_, _, _]) ⟨0, [_, _], rfl, rfl, by simp [Value.cells], 2, [_], rfl, rfl, by simp [Value.cells], rfl⟩ ?_
 refine Rg.call rfl rfl E24 (taken_spec (e := (([116], [97]), 3)) (ls := (keysOf exM).map (pk exM)) _ hM hsb (er_mk ⟨by decide, by decide⟩ (by decide)) (keys_up exM) rfl (by rw [List.length_map]; rfl) exM_okC) (fun r3 w3 hc => ?_)
 obtain ⟨hr3, s3⟩ := hc
 rw [exM_takes] at hr3
 replace hu1_1 := hu1_1.le s3.le
 replace hu1_3 := hu1_3.le (by decide) s3.le
 replace hu4 := hu4.le s3.le
 replace hsb := hsb.le (by decide) s3.le
 replace hM := s3.lt hM
 have := S.size
 replace S := S.trans0 s3
 refine Rg.assign rfl rfl ?_
 refine Rg.nil ?_
 refine T.seq ?_
 refine T.region ?_
 refine Rg.move rfl rfl ?_
 refine Rg.lensl Tryz.underlying32 rfl hr3 rfl ?_
 refine Rg.ieq rfl rfl rfl ?_
 refine Rg.move rfl rfl ?_
 refine Rg.gtrue (g := 26) rfl (rfl) ?_
 refine Rg.gyes rfl rfl ?_
 refine Rg.move rfl rfl ?_
 refine Rg.gyes rfl rfl ?_
 refine Rg.idx (M := M) Tryz.underlying32 I3 rfl rfl rfl hr3 (Le.refl _ _) (by decide) (fun u9 e hg9 hu9 => ?_)
 refine Rg.gyes rfl rfl ?_
 refine Rg.loadi64 (M := M) Tryz.underlying3 rfl rfl hu9 (Le.refl _ _) (fun hin => ?_)
 obtain rfl : e = 0 := by simpa using hg9.symm
 refine Rg.gyes rfl rfl ?_
 refine Rg.ieq rfl rfl rfl ?_
 refine Rg.pickt rfl rfl rfl ?_
 refine Rg.assign rfl rfl ?_
 refine Rg.nil ?_
 refine T.ret ?_
 exact Kret1 rfl rfl ⟨rfl, S⟩
end Go.K
namespace Go.K
set_option linter.unusedVariables false
set_option linter.unusedSimpArgs false
variable {P : Program} {r : Option Nat} {n : Nat} {L : Sl} {ds : List Deferred} {w : World} {K : Kt} {ops : Array Oper} {rest : List Oper} {d : Nat} {x y : Operand} {ty : TypeId} {pos : String} {af : Array Edge} {α : Type} {A : RT α}
def AnyR {α : Type} (A : RT α) : Prop := ∀ (M M' : PSet) (w w' : World) (x : α) (vs : List Value), A.R M w x vs → A.R M' w' x vs
theorem AllR.anyw {M M' : PSet} {w w' : World} (hA : AnyR A) : ∀ {xs : List α} {C : List Value}, AllR A M w xs C → AllR A M' w' xs C
 |[], _, h => h
 |_ :: _, _, ⟨vs, rest, h1, h2, h3⟩ => ⟨vs, rest, h1, hA _ _ _ _ _ _ h2, AllR.anyw hA h3⟩
theorem Own.cellsAt {e : TypeId} {M : PSet} {base b : Nat} {v : Value} {xs : List α} (h : Own A e M w base v xs) (hb : v.ownBlock = some b) : ∃ cs, w.heap[b]? = some (.cells cs e (0, 0)) := by
 obtain ⟨⟨C, hr, _⟩, _⟩ := h
 rcases hr.2 with ⟨h1, h2⟩ | ⟨g, cap, cur, h1, h2, h3, _⟩
 ·rw [h1] at hb; cases hb
 ·rw [h1] at hb; cases hb; exact ⟨_, h3⟩
structure QRow {α : Type} (A : RT α) (hn : 0 < A.n) (e : TypeId) (M : PSet) (w : World) (base : Nat) (v : Value) (xs : List α) : Prop where
 h : Own A e M w base v xs ∨ ∃ a, v = .slice a xs.length xs.length ∧ (a = none → xs = []) ∧ (A.sl hn).V (rm M v) w xs v
 c : ∀ b, v.ownBlock = some b → base ≤ b ∧ M b ∧ ∃ cs, w.heap[b]? = some (.cells cs e (0, 0))
section
variable {hn : 0 < A.n} {e : TypeId} {M M' N : PSet} {w' : World} {base : Nat} {v : Value} {xs : List α}
theorem QRow.own (h : Own A e M w base v xs) : QRow A hn e M w base v xs := ⟨.inl h, fun b hb => ⟨(h.base b hb).1, h.mut_ b hb, h.cellsAt hb⟩⟩
theorem QRow.step (h : QRow A hn e M w base v xs) (s : Step M w M' w' N) (hN : ∀ b, v.ownBlock = some b → ¬ N b) : QRow A hn e M' w' base v xs := by
 have hle : Le (rm M v) w (rm M' v) w' := fun b hb hm => by
  by_cases hv : v.ownBlock = some b
  ·exact ⟨fun h => h.2 hv, s.same b hb (hN b hv)⟩
  ·have hM : ¬ M b := fun h => hm ⟨h, hv⟩
   exact ⟨fun h => hM ((s.mem b hb).1 h.1), s.same b hb fun h => hM (s.sub b h)⟩
 refine ⟨h.h.imp (fun ho => ho.step s hN) (fun ⟨a, h1, h2, h3⟩ => ⟨a, h1, h2, h3.le hle⟩), fun b hb => ?_⟩
 obtain ⟨h1, h2, cs, h3⟩ := h.c b hb
 exact ⟨h1, (s.mem b (lt_of_get h3)).2 h2, cs, s.keep h3 (hN b hb)⟩
theorem QRow.view (h : QRow A hn e M w base v xs) (hlen : xs.length ≤ 140737488355328) : (A.sl hn).V (rm M v) w xs v := by
 rcases h.h with h | ⟨a, _, _, h⟩
 ·exact h.view hlen
 ·exact h
theorem QRow.isSlice (h : QRow A hn e M w base v xs) : ∃ a cap, v = .slice a xs.length cap := by
 rcases h.h with h | ⟨a, h, _⟩
 ·obtain ⟨a, cap, h, _⟩ := h.isSlice; exact ⟨a, cap, h⟩
 ·exact ⟨a, _, h⟩
theorem QRow.neT (h : QRow A hn e M w base v xs) {b : Nat} {t : TypeId} {cs : Array Value} {fr : Nat × Nat} (hb : w.heap[b]? = some (.cells cs t fr)) (ht : t ≠ e) : v.ownBlock ≠ some b := fun hv => by
 obtain ⟨_, _, cs', hc⟩ := h.c b hv
 rw [hb] at hc; injection hc with hc; injection hc with _ hc; exact ht hc
end
theorem Own.moveQ {e : TypeId} {M M2 : PSet} {w' : World} {base : Nat} {v : Value} {xs : List α} (hA : AnyR A) (h : Own A e M2 w' base v xs) (s : Step M w M2 w' none') (hb : w.heap.size ≤ base) (M1 : PSet) : Own A e (insV M1 v) w' base v xs ∧ Step M1 w (insV M1 v) w' none' := by
 have hb' := h.base
 obtain ⟨⟨C, hr, ha⟩, hm⟩ := h
 refine ⟨⟨⟨C, hr, ha.anyw hA⟩, fun b hb => .inl hb⟩, fun hl b hb2 => ?_, s.os, s.tape, s.output, s.size, fun b hb2 => ⟨fun h => h.resolve_left fun e => by have := (hb' b e).1; omega, .inr⟩, s.same, fun b h => h.elim⟩
 rcases hb2 with h | h
 ·exact (hb' b h).2
 ·exact Nat.lt_of_lt_of_le (hl b h) s.size
theorem Own.freshV {hn : 0 < A.n} {e : TypeId} {M M1 M2 : PSet} {w' : World} {base : Nat} {v : Value} {xs : List α} (hA : AnyR A) (h : Own A e M2 w' base v xs) (s : Step M w M2 w' none') (hb : w.heap.size ≤ base) (hM : Lt M1 w) (hlen : xs.length ≤ 140737488355328) : (A.sl hn).V M1 w' xs v ∧ Step M1 w M1 w' none' := by
 have hb' := h.base
 obtain ⟨h1, h2⟩ := h.moveQ hA s hb M1
 exact ⟨h1.sl (fun b _ hn' => ⟨fun h => hn' (.inr h), rfl⟩) (fun b hb1 hM' => by have h3 := (hb' b hb1).1; have h4 := hM b hM'; omega) hlen, s.any M1⟩
theorem Rg.appendQ {t e : TypeId} {zv : Value} {bytes : Nat} {hn : 0 < A.n} {M M2 : PSet} {w2 : World} {base : Nat} {v u : Value} {xs ys : List α} (hA : AnyR A) (ht : P.underlying t = some (.slice e)) (hi : TI P e zv A.n bytes) (hz : zv.cells.size = A.n)
  (hx : ev L x = some v) (hy : ev L y = some u) (hd : Nat.blt d n = true) (h : QRow A hn e M w base v xs) (hu : (A.sl hn).V M2 w2 ys u) (hle : Le M2 w2 M w) (hne : 0 < ys.length) (hlen : xs.length + ys.length ≤ 140737488355328)
  (hb : (xs.length + ys.length) * bytes ≤ 140737488355328) (hbase : base ≤ w.heap.size)
  (k : ∀ v' M' w', QRow A hn e M' w' base v' (xs ++ ys) → Step M w M' w' (blk v) → Rg P r n ops rest ((d, v') :: L) ds w' K) :
  Rg P r n ops ({ dst := some d, op := .call { callee := .builtin .append, args := #[x, y], argTypes := #[t, t] }, type := ty, pos, after := af, guard := none } :: rest) L ds w K := by
 obtain ⟨hh, hc⟩ := h
 rcases hh with h | ⟨a, hv, hnone, h⟩
 ·exact .append ht hi hz hx hy hd h hu hle hlen hb hbase fun v' M' w' h1 h2 => k v' M' w' (.own h1) h2
 ·have hx' : ev L x = some (.slice a xs.length xs.length) := by rw [hx, hv]
  have h' : (A.sl hn).V (rm M v) w xs (.slice a xs.length xs.length) := by rw [← hv]; exact h
  refine .appendclip ht hi hz hx' hy hd h' hnone hu (Le.trans hle (le_rm M v w)) hne hlen hb fun v' M' w' h1 h2 => k v' (insV M v') w' ?_ ?_
  ·obtain ⟨⟨C, hr, ha⟩, hm⟩ := h1.rebase hbase
   exact .own ⟨⟨C, hr, ha.anyw hA⟩, fun b hb => .inl hb⟩
  ·have hb' := h1.base
   refine ⟨fun hl b hb => ?_, h2.os, h2.tape, h2.output, h2.size, fun b hb => ⟨fun h => h.resolve_left fun e => by have := (hb' b e).1; omega, .inr⟩, fun b hb _ => h2.same b hb (fun h => h), fun b hb => (hc b hb).2.1⟩
   rcases hb with hb | hb
   ·exact (hb' b hb).2
   ·exact Nat.lt_of_lt_of_le (hl b hb) h2.size
theorem Rg.cloneQ {t e : TypeId} {zv : Value} {bytes : Nat} {hn : 0 < A.n} {M M2 : PSet} {a : Option Addr} {u : Value} {ys : List α} (hA : AnyR A) (ht : P.underlying t = some (.slice e)) (hi : TI P e zv A.n bytes) (hz : zv.cells.size = A.n)
  (hx : ev L x = some (.slice a 0 0)) (hy : ev L y = some u) (hd : Nat.blt d n = true) (hu : (A.sl hn).V M2 w ys u) (hm : Lt M w) (hm2 : Lt M2 w) (hb1 : ys.length ≤ 140737488355328) (hb : ys.length * bytes ≤ 140737488355328)
  (k : ∀ v' w', (A.sl hn).V M w' ys v' → Step M w M w' none' → Rg P r n ops rest ((d, v') :: L) ds w' K) :
  Rg P r n ops ({ dst := some d, op := .call { callee := .builtin .append, args := #[x, y], argTypes := #[t, t] }, type := ty, pos, after := af, guard := none } :: rest) L ds w K := by
 cases ys with
 |nil =>
  refine .appendnew ht hi hz hx hy hd hu (Le.refl _ _) hm2 hb fun v' w' h1 h2 => k v' w' ?_ (h2.any M)
  obtain ⟨a, cap, rfl, hc, hl, _⟩ := V_sl.1 h1
  exact V_sl.2 ⟨a, cap, rfl, hc, hl, .inl rfl⟩
 |cons y0 ys =>
  refine .appendclip (xs := []) ht hi hz hx hy hd (V_sl.2 ⟨a, 0, rfl, by simp, by simp, .inl rfl⟩) (fun _ => rfl) hu (Le.refl _ _) (by simp) (by simpa using hb1) (by simpa using hb) fun v' M' w' h1 h2 => k v' w' ?_ (h2.any M)
  have hb' := h1.base
  obtain ⟨⟨C, hr, ha⟩, hm'⟩ := h1
  rw [List.nil_append] at hr ha
  have ho : Own A e (insV M v') w' w.heap.size v' (y0 :: ys) := ⟨⟨C, hr, ha.anyw hA⟩, fun b hb => .inl hb⟩
  exact ho.sl (fun b _ hn' => ⟨fun h => hn' (.inr h), rfl⟩) (fun b hb hM => by have h1 := (hb' b hb).1; have h2 := hm b hM; omega) hb1
theorem Rg.cutQ {t e : TypeId} {l h m : Operand} {κ κ' κ'' : IntKind} {lo hi mx : Int} {hn : 0 < A.n} {M : PSet} {base : Nat} {xs : List α} {v zv : Value} {bytes : Nat} (ht : P.underlying t = some (.slice e)) (hti : TI P e zv A.n bytes)
  (hx : ev L x = some v) (hl : ev L l = some (.int κ lo)) (hh : ev L h = some (.int κ' hi)) (hm : ev L m = some (.int κ'' mx)) (hd : Nat.blt d n = true) (hv : QRow A hn e M w base v xs) (hb : 0 ≤ lo ∧ lo ≤ hi ∧ hi = mx ∧ hi = xs.length) (hlen : xs.length ≤ 140737488355328)
  (k : ∀ u, QRow A hn e M w base u (xs.drop lo.toNat) → u.ownBlock = v.ownBlock → Rg P r n ops rest ((d, u) :: L) ds w K) :
  Rg P r n ops ({ dst := some d, op := .slice t x (some l) (some h) (some m), type := ty, pos, after := af, guard := none } :: rest) L ds w K := by
 have hc' := hv.c
 have hvv := hv.view hlen
 obtain ⟨a, cap, hva, hc, hlen', hs⟩ := V_sl.1 hvv
 obtain ⟨h1, h2, rfl, h3⟩ := hb
 have hlen2 : (xs.drop lo.toNat).length = hi.toNat - lo.toNat := by rw [List.length_drop]; omega
 have htk : (xs.take hi.toNat).drop lo.toNat = xs.drop lo.toNat := by rw [List.take_of_length_le (by omega)]
 have hob : (sliced a lo.toNat hi.toNat hi.toNat A.n).ownBlock = v.ownBlock := by
  rw [hva]; unfold sliced
  cases a with
  |none => simp [Value.ownBlock]
  |some a => split <;> simp [Value.ownBlock, Addr.add] <;> split <;> rfl
 have hV : (A.sl hn).V (rm M v) w ((xs.take hi.toNat).drop lo.toNat) (sliced a lo.toNat hi.toNat hi.toNat A.n) :=
  V_sl.2 ⟨_, hi.toNat - lo.toNat, by rw [htk, hlen2]; rfl, by rw [htk]; omega, by rw [htk]; omega, hs.slice lo.toNat hi.toNat cap hi.toNat (by omega) (by omega) (by omega)⟩
 rw [htk] at hV
 have hrm : rm M (sliced a lo.toNat hi.toNat hi.toNat A.n) = rm M v := by unfold rm; rw [hob]
 refine .op (fun _ h => by cases h) rfl rfl hd (sliced a lo.toNat hi.toNat hi.toNat A.n) w (fun ρ hρ => ?_) (k _ ⟨.inr ⟨_, by rw [hlen2]; rfl, fun hn' => ?_, by rw [hrm]; exact hV⟩, fun b hb => hc' b (by rw [← hob]; exact hb)⟩ hob)
 ·simp only [execOp, hρ x _ hx, hva, Option.map_some, hρ l _ hl, hρ h _ hh, hρ m _ hm]
  rw [Sem.run_bind, run_sliceAt_slice _ _ _ _ _ _ (elem_of ht), run_slice_lhm _ _ _ _ _ (elem_of ht) _ _ _ _ _ _ h1 h2 (Int.le_refl _) (by omega), elem_eq ht, hti.sizeOf]
  simp
 ·rcases hs with rfl | ⟨b, o, rfl, _⟩
  ·simp
  ·split at hn' <;> simp at hn'
end Go.K
namespace Go.K
set_option linter.unusedVariables false
set_option linter.unusedSimpArgs false
section
variable {P : Program} {r : Option Nat} {n : Nat} {L : Sl} {ds : List Deferred} {w : World} {K : Kt}
def TRgN (P : Program) (r : Option Nat) (n : Nat) (ops : Array Oper) (N : Nat → PSet) (wd : World) (K : Kt) : Nat → Nat → List Oper → Sl → List Deferred → World → Prop
 |_, _, [], L, ds, w => K .normal L ds w
 |k, c, o :: rest, L, ds, w => Rg P r n ops [o] L ds w (fun e L' ds' w' => e = .normal ∧ ds' = ds ∧ (c ≠ 0 → Keep (N (k + 1)) wd w') ∧ TRgN P r n ops N wd K (k + 1) (c - 1) rest L' ds w')
theorem TRgN.nil {ops : Array Oper} {N : Nat → PSet} {wd : World} {k c : Nat} (h : K .normal L ds w) : TRgN P r n ops N wd K k c [] L ds w := h
def lateOk (l : List Oper) (m j k : Nat) : Bool := (List.range k).all fun q => match l[m + q]? with
 |some o => !(preds o).contains j
 |none => true
theorem lateOk_of {l : List Oper} {m j k : Nat} (h : ∀ q o, q < k → l[m + q]? = some o → j ∉ preds o) : lateOk l m j k = true := by
 refine List.all_eq_true.2 fun q hq => ?_
 cases ho : l[m + q]? with
 |none => rfl
 |some o => have := h q o (List.mem_range.1 hq) ho; simpa [ho] using this
theorem lateOk_le {l : List Oper} {m j k k' : Nat} (h : lateOk l m j k = true) (hk : k' ≤ k) : lateOk l m j k' = true :=
 List.all_eq_true.2 fun q hq => List.all_eq_true.1 h q (List.mem_range.2 (by have := List.mem_range.1 hq; omega))
structure GJN (P : Program) (r : Option Nat) (n : Nat) (l : List Oper) (m : Nat) (fl : List Nat) (c : Nat) (N : Nat → PSet) (K : Kt) (ds : List Deferred) (a0 am : Act) (wd : World) (D : Nat → Prop) (a : Act) (w : World) (p : Nat) (ac : Act) (Lp : Sl) : Prop where
 p0 : m ≤ p
 p1 : p ≤ l.length
 dt : ∀ i, m ≤ i → i < l.length → (D i ↔ i < p)
 df : m < p → ∀ i, i < m → i ∉ fl → D i
 ag : Agree n ac Lp ds
 tr : TRgN P r n l.toArray N wd K (p - m) (c + m - p) (l.drop p) Lp ds w
 keep : p ≤ m + c → Keep (N (p - m)) wd w
 da : m + c < p → ∀ i, i < m → D i
 wm : p = m → w = wd
 defers : a.defers = ds
 size : a.tmps.size = a0.tmps.size
 sizec : ac.tmps.size = a0.tmps.size
 done : ∀ t, (∀ i o, i < m → l[i]? = some o → o.dst = some t → D i) → a.tmps[t]? = ac.tmps[t]?
 pend : ∀ i o t, i < m → l[i]? = some o → o.dst = some t → ¬ D i → a.tmps[t]? = a0.tmps[t]?
 cm : ∀ t, (∀ i o, m ≤ i → i < p → l[i]? = some o → o.dst ≠ some t) → ac.tmps[t]? = am.tmps[t]?
theorem GJN.next {l : List Oper} {m : Nat} {fl : List Nat} {c : Nat} {N : Nat → PSet} {a0 am : Act} {vals : List Value} {wd : World} (hlex : lexOk l 0 = true) (hsl : slotsOk l m = true) (hfl : floatsOk l m fl c = true) (hml : m < l.length) (hvl : ∀ i, i < m → ∃ v, vals[i]? = some v)
  {st : Nat → Act} (hst : ∀ j o, j < m → l[j]? = some o → ∃ v, vals[j]? = some v ∧ One P r l.toArray wd o (st j) v) (hjs : ∀ j, j < m → QJ l m a0 vals wd (fun i => i < j) (st j) wd) (ham : QJ l m a0 vals wd (fun i => i < m) am wd)
  {Lm : Sl} (hLm : Agree n am Lm ds) (hF : ∀ j o k, j ∈ fl → l[j]? = some o → lateOk l m j k = true → FloatOk P (N k) wd Lm o)
  {Q : Exit → Act → World → Prop} {D : Nat → Prop} {a : Act} {w : World} {j : Nat} {o : Oper} {rest : List Nat} (ho : l[j]? = some o) (hnD : ¬ D j) (hp : ∀ k ∈ preds o, D k) (hcl : ∀ i o, l[i]? = some o → D i → ∀ k ∈ preds o, D k) (hi : ∃ p ac Lp, GJN P r n l m fl c N K ds a0 am wd D a w p ac Lp)
  (hk : ∀ a' w', (∃ p ac Lp, GJN P r n l m fl c N K ds a0 am wd (fun i => i = j ∨ D i) a' w' p ac Lp) → wpOpsIn (FW r) 0 P l.toArray Q rest a' w') : wpOpsIn (FW r) 0 P l.toArray Q (j :: rest) a w := by
 obtain ⟨p, ac, Lp, hi⟩ := hi
 obtain ⟨hall_, hch, hbeh, htl, hfo⟩ := floatsOk_get hfl
 have hjl := (List.getElem?_eq_some_iff.1 ho).1
 rcases Nat.lt_or_ge j m with hj | hj
 ·obtain ⟨v, hv, h1⟩ := hst j o hj ho
  obtain ⟨hq, hso⟩ := slotsOk_get hsl hj ho
  have hmf : m < p → j ∈ fl := fun h => Classical.byContradiction fun hf => hnD (hi.df h j hj hf)
  have hag : ∀ t ∈ asks l o, a.tmps[t]? = (st j).tmps[t]? := fun t ht => by
   by_cases hx : ∃ i o', i < m ∧ l[i]? = some o' ∧ o'.dst = some t
   ·obtain ⟨i, o', him, ho', hd⟩ := hx
    obtain ⟨v', hv'⟩ := hvl i him
    rcases hso t ht i o' him ho' hd with h | h | h
    ·have hDi := hp i h
     have hij := lexOk_preds hlex j o ho i h
     rw [hi.done t (fun k ok hkm hok hkd => by rw [dst_unique hlex hok ho' hkd hd]; exact hDi), hi.cm t (fun k ok hk1 hk2 hok hkd => by have := dst_unique hlex hok ho' hkd hd; omega), ham.done i o' v' t him ho' hv' him hd, (hjs j hj).done i o' v' t him ho' hv' (by omega) hd]
    ·subst h
     rw [hi.pend i o' t him ho' hd hnD, (hjs i hj).base t (fun k ok hkm hok hkd hkk => by have := dst_unique hlex hok ho' hkk hd; omega)]
    ·have hij := lexOk_preds hlex i o' ho' j h
     rw [hi.pend i o' t him ho' hd (fun hDi => hnD (hcl i o' ho' hDi j h)), (hjs j hj).base t (fun k ok hkm hok hkd hkk => by have := dst_unique hlex hok ho' hkk hd; omega)]
   ·have hno : ∀ k ok, k < m → l[k]? = some ok → ok.dst ≠ some t := fun k ok hkm hok hkd => hx ⟨k, ok, hkm, hok, hkd⟩
    rw [hi.done t (fun k ok hkm hok hkd => absurd hkd (hno k ok hkm hok)), hi.cm t (fun k ok hk1 hk2 hok hkd => by
     rcases hfo j o hj (hmf (by omega)) ho t ht k ok hok hkd with h | ⟨_, h⟩
     ·have := lexOk_preds hlex j o ho k h; omega
     ·exact hnD (hcl k ok hok ((hi.dt k hk1 (List.getElem?_eq_some_iff.1 hok).1).2 hk2) j h)), ham.base t (fun k ok hkm hok _ => hno k ok hkm hok), (hjs j hj).base t (fun k ok hkm hok _ => hno k ok hkm hok)]
  obtain ⟨hev, hwt⟩ := asks_eval hag
  have h2 : One P r l.toArray w o a v := by
   rcases Nat.eq_or_lt_of_le hi.p0 with hpm | hpm
   ·have hww := hi.wm hpm.symm
    unfold One at h1 ⊢
    rw [hwt, quiet_cong hq hev, hww]; exact h1
   ·have hjf := hmf hpm
    have hagm : ∀ t ∈ asks l o, am.tmps[t]? = (st j).tmps[t]? := fun t ht => ham.agree hlex hvl (hjs j hj) fun i o' him ho' hd => by
     rcases hfo j o hj hjf ho t ht i o' ho' hd with h | ⟨h, _⟩
     ·have := lexOk_preds hlex j o ho i h; exact ⟨fun _ => by omega, fun _ => him⟩
     ·omega
    obtain ⟨hevm, _⟩ := asks_eval hagm
    unfold One at h1 ⊢
    rw [hwt]
    split
    ·rename_i hw
     rw [if_pos hw] at h1
     rw [← quiet_cong hq hevm] at h1
     rw [quiet_cong hq hev, ← quiet_cong hq hevm]
     exact hF j o (p - m) hjf ho (lateOk_of fun q oq hq hq1 hj' => hnD (hcl (m + q) oq hq1 ((hi.dt (m + q) (by omega) (List.getElem?_eq_some_iff.1 hq1).1).2 (by omega)) j hj')) am.eval (fun x u hx => hLm.eval hx) v w (hi.keep (Nat.le_of_not_lt fun hlt => hnD (hi.da hlt j hj))) h1
    ·rename_i hw
     rw [if_neg hw] at h1; exact h1
  refine h2.run (by simpa using ho) hq (hk _ _ ⟨p, ac, Lp, hi.p0, hi.p1, fun i h3 h4 => ?_, fun h i h3 h4 => .inr (hi.df h i h3 h4), hi.ag, hi.tr, hi.keep, fun h i h3 => .inr (hi.da h i h3), hi.wm, by rw [put_defers]; exact hi.defers, by rw [put_size]; exact hi.size, hi.sizec, fun t ht => ?_, fun i o' t him ho' hd hni => ?_, hi.cm⟩)
  ·rw [← hi.dt i h3 h4]; exact ⟨fun h => h.resolve_left (by omega), .inr⟩
  ·rw [put_tmps]
   by_cases e : o.dst = some t
   ·rw [if_pos e, hi.cm t (fun k ok hk1 hk2 hok hkd => by have := dst_unique hlex hok ho hkd e; omega), ham.done j o v t hj ho hv hj e]
    exact set_cell hi.size
   ·rw [if_neg e]
    exact hi.done t fun i o' him ho' hd => (ht i o' him ho' hd).resolve_left (fun h => by subst h; rw [ho] at ho'; cases ho'; exact e hd)
  ·rw [put_tmps, if_neg (fun e => hni (.inl (dst_unique hlex ho' ho hd e)))]
   exact hi.pend i o' t him ho' hd (fun h => hni (.inr h))
 ·have hjp : j = p := by
   have h1 : p ≤ j := by
    rcases Nat.lt_or_ge j p with h | h
    ·exact absurd ((hi.dt j hj hjl).2 h) hnD
    ·exact h
   rcases Nat.lt_or_ge m j with h | h
   ·have h2 := hp _ (chainB_get hch (j := j) (by omega) ho)
    have := (hi.dt (j - 1) (by omega) (by omega)).1 h2
    omega
   ·have := hi.p0; omega
  subst hjp
  obtain ⟨hto, hts⟩ := htl j o hj ho
  have hall : ∀ i, i < m → i ∉ fl → D i := fun i him hif => by
   rcases Nat.eq_or_lt_of_le hi.p0 with h | h
   ·rw [h, ho] at hbeh
    exact behindF_all (D := D) hcl j (preds o) hbeh hp i (by omega) hif
   ·exact hi.df h i him hif
  have hag : ∀ t ∈ asks l o, a.tmps[t]? = ac.tmps[t]? := fun t ht => hi.done t fun i o' him ho' hd => hp i (hts t ht i o' him ho' hd)
  obtain ⟨hev, hwt⟩ := asks_eval hag
  have hdone : m + c < j + 1 → ∀ i, i < m → D i := fun hlt i him => by
   rcases Nat.lt_or_ge (m + c) j with h | h
   ·exact hi.da h i him
   ·have hj2 : j = m + c := by omega
    rcases hall_ with h5 | h5
    ·omega
    ·refine behind_all (D := D) hcl m _ h5 (fun k hk => ?_) i him
     simp only [tailPreds, List.mem_flatMap, List.mem_range'_1] at hk
     obtain ⟨q, ⟨hq1, hq2⟩, hq3⟩ := hk
     rcases Nat.eq_or_lt_of_le (show q ≤ j by omega) with e | e
     ·rw [e, ho] at hq3; exact hp k hq3
     ·have hDq := (hi.dt q hq1 (by omega)).2 e
      cases hoq : l[q]? with
      |none => rw [hoq] at hq3; cases hq3
      |some oq => rw [hoq] at hq3; exact hcl q oq hoq hDq k hq3
  have htr := hi.tr
  rw [List.drop_eq_getElem_cons hjl, (List.getElem?_eq_some_iff.1 ho).2] at htr
  have h1 := Rg.run htr ac hi.ag
  refine one_move (by simpa using ho) hto hev hwt (by rw [hi.defers, hi.ag.defers]) h1 (fun e a w ⟨_, _, _, he, _⟩ => he) (fun v w' ⟨L', ds', hA, _, hds, hkp, htr'⟩ => ?_) (fun d w' ⟨L', ds', hA, _, hds, _⟩ => ?_)
  ·rw [hds] at hA
   refine hk _ _ ⟨j + 1, ac.put o.dst v, L', by omega, by omega, fun i h3 h4 => ?_, fun _ i h3 h4 => .inr (hall i h3 h4), hA, by rw [show c + m - (j + 1) = c + m - j - 1 from by omega, show j + 1 - m = j - m + 1 from by omega]; exact htr', fun h => by rw [show j + 1 - m = j - m + 1 from by omega]; exact hkp (by omega), fun h i him => .inr (hdone h i him), fun h => by omega, by rw [put_defers]; exact hi.defers, by rw [put_size]; exact hi.size, by rw [put_size]; exact hi.sizec, fun t ht => ?_, fun i o' t him ho' hd hni => ?_, fun t ht => ?_⟩
   ·constructor
    ·rintro (h | h)
     ·omega
     ·have := (hi.dt i h3 h4).1 h; omega
    ·intro h
     rcases Nat.eq_or_lt_of_le (show i ≤ j by omega) with h5 | h5
     ·exact .inl h5
     ·exact .inr ((hi.dt i h3 h4).2 h5)
   ·rw [put_tmps, put_tmps]
    split
    ·exact set_cell (hi.size.trans hi.sizec.symm)
    ·exact hi.done t fun i o' him ho' hd => (ht i o' him ho' hd).resolve_left (by omega)
   ·rw [put_tmps, if_neg (fun e => by have := dst_unique hlex ho' ho hd e; omega)]
    exact hi.pend i o' t him ho' hd (fun h => hni (.inr h))
   ·rw [put_tmps, if_neg (ht j o hj (by omega) ho)]
    exact hi.cm t fun i o' h3 h4 h5 => ht i o' h3 (by omega) h5
  ·have h3 := hA.defers
   rw [put_defers, hds] at h3
   have h4 := congrArg List.length h3
   rw [hi.ag.defers] at h4
   simp at h4
theorem drawInvN {l : List Oper} {wd : World} (m : Nat) (fl : List Nat) (c : Nat) (N : Nat → PSet) (hml : Nat.blt m l.length = true) (hlex : lexOk l 0 = true) (hsl : slotsOk l m = true) (hfl : floatsOk l m fl c = true)
  (h : QRg P r n l.toArray (l.take m) L ds wd (fun L' => (∀ j o k, j ∈ fl → l[j]? = some o → lateOk l m j k = true → FloatOk P (N k) wd L' o) ∧ TRgN P r n l.toArray N wd K 0 c (l.drop m) L' ds wd)) : DrawInv P r n l L ds wd K := by
 intro a ha
 have hSl : m < l.length := by simpa [Nat.blt_eq] using hml
 have hget : ∀ j, j < m → (l.take m)[j]? = l[j]? := fun j hj => by rw [List.getElem?_take, if_pos hj]
 obtain ⟨am, Lm, vs, htr, hA, hF, hT⟩ := h.trace (fun o ho => by
  obtain ⟨j, hj⟩ := List.mem_iff_getElem?.1 ho
  have hjm : j < m := by
   have := (List.getElem?_eq_some_iff.1 hj).1
   rw [List.length_take] at this; omega
  exact (slotsOk_get hsl hjm (by rw [← hget j hjm]; exact hj)).1) ha
 obtain ⟨st, h0, hl, hst⟩ := htr.states
 have hlen : (l.take m).length = m := by rw [List.length_take]; omega
 rw [hlen] at hl
 have hst' : ∀ j o, j < m → l[j]? = some o → ∃ v, vs[j]? = some v ∧ One P r l.toArray wd o (st j) v ∧ st (j + 1) = (st j).put o.dst v := fun j o hj ho => hst j o (by rw [hget j hj]; exact ho)
 have hvl : ∀ i, i < m → ∃ v, vs[i]? = some v := fun i hi => by
  obtain ⟨v, hv, _⟩ := hst' i l[i] hi (List.getElem?_eq_getElem (by omega))
  exact ⟨v, hv⟩
 have hjs := states_QJ hlex h0 hst'
 have ham := hjs m (Nat.le_refl _) (by omega)
 rw [hl] at ham
 refine ⟨fun D a' w' => ∃ p ac Lp, GJN P r n l m fl c N K ds a am wd D a' w' p ac Lp, fun D D' a' w' ⟨p, ac, Lp, hi⟩ hD => ⟨p, ac, Lp, hi.p0, hi.p1, fun i h3 h4 => (hD i h4).trans (hi.dt i h3 h4), fun h i h3 h4 => (hD i (by omega)).2 (hi.df h i h3 h4), hi.ag, hi.tr, hi.keep, fun h i h3 => (hD i (by omega)).2 (hi.da h i h3), hi.wm, hi.defers, hi.size, hi.sizec, fun t ht => hi.done t fun i o h3 h4 h5 => (hD i (by omega)).1 (ht i o h3 h4 h5), fun i o t h3 h4 h5 h6 => hi.pend i o t h3 h4 h5 (fun h => h6 ((hD i (by omega)).2 h)), hi.cm⟩,
  fun Q D a' w' j o rest hj ho hnD hp hcl hi hk => GJN.next hlex hsl hfl hSl hvl (fun j o hj ho => by obtain ⟨v, h1, h2, _⟩ := hst' j o hj ho; exact ⟨v, h1, h2⟩) (fun j hj => hjs j (by omega) (by omega)) ham hA hF ho hnD hp hcl hi hk, fun a' w' hJ => ?_, ⟨m, am, Lm, Nat.le_refl _, by omega, fun i h3 h4 => ?_, fun h => by omega, hA, by rw [Nat.add_sub_cancel, Nat.sub_self]; exact hT, fun _ => Keep.refl _ _, fun h => by omega, fun _ => rfl, ha.defers, rfl, ham.size, fun t ht => ?_, fun i o t _ _ _ _ => rfl, fun t _ => rfl⟩⟩
 ·obtain ⟨p, ac, Lp, hi⟩ := hJ
  have hpl : p = l.length := by
   rcases Nat.lt_or_ge p l.length with h3 | h3
   ·have := (hi.dt p hi.p0 h3).1 h3; omega
   ·have := hi.p1; omega
  have htr := hi.tr
  rw [hpl, List.drop_eq_nil_of_le (Nat.le_refl _)] at htr
  refine ⟨Lp, ds, ⟨?_, hi.defers, fun t v ht => ?_⟩, htr⟩
  ·rw [hi.size]; exact ha.size
  ·rw [hi.done t fun i o h3 h4 _ => by omega]; exact hi.ag.at_ t v ht
 ·exact ⟨False.elim, fun h => by omega⟩
 ·rw [ham.base t fun i o h3 h4 _ h5 => (ht i o h3 h4 h5)]
theorem T.drawNP {id : Nat} {l l' : List Oper} (π : List Nat) (m : Nat) (fl : List Nat) (c : Nat) (N : Nat → PSet) (hm : P.follows .mixedOrders = true) (hren : ren π l = l') (hlex0 : lexOk l 0 = true) (hπ : permOk π l.length = true) (hml : Nat.blt m l'.length = true) (hlex : lexOk l' 0 = true) (hsl : slotsOk l' m = true) (hfl : floatsOk l' m fl c = true)
  (h : ∀ wD, (∀ M, Step M w M wD none') → QRg P r n l'.toArray (l'.take m) L ds wD (fun L' => (∀ j o k, j ∈ fl → l'[j]? = some o → lateOk l' m j k = true → FloatOk P (N k) wD L' o) ∧ TRgN P r n l'.toArray N wD K 0 c (l'.drop m) L' ds wD)) : T P r n (.region id l.toArray true) L ds w K := by
 subst hren
 exact DrawInv.t hm hlex0 fun wD hD => .perm π hπ hlex0 (drawInvN m fl c N hml hlex hsl hfl (h wD hD))
theorem Keep.more {N N' : PSet} {wd w : World} (h : Keep N wd w) (hN : ∀ b, N b → N' b) : Keep N' wd w := ⟨h.1, fun b hb hn => h.2 b hb (fun h2 => hn (hN b h2))⟩
def FloatsN (P : Program) (N : Nat → PSet) (wd : World) (L : Sl) (l : List Oper) (m : Nat) : List Nat → Prop
 |[] => True
 |j :: js => (match l[j]? with | some o => ∀ k, lateOk l m j k = true → FloatOk P (N k) wd L o | none => True) ∧ FloatsN P N wd L l m js
theorem FloatsN.all {N : Nat → PSet} {wd : World} {l : List Oper} {m : Nat} : ∀ {fl : List Nat}, FloatsN P N wd L l m fl → ∀ j o k, j ∈ fl → l[j]? = some o → lateOk l m j k = true → FloatOk P (N k) wd L o
 |[], _, j, o, _, hj, _ => absurd hj (List.not_mem_nil)
 |i :: fl, h, j, o, k, hj, ho => by
  rcases List.mem_cons.1 hj with e | hj
  ·have h1 := h.1
   rw [← e, ho] at h1; exact h1 k
  ·exact FloatsN.all h.2 j o k hj ho
end
end Go.K
namespace Go.K
open Go.Proofs
namespace TKQueA
theorem I51 : TI Tryz.prog 51 (.agg #[(.string ⟨#[]⟩), (.string ⟨#[]⟩), (.int .i64 0)]) 3 40 := by unfold TI; kernel_rfl
theorem I75 : TI Tryz.prog 75 (.slice none 0 0) 1 24 := by unfold TI; kernel_rfl
theorem I144 : TI Tryz.prog 144 (.agg #[(.slice none 0 0), (.int .i64 0)]) 2 32 := by unfold TI; kernel_rfl
theorem B144 : placesOf Tryz.prog 144 = [(0, 1), (1, 1)].map some := by kernel_rfl
end TKQueA
open TKQueA
set_option linter.unusedVariables false
set_option linter.unusedSimpArgs false
set_option maxRecDepth 10000
theorem er_any : AnyR RT.er := fun _ _ _ _ _ _ h => h
abbrev ErRow (e : TypeId) (M : PSet) (w : World) (base : Nat) (v : Value) (xs : List Er) : Prop := QRow RT.er (by decide) e M w base v xs
structure Qu (M : PSet) (w : World) (base bq : Nat) (xs : List Er) (last : Int) : Prop where
 c : ∃ vl, w.heap[bq]? = some (.cells #[vl, .int .i64 last] 144 (0, 0)) ∧ ErRow 51 M w base vl xs
 m : M bq
 z : base ≤ bq
 r : -9223372036854775808 ≤ last ∧ last ≤ 9223372036854775807
def qN (M : PSet) (w : World) (base : Nat) : PSet := fun b => M b ∧ base ≤ b ∧ ∃ cs, w.heap[b]? = some (.cells cs 51 (0, 0)) ∨ w.heap[b]? = some (.cells cs 144 (0, 0))
theorem Qu.step {M M' N : PSet} {w w' : World} {base bq : Nat} {xs : List Er} {last : Int} (h : Qu M w base bq xs last) (s : Step M w M' w' N) (hN : ∀ b, N b → ∀ cs, w.heap[b]? ≠ some (.cells cs 51 (0, 0)) ∧ w.heap[b]? ≠ some (.cells cs 144 (0, 0))) : Qu M' w' base bq xs last := by
 obtain ⟨⟨vl, g, hr⟩, hm, hz, hl⟩ := h
 refine ⟨⟨vl, s.keep g (fun hn => (hN _ hn _).2 g), hr.step s (fun b hb hn => ?_)⟩, (s.mem _ (lt_of_get g)).2 hm, hz, hl⟩
 obtain ⟨_, _, cs, hc⟩ := hr.c b hb
 exact (hN b hn cs).1 hc
theorem Qu.step0 {M M' : PSet} {w w' : World} {base bq : Nat} {xs : List Er} {last : Int} (h : Qu M w base bq xs last) (s : Step M w M' w' none') : Qu M' w' base bq xs last := h.step s (fun _ h => h.elim)
theorem qnew_spec {M : PSet} (w0 : World) (hM : Lt M w0) :
  Spec Tryz.prog 32 #[] w0 (fun v w => ∃ bq, v = .pointer (some ⟨bq, 0, none⟩) ∧ w0.heap.size ≤ bq ∧ Step M w0 (ins M bq) w none' ∧ Qu (ins M bq) w w0.heap.size bq [] (-1)) := by
 refine spec_of (args := []) (fn := Tryz.f32) Tryz.func32 rfl (n := 3) Tryz.ntmps32 ?_
 refine T.seq ?_
 refine T.region ?_
 refine Rg.assign rfl rfl ?_
 refine Rg.nil ?_
 refine T.seq ?_
 refine T.region ?_
 refine Rg.build (places := [(0, 1), (1, 1)]) Tryz.underlying144 I144 B144 rfl ⟨_, _, rfl, rfl, rfl⟩ (out := [.slice none 0 0, _]) ⟨1, [_], rfl, rfl, by simp [Value.cells], rfl⟩ ?_
 refine Rg.box M rfl rfl (fun bq w1 h1 h1' g1 s1 => ?_)
 refine Rg.assign rfl rfl ?_
 refine Rg.nil ?_
 refine T.ret ?_
 exact Kret1 rfl rfl ⟨bq, rfl, h1, s1, ⟨⟨_, g1, .own (Own.nil _ _ _ _ _)⟩, .inl rfl, h1, by decide⟩⟩
theorem qlen_spec {M : PSet} {base bq : Nat} {xs : List Er} {last : Int} (w0 : World) (hM : Lt M w0) (hq : Qu M w0 base bq xs last) (hl : xs.length ≤ 1000000) :
  Spec Tryz.prog 40 #[.pointer (some ⟨bq, 0, none⟩)] w0 (fun v w => v = .int .i64 (xs.length : Int) ∧ w0 = w) := by
 obtain ⟨⟨vl, g, hr⟩, hm, hz, hlr⟩ := hq
 refine spec_of (args := [_]) (fn := Tryz.f40) Tryz.func40 rfl (n := 8) Tryz.ntmps40 ?_
 refine T.seq ?_
 refine T.region ?_
 refine Rg.assign rfl rfl ?_
 refine Rg.nil ?_
 refine T.seq ?_
 refine T.region ?_
 refine Rg.move rfl rfl ?_
 refine Rg.nilCheck rfl ⟨_, rfl⟩ rfl ?_
 refine Rg.fieldc Tryz.underlying144 rfl rfl I75 (by decide) rfl rfl ?_
 refine Rg.loadc Tryz.underlying75 rfl rfl rfl g rfl ?_
 refine Rg.eqv (v' := vl) rfl ?_
 refine Rg.lensl Tryz.underlying75 rfl (hr.view (by omega)) rfl ?_
 refine Rg.assign rfl rfl ?_
 refine Rg.nil ?_
 refine T.ret ?_
 exact Kret1 rfl rfl ⟨rfl, rfl⟩
theorem qput_spec {M : PSet} {base bq : Nat} {xs : List Er} {last : Int} (w0 : World) (hM : Lt M w0) (hq : Qu M w0 base bq xs last) (hl : xs.length ≤ 1000000) {e : Er} {ve : Value} (he : RT.er.V M w0 e ve) (hb : base ≤ w0.heap.size) :
  Spec Tryz.prog 33 #[.pointer (some ⟨bq, 0, none⟩), ve] w0 (fun v w => v = .int .i64 (if e.2 ≤ last then 12 else 0) ∧ ∃ M', Qu M' w base bq (if e.2 ≤ last then xs else xs ++ [e]) (if e.2 ≤ last then last else e.2) ∧ Step M w0 M' w (qN M w0 base)) := by
 have hq0 := hq
 obtain ⟨⟨vl, g, hr⟩, m_g, hz, hlr⟩ := hq
 obtain ⟨rfl, hl12, hlr2⟩ := er_val he
 have hgt := lt_of_get g
 have hg0 := id g
 have hnb : vl.ownBlock ≠ some bq := hr.neT g (by decide)
 have hbk : ∀ b, vl.ownBlock = some b → b < w0.heap.size := fun b hb => by obtain ⟨_, _, cs, hc⟩ := hr.c _ hb; exact lt_of_get hc
 refine spec_of (args := [_, _]) (fn := Tryz.f33) Tryz.func33 rfl (n := 27) Tryz.ntmps33 ?_
 have S : Step M w0 M w0 none' := (Step.refl _ _).widen (fun _ h => h.elim) (fun _ h => h.elim)
 refine T.seq ?_
 refine T.region ?_
 refine Rg.box M rfl rfl (fun b0_0 w0_0 p0_0 q0_0 g0_0 s0_0 => ?_)
 obtain ⟨M_0_0, eM_0_0⟩ : ∃ M', M' = ins M b0_0 := ⟨_, rfl⟩
 rw [← eM_0_0] at s0_0
 have m_g0_0 : M_0_0 b0_0 := by rw [eM_0_0]; exact .inl rfl
 try simp only [Value.cells] at g0_0
 have := lt_of_get g
 replace m_g := (s0_0.mem _ this).2 m_g
 replace g := s0_0.same0 g
 replace he := he.le s0_0.le
 replace hM := s0_0.lt hM
 have := S.size
 replace S := S.trans0 s0_0
 refine Rg.assign rfl rfl ?_
 refine Rg.nil ?_
 refine T.seq ?_
 refine T.seq ?_
 apply T.drawQ0 mixed rfl rfl
 intro wD1 sA1
 have sD1 := sA1 M_0_0
 have := lt_of_get g
 replace m_g := (sD1.mem _ this).2 m_g
 replace g := sD1.same0 g
 have := lt_of_get g0_0
 replace m_g0_0 := (sD1.mem _ this).2 m_g0_0
 replace g0_0 := sD1.same0 g0_0
 replace he := he.le sD1.le
 replace hM := sD1.lt hM
 have := S.size
 replace S := S.trans0 sD1
 refine Rg.fieldc (o' := 2) Tryz.underlying51 rfl rfl I3 (by decide) rfl rfl ?_
 refine Rg.nil ⟨rfl, rfl, rfl, ?_⟩
 refine Rg.loadc Tryz.underlying3 rfl rfl rfl (by first | assumption | exact Step.same0 sD1 (by assumption)) rfl ?_
 refine Rg.nil ⟨rfl, rfl, rfl, ?_⟩
 refine Rg.move rfl rfl ?_
 refine Rg.nil ⟨rfl, rfl, rfl, ?_⟩
 refine Rg.nilCheck rfl ⟨_, rfl⟩ rfl ?_
 refine Rg.nil ⟨rfl, rfl, rfl, ?_⟩
 refine Rg.fieldc (o' := 1) Tryz.underlying144 rfl rfl I3 (by decide) rfl rfl ?_
 refine Rg.nil ⟨rfl, rfl, rfl, ?_⟩
 refine Rg.loadc Tryz.underlying3 rfl rfl rfl (by first | assumption | exact Step.same0 sD1 (by assumption)) rfl ?_
 refine Rg.nil ⟨rfl, rfl, rfl, ?_⟩
 refine Rg.ile rfl rfl rfl ?_
 refine Rg.nil ⟨rfl, rfl, rfl, ?_⟩
 refine QRg.nil ?_
 refine T.ifp rfl (fun c1 => ?_) (fun c1 => ?_)
 ·refine T.seq ?_
  refine T.region ?_
  refine Rg.assign rfl rfl ?_
  refine Rg.nil ?_
  refine T.ret ?_
  have c1' : e.2 ≤ last := by simpa using c1
  exact Kret1 rfl rfl ⟨by rw [if_pos c1'], _, by rw [if_pos c1', if_pos c1']; exact hq0.step0 S, S.widen (fun _ h => h.elim) (fun _ h => h.1)⟩
 ·refine T.skip ?_
  refine T.seq ?_
  apply T.drawNP [0, 1, 2, 3, 4, 5, 6, 9, 10, 7, 8, 11, 12, 13, 14, 15, 16] 9 [0, 1, 2, 3, 4, 5, 7, 8] 5 (fun k => match k with | 0 => none' | 1 => none' | _ => fun b => b = bq ∨ blk vl b) mixed
  ·simp +decide only [ren, renO, List.map_cons, List.map_nil, List.getD_cons_zero, List.getD_cons_succ, List.map_toArray, Option.map_some, Option.map_none, List.idxOf_cons, cond_true, cond_false, Nat.reduceBEq, Nat.reduceAdd, beq_self_eq_true]; rfl
  ·rfl
  ·rfl
  ·rfl
  ·rfl
  ·rfl
  ·rfl
  intro wD3 sA3
  have sD3 := sA3 M_0_0
  have := lt_of_get g
  replace m_g := (sD3.mem _ this).2 m_g
  replace g := sD3.same0 g
  have := lt_of_get g0_0
  replace m_g0_0 := (sD3.mem _ this).2 m_g0_0
  replace g0_0 := sD3.same0 g0_0
  replace he := he.le sD3.le
  replace hM := sD3.lt hM
  have := S.size
  replace S := S.trans0 sD3
  refine Rg.move rfl rfl ?_
  refine Rg.nil ⟨rfl, rfl, rfl, ?_⟩
  refine Rg.move rfl rfl ?_
  refine Rg.nil ⟨rfl, rfl, rfl, ?_⟩
  refine Rg.move rfl rfl ?_
  refine Rg.nil ⟨rfl, rfl, rfl, ?_⟩
  refine Rg.nilCheck rfl ⟨_, rfl⟩ rfl ?_
  refine Rg.nil ⟨rfl, rfl, rfl, ?_⟩
  refine Rg.fieldc (o' := 0) Tryz.underlying144 rfl rfl I75 (by decide) rfl rfl ?_
  refine Rg.nil ⟨rfl, rfl, rfl, ?_⟩
  refine Rg.loadc Tryz.underlying75 rfl rfl rfl g rfl ?_
  refine Rg.eqv (v' := vl) rfl ?_
  refine Rg.nil ⟨rfl, rfl, rfl, ?_⟩
  refine Rg.loadaggc (vs := [.string ⟨e.1.1.toArray⟩, .string ⟨e.1.2.toArray⟩, .int .i64 e.2]) Tryz.underlying51 rfl I51 rfl rfl rfl g0_0 ?_
  refine Rg.nil ⟨rfl, rfl, rfl, ?_⟩
  refine Rg.fieldc (o' := 2) Tryz.underlying51 rfl rfl I3 (by decide) rfl rfl ?_
  refine Rg.nil ⟨rfl, rfl, rfl, ?_⟩
  refine Rg.loadc Tryz.underlying3 rfl rfl rfl (by first | assumption | exact Step.same0 sD3 (by assumption)) rfl ?_
  refine Rg.nil ⟨rfl, rfl, rfl, ?_⟩
  refine QRg.nil ?_
  refine ⟨FloatsN.all ⟨fun _ _ => FloatOk.move, ⟨fun _ _ => FloatOk.move, ⟨fun _ _ => FloatOk.move, ⟨fun _ _ => FloatOk.nilCheck rfl, ⟨fun _ _ => FloatOk.field Tryz.underlying144 rfl I75 (by decide), ⟨fun k hk => by
   match k, hk with
   |0, _ => exact FloatOk.load rfl g (fun h => h)
   |1, _ => exact FloatOk.load rfl g (fun h => h)
   |k + 2, hk => exact absurd (lateOk_le hk (show 2 ≤ k + 2 by omega)) (by decide), ⟨fun _ _ => FloatOk.field Tryz.underlying51 rfl I3 (by decide), ⟨fun k hk => FloatOk.load rfl g0_0 (fun h => by
   match k, h with
   |0, h => exact h
   |1, h => exact h
   |k + 2, h =>
    rcases h with h | h
    ·omega
    ·have := hbk _ h; omega), trivial⟩⟩⟩⟩⟩⟩⟩⟩, ?_⟩
  have kp := Keep.refl none' wD3
  refine Rg.sl1 (A := RT.er) (hn := by decide) (M := M_0_0) Tryz.underlying75 I51 (by decide) rfl rfl hM he (.inl rfl) (fun u9 w9 hu9 s9 => ?_)
  have := lt_of_get g
  replace m_g := (s9.mem _ this).2 m_g
  replace g := s9.same0 g
  have := lt_of_get g0_0
  replace m_g0_0 := (s9.mem _ this).2 m_g0_0
  replace g0_0 := s9.same0 g0_0
  replace he := he.le s9.le
  replace hM := s9.lt hM
  have := S.size
  replace S := S.trans0 s9
  refine (fun (kp : Keep _ _ _) => Rg.nil ⟨rfl, rfl, fun _ => kp, ?_⟩) (by first | exact kp | exact kp.go0 (by assumption) | exact kp.goN (by assumption) | exact kp.go (by assumption) (fun _ _ h => by first | exact h | exact h.elim))
  refine Rg.appendQ (M := M_0_0) (base := base) er_any Tryz.underlying75 I51 rfl rfl rfl rfl (hr.step S (fun _ _ h => h.elim)) hu9 (Le.refl _ _) (by simp) (by simp; omega) (by simp; omega) (by have := S.size; omega) (fun v10 M10 w10 hr10 s10 => ?_)
  have g10 := s10.keep g hnb
  have m10 := (s10.mem _ (lt_of_get g)).2 m_g
  refine (fun (kp : Keep _ _ _) => Rg.nil ⟨rfl, rfl, fun _ => kp, ?_⟩) ((kp.more (fun b h => h.elim)).go s10 (fun b hb h => .inr h))
  refine Rg.nilCheck rfl ⟨_, rfl⟩ rfl ?_
  refine (fun (kp : Keep _ _ _) => Rg.nil ⟨rfl, rfl, fun _ => kp, ?_⟩) (by first | exact kp | exact kp.go0 (by assumption) | exact kp.goN (by assumption) | exact kp.go (by assumption) (fun _ _ h => by first | exact h | exact h.elim))
  refine Rg.fieldc (o' := 0) Tryz.underlying144 rfl rfl I75 (by decide) rfl rfl ?_
  refine (fun (kp : Keep _ _ _) => Rg.nil ⟨rfl, rfl, fun _ => kp, ?_⟩) (by first | exact kp | exact kp.go0 (by assumption) | exact kp.goN (by assumption) | exact kp.go (by assumption) (fun _ _ h => by first | exact h | exact h.elim))
  refine Rg.storec (M := M10) I75 rfl rfl g10 rfl (by obtain ⟨_, _, he⟩ := hr10.isSlice; rw [he]; rfl) m10 (fun w13 g13 s13 => ?_)
  refine (fun (kp : Keep _ _ _) => Rg.nil ⟨rfl, rfl, fun _ => kp, ?_⟩) (kp.go s13 (fun b hb h => .inl h))
  refine Rg.nilCheck rfl ⟨_, rfl⟩ rfl ?_
  refine Rg.nil ⟨rfl, rfl, fun h => absurd rfl h, ?_⟩
  refine Rg.fieldc (o' := 1) Tryz.underlying144 rfl rfl I3 (by decide) rfl rfl ?_
  refine Rg.nil ⟨rfl, rfl, fun h => absurd rfl h, ?_⟩
  refine Rg.storec (M := M10) I3 rfl rfl g13 rfl rfl m10 (fun w16 g16 s16 => ?_)
  refine Rg.nil ⟨rfl, rfl, fun h => absurd rfl h, ?_⟩
  refine TRgN.nil ?_
  refine T.seq ?_
  refine T.region ?_
  refine Rg.assign rfl rfl ?_
  refine Rg.nil ?_
  refine T.ret ?_
  have c1' : ¬ e.2 ≤ last := by simpa using c1
  refine Kret1 rfl rfl ⟨by rw [if_neg c1'], M10, ?_, (((S.widen (fun _ h => h.elim) (fun _ h => h.1)).trans s10 (fun b hb h => ?_)).trans s13 (fun b hb h => ?_)).trans s16 (fun b hb h => ?_)⟩
  ·rw [if_neg c1', if_neg c1']
   have hr13 := (hr10.step s13 (fun b hb (h : b = bq) => hr10.neT g10 (by decide) (h ▸ hb))).step s16 (fun b hb (h : b = bq) => hr10.neT g10 (by decide) (h ▸ hb))
   exact ⟨⟨_, g16, hr13⟩, m10, hz, hlr2⟩
  ·obtain ⟨h1, h2, cs, h3⟩ := hr.c b h
   exact ⟨h2, h1, cs, .inl h3⟩
  ·have h : b = bq := h
   subst h; exact ⟨hq0.m, hz, _, .inr hg0⟩
  ·have h : b = bq := h
   subst h; exact ⟨hq0.m, hz, _, .inr hg0⟩
end Go.K
namespace Go.K
open Go.Proofs
namespace TKQueB
theorem I51 : TI Tryz.prog 51 (.agg #[(.string ⟨#[]⟩), (.string ⟨#[]⟩), (.int .i64 0)]) 3 40 := by unfold TI; kernel_rfl
theorem I75 : TI Tryz.prog 75 (.slice none 0 0) 1 24 := by unfold TI; kernel_rfl
theorem E88 : Enters Tryz.prog 88 := enters Tryz.func88 rfl (by decide)
theorem E89 : Enters Tryz.prog 89 := enters Tryz.func89 rfl (by decide)
theorem E135 : Enters Tryz.prog 135 := enters Tryz.func135 rfl (by decide)
theorem E136 : Enters Tryz.prog 136 := enters Tryz.func136 rfl (by decide)
theorem E137 : Enters Tryz.prog 137 := enters Tryz.func137 rfl (by decide)
theorem E168 : Enters Tryz.prog 168 := enters Tryz.func168 rfl (by decide)
end TKQueB
open TKQueB
set_option linter.unusedVariables false
set_option linter.unusedSimpArgs false
set_option maxRecDepth 10000
theorem er_le {xs : List Er} (h : xs.Pairwise fun a b => a.2 < b.2) {i j : Nat} {x y : Er} (hij : i ≤ j) (hx : xs[i]? = some x) (hy : xs[j]? = some y) : x.2 ≤ y.2 := by
 rcases Nat.eq_or_lt_of_le hij with rfl | h1
 ·rw [hx] at hy; cases hy; exact Int.le_refl _
 ·have := pair_idx h hx hy h1; omega
def lowE (xs : List Er) (t : Int) : Nat := xs.countP fun x => decide (x.2 < t)
theorem lowE_le (xs : List Er) (t : Int) : lowE xs t ≤ xs.length := List.countP_le_length
theorem lowE_cut {t : Int} : ∀ {xs : List Er}, (xs.Pairwise fun a b => a.2 < b.2) → xs.filter (fun x => decide (x.2 < t)) = xs.take (lowE xs t) ∧ xs.filter (fun x => decide (t ≤ x.2)) = xs.drop (lowE xs t)
 |[], _ => ⟨rfl, rfl⟩
 |x :: xs, h => by
  obtain ⟨h1, h2⟩ := List.pairwise_cons.1 h
  obtain ⟨h3, h4⟩ := lowE_cut (t := t) h2
  by_cases hx : x.2 < t
  ·have e : lowE (x :: xs) t = lowE xs t + 1 := List.countP_cons_of_pos (by simpa using hx)
   rw [e, List.filter_cons_of_pos (by simpa using hx), List.filter_cons_of_neg (by simp; omega), List.take_succ_cons, List.drop_succ_cons, h3, h4]; exact ⟨rfl, rfl⟩
  ·have h0 : lowE xs t = 0 := List.countP_eq_zero.2 fun y hy => by have := h1 y hy; simp; omega
   have e : lowE (x :: xs) t = 0 := by unfold lowE; rw [List.countP_cons_of_neg (by simpa using hx)]; exact h0
   rw [e, List.filter_cons_of_neg (by simpa using hx), List.filter_cons_of_pos (by simp; omega), h3, h4, h0]; exact ⟨rfl, rfl⟩
def cmpZ (x y : Int) : Int := if x < y then -1 else if x > y then 1 else 0
theorem cmpZ_neg (x y : Int) : (cmpZ x y < 0) ↔ x < y := by unfold cmpZ; split <;> (try split) <;> omega
theorem cmpZ_in (x y : Int) : -1 ≤ cmpZ x y ∧ cmpZ x y ≤ 1 := by unfold cmpZ; split <;> (try split) <;> omega
theorem cmpi_spec {x y : Int} (w0 : World) :
  Spec Tryz.prog 137 #[.int .i64 x, .int .i64 y] w0 (fun v w => v = .int .i64 (cmpZ x y) ∧ w = w0) := by
 refine spec_of (args := [_, _]) (fn := Tryz.f137) Tryz.func137 rfl (n := 20) Tryz.ntmps137 ?_
 refine T.seq ?_
 refine T.region ?_
 refine Rg.assign rfl rfl ?_
 refine Rg.nil ?_
 refine T.seq ?_
 refine T.region ?_
 refine Rg.move rfl rfl ?_
 refine Rg.call rfl rfl E168 (cmpNaN_spec _) (fun r wc hc => ?_)
 obtain ⟨rfl, rfl⟩ := hc
 refine Rg.assign rfl rfl ?_
 refine Rg.nil ?_
 refine T.seq ?_
 refine T.region ?_
 refine Rg.move rfl rfl ?_
 refine Rg.call rfl rfl E168 (cmpNaN_spec _) (fun r wc hc => ?_)
 obtain ⟨rfl, rfl⟩ := hc
 refine Rg.assign rfl rfl ?_
 refine Rg.nil ?_
 refine T.seq ?_
 refine T.seq ?_
 refine T.region ?_
 refine Rg.move rfl rfl ?_
 refine Rg.nil ?_
 refine T.iff rfl ?_
 refine T.skip ?_
 refine T.seq ?_
 refine T.seq ?_
 refine T.region ?_
 refine Rg.move rfl rfl ?_
 refine Rg.nil ?_
 refine T.iff rfl ?_
 refine T.skip ?_
 refine T.seq ?_
 refine T.seq ?_
 refine T.region ?_
 refine Rg.move rfl rfl ?_
 refine Rg.move rfl rfl ?_
 refine Rg.ilt rfl rfl rfl ?_
 refine Rg.nil ?_
 refine T.ifp rfl (fun c9 => ?_) (fun c9 => ?_)
 ·refine T.seq ?_
  refine T.region ?_
  refine Rg.assign rfl rfl ?_
  refine Rg.nil ?_
  refine T.ret ?_
  exact Kret1 rfl rfl ⟨by unfold cmpZ; rw [if_pos c9], rfl⟩
 ·refine T.skip ?_
  refine T.seq ?_
  refine T.seq ?_
  refine T.region ?_
  refine Rg.move rfl rfl ?_
  refine Rg.move rfl rfl ?_
  refine Rg.igt rfl rfl rfl ?_
  refine Rg.nil ?_
  refine T.ifp rfl (fun c11 => ?_) (fun c11 => ?_)
  ·refine T.seq ?_
   refine T.region ?_
   refine Rg.assign rfl rfl ?_
   refine Rg.nil ?_
   refine T.ret ?_
   exact Kret1 rfl rfl ⟨by unfold cmpZ; rw [if_neg c9, if_pos c11], rfl⟩
  ·refine T.skip ?_
   refine T.seq ?_
   refine T.region ?_
   refine Rg.assign rfl rfl ?_
   refine Rg.nil ?_
   refine T.ret ?_
   exact Kret1 rfl rfl ⟨by unfold cmpZ; rw [if_neg c9, if_neg c11], rfl⟩
theorem below1_spec {M : PSet} {e : Er} {ve : Value} {t : Int} (w0 : World) (hM : Lt M w0) (he : RT.er.V M w0 e ve) :
  Spec Tryz.prog 136 #[ve, .int .i64 t] w0 (fun v w => v = .int .i64 (cmpZ e.2 t) ∧ Step M w0 M w none') := by
 refine spec_of (args := [_, _]) (fn := Tryz.f136) Tryz.func136 rfl (n := 9) Tryz.ntmps136 ?_
 have S : Step M w0 M w0 none' := (Step.refl _ _).widen (fun _ h => h.elim) (fun _ h => h.elim)
 refine T.seq ?_
 refine T.region ?_
 refine Rg.boxp (A := RT.er) (a := e) rfl rfl hM he rfl (fun u0 w1 hu0 s0 _ => ?_)
 replace he := he.le s0.le
 replace hM := s0.lt hM
 have := S.size
 replace S := S.trans0 s0
 refine Rg.assign rfl rfl ?_
 refine Rg.nil ?_
 refine T.seq ?_
 refine T.region ?_
 refine Rg.fieldAddr (M := M) (A := RT.er) (B := RT.int .i64) Tryz.underlying51 rfl rfl I3 (by decide) er1 rfl rfl (by decide) hu0 (Le.refl _ _) (fun u1 hu1 => ?_)
 refine Rg.loadi64 (M := M) Tryz.underlying3 rfl rfl hu1 (Le.refl _ _) (fun hin => ?_)
 refine Rg.eqv (v' := .int .i64 e.2) rfl ?_
 refine Rg.move rfl rfl ?_
 refine Rg.call rfl rfl E137 (cmpi_spec _) (fun r wc hc => ?_)
 obtain ⟨rfl, rfl⟩ := hc
 refine Rg.assign rfl rfl ?_
 refine Rg.nil ?_
 refine T.ret ?_
 exact Kret1 rfl rfl ⟨rfl, S⟩
theorem bsf_spec {M M1 : PSet} {xs : List Er} {v0 : Value} {t : Int} (w0 : World) (hM : Lt M w0) (hv : (RT.er.sl).V M w0 xs v0) (hr : xs.Pairwise fun a b => a.2 < b.2) :
  Spec Tryz.prog 135 #[v0, .int .i64 t, .func (.func 136) #[] #[]] w0 (fun v w => (∃ b, v = .tuple #[.int .i64 (lowE xs t : Int), .bool b]) ∧ Step M w0 M w none') := by
 have hM0 := hM
 have hlen := V_sl_len hv
 refine spec_of (args := [_, _, _]) (fn := Tryz.f135) Tryz.func135 rfl (n := 49) Tryz.ntmps135 ?_
 have S : Step M w0 M w0 none' := (Step.refl _ _).widen (fun _ h => h.elim) (fun _ h => h.elim)
 refine T.seq ?_
 refine T.region ?_
 refine Rg.assign rfl rfl ?_
 refine Rg.assign rfl rfl ?_
 refine Rg.nil ?_
 refine T.seq ?_
 refine T.region ?_
 refine Rg.move rfl rfl ?_
 refine Rg.lensl Tryz.underlying75 rfl hv rfl ?_
 refine Rg.assign rfl rfl ?_
 refine Rg.nil ?_
 refine T.seq ?_
 refine T.region ?_
 refine Rg.move rfl rfl ?_
 refine Rg.assign rfl rfl ?_
 refine Rg.assign rfl rfl ?_
 refine Rg.nil ?_
 refine T.seq ?_
 refine T.block ?_
 refine T.loop (σ := Nat × Nat) (fun q => [(0, v0), (1, .int .i64 t), (2, .func (.func 136) #[] #[]), (8, .int .i64 (xs.length : Int)), (9, .int .i64 (q.1 : Int)), (10, .int .i64 (q.2 : Int))]) (fun q w => Step M w0 M w none' ∧ (RT.er.sl).V M w xs v0 ∧ q.1 ≤ q.2 ∧ q.2 ≤ xs.length ∧ (∀ (k : Nat) (x : Er), k < q.1 → xs[k]? = some x → x.2 < t) ∧ (∀ (k : Nat) (x : Er), q.2 ≤ k → xs[k]? = some x → ¬ x.2 < t)) (fun q => q.2 - q.1) (0, xs.length) (.cons rfl (.cons rfl (.cons rfl (.cons rfl (.cons rfl (.cons rfl .nil)))))) ?_ ?_
 ·exact ⟨S, hv, Nat.zero_le _, Nat.le_refl _, fun k x h => absurd h (Nat.not_lt_zero _), fun k x h hx => by have := (List.getElem?_eq_some_iff.1 hx).1; omega⟩
 ·clear S hv hM
  rintro ⟨i, j⟩ w ⟨S, hv, hij, hj, h1, h2⟩
  dsimp only at hij hj h1 h2 ⊢
  have hM := S.lt hM0
  refine T.seq ?_
  refine T.seq ?_
  refine T.region ?_
  refine Rg.move rfl rfl ?_
  refine Rg.move rfl rfl ?_
  refine Rg.ilt rfl rfl rfl ?_
  refine Rg.nil ?_
  refine T.ifp rfl (fun c3 => ?_) (fun c3 => ?_)
  ·refine T.skip ?_
   refine T.block ?_
   refine T.seq ?_
   refine T.region ?_
   refine Rg.move rfl rfl ?_
   refine Rg.move rfl rfl ?_
   refine Rg.iadd rfl rfl rfl (by omega) ?_
   refine Rg.conv Tryz.underlying3 Tryz.underlying183 rfl rfl ?_
   refine Rg.eqv (v' := .int .u64 ((i : Int) + j)) (congrArg _ (wrap_u64 (by omega))) ?_
   refine Rg.shr rfl rfl rfl (by omega) ?_
   refine Rg.eqv (v' := .int .u64 (((i : Int) + j) / 2)) (congrArg _ (half_u64 _)) ?_
   refine Rg.conv64 Tryz.underlying183 Tryz.underlying3 rfl rfl (by omega) ?_
   refine Rg.assign rfl rfl ?_
   refine Rg.nil ?_
   refine T.seq ?_
   refine T.region ?_
   refine Rg.move rfl rfl ?_
   refine Rg.move rfl rfl ?_
   refine Rg.move rfl rfl ?_
   refine Rg.idx (M := M) Tryz.underlying75 I51 rfl rfl rfl hv (Le.refl _ _) (by omega) (fun u x hg hu => ?_)
   rw [show (((i : Int) + j) / 2).toNat = (i + j) / 2 from by omega] at hg
   refine Rg.loadagg (M := M) (A := RT.er) Tryz.underlying51 rfl I51 (by decide) rfl rfl rfl hu (Le.refl _ _) (fun vx hvx => ?_)
   refine Rg.move rfl rfl ?_
   refine Rg.callv (first := []) (captured := []) (xs := [.tmp 28, .tmp 29]) rfl rfl rfl E136 (below1_spec (t := t) _ hM hvx) (fun r6 w6 hc => ?_)
   obtain ⟨rfl, s6⟩ := hc
   have hcz := cmpZ_in x.2 t
   replace hv := hv.le s6.le
   replace hM := s6.lt hM
   have := S.size
   replace S := S.trans0 s6
   refine Rg.ilt rfl rfl rfl ?_
   refine Rg.nil ?_
   refine T.ifp rfl (fun c5 => ?_) (fun c5 => ?_)
   ·refine T.region ?_
    refine Rg.move rfl rfl ?_
    refine Rg.iadd rfl rfl rfl (by omega) ?_
    refine Rg.assign rfl rfl ?_
    refine Rg.nil ?_
    refine ⟨rfl, ((i + j) / 2 + 1, j), (.cons rfl (.cons rfl (.cons rfl (.cons rfl (.cons rfl (.cons rfl .nil)))))), ?_, ?_⟩
    ·exact ⟨S, hv, by dsimp only; omega, hj, fun k y hk hy => by have := er_le hr (show k ≤ (i + j) / 2 by dsimp only at hk; omega) hy hg; have := (cmpZ_neg x.2 t).1 c5; omega, h2⟩
    ·dsimp only; omega
   ·refine T.region ?_
    refine Rg.move rfl rfl ?_
    refine Rg.assign rfl rfl ?_
    refine Rg.nil ?_
    refine ⟨rfl, (i, (i + j) / 2), (.cons rfl (.cons rfl (.cons rfl (.cons rfl (.cons rfl (.cons rfl .nil)))))), ?_, ?_⟩
    ·exact ⟨S, hv, by dsimp only; omega, by dsimp only; omega, h1, fun k y hk hy => by have := er_le hr (show (i + j) / 2 ≤ k from hk) hg hy; have := mt (cmpZ_neg x.2 t).2 c5; omega⟩
    ·dsimp only; omega
  ·refine T.exit ?_
   refine T.seq ?_
   refine T.region ?_
   refine Rg.move rfl rfl ?_
   refine Rg.move rfl rfl ?_
   refine Rg.move rfl rfl ?_
   refine Rg.ilt rfl rfl rfl ?_
   refine Rg.move rfl rfl ?_
   refine Rg.gsplitp (g := 39) rfl (fun g8_4 => ?_) (fun g8_4 => ?_)
   ·refine Rg.gyes rfl rfl ?_
    refine Rg.move rfl rfl ?_
    refine Rg.gyes rfl rfl ?_
    refine Rg.move rfl rfl ?_
    refine Rg.gyes rfl rfl ?_
    refine Rg.move rfl rfl ?_
    refine Rg.gyes rfl rfl ?_
    refine Rg.idx (M := M) Tryz.underlying75 I51 rfl rfl rfl hv (Le.refl _ _) (by omega) (fun u x hg hu => ?_)
    refine Rg.gyes rfl rfl ?_
    refine Rg.loadagg (M := M) (A := RT.er) Tryz.underlying51 rfl I51 (by decide) rfl rfl rfl hu (Le.refl _ _) (fun vx hvx => ?_)
    refine Rg.gyes rfl rfl ?_
    refine Rg.move rfl rfl ?_
    refine Rg.gyes rfl rfl ?_
    refine Rg.callv (first := []) (captured := []) (xs := [.tmp 44, .tmp 45]) rfl rfl rfl E136 (below1_spec (t := t) _ hM hvx) (fun r6 w6 hc => ?_)
    obtain ⟨rfl, s6⟩ := hc
    have hcz := cmpZ_in x.2 t
    replace hv := hv.le s6.le
    replace hM := s6.lt hM
    have := S.size
    replace S := S.trans0 s6
    refine Rg.gyes rfl rfl ?_
    refine Rg.ieq rfl rfl rfl ?_
    refine Rg.pickt rfl rfl rfl ?_
    refine Rg.assign rfl rfl ?_
    refine Rg.assign rfl rfl ?_
    refine Rg.nil ?_
    refine T.ret ?_
    have e : lowE xs t = i := countP_cut (by omega) (fun k x hk hx => by simpa using h1 k x hk hx) (fun k x hk hx => by simpa using h2 k x (by omega) hx)
    exact Kret2 rfl rfl rfl ⟨⟨_, by rw [e]⟩, S⟩
   ·refine Rg.gno rfl rfl rfl rfl ?_
    refine Rg.gno rfl rfl rfl rfl ?_
    refine Rg.gno rfl rfl rfl rfl ?_
    refine Rg.gno rfl rfl rfl rfl ?_
    refine Rg.gno rfl rfl rfl rfl ?_
    refine Rg.gno rfl rfl rfl rfl ?_
    refine Rg.gno rfl rfl rfl rfl ?_
    refine Rg.gno rfl rfl rfl rfl ?_
    refine Rg.pickf rfl rfl rfl ?_
    refine Rg.assign rfl rfl ?_
    refine Rg.assign rfl rfl ?_
    refine Rg.nil ?_
    refine T.ret ?_
    have e : lowE xs t = i := countP_cut (by omega) (fun k x hk hx => by simpa using h1 k x hk hx) (fun k x hk hx => by simpa using h2 k x (by omega) hx)
    exact Kret2 rfl rfl rfl ⟨⟨_, by rw [e]⟩, S⟩
theorem cloneEr {M M2 : PSet} {w0 : World} {v : Value} {b : List Er} (hM : Lt M w0) (hM2 : Lt M2 w0) (hv : (RT.er.sl).V M2 w0 b v) (hbl : b.length ≤ 1099511627776) :
  Spec Tryz.prog 89 #[v] w0 (fun v' w' => (RT.er.sl).V M w' b v' ∧ Step M w0 M w' none') := by
 obtain ⟨a, cap, hva, hc, hl, hs⟩ := V_sl.1 hv
 refine spec_of (args := [_]) (fn := Tryz.f89) Tryz.func89 rfl (n := 8) Tryz.ntmps89 ?_
 refine T.seq ?_
 refine T.region ?_
 refine Rg.assign rfl rfl ?_
 refine Rg.nil ?_
 refine T.seq ?_
 refine T.seq ?_
 refine T.region ?_
 refine Rg.move rfl rfl ?_
 refine Rg.eqv (v' := .slice a b.length cap) hva ?_
 refine Rg.sleqnil Tryz.underlying75 rfl rfl rfl ?_
 refine Rg.nil ?_
 refine T.ifp rfl (fun c1 => ?_) (fun c1 => ?_)
 ·refine T.seq ?_
  refine T.region ?_
  refine Rg.assign rfl rfl ?_
  refine Rg.nil ?_
  refine T.ret ?_
  have hb : b = [] := by
   rcases hs with h | ⟨_, _, h, _⟩
   ·exact h
   ·rw [c1] at h; cases h
  exact Kret1 rfl rfl ⟨by rw [hb]; exact V_nil, Step.refl _ _⟩
 ·refine T.skip ?_
  refine T.seq ?_
  refine T.region ?_
  refine Rg.sl0 Tryz.underlying75 I51 M rfl (fun a0 w1 s1 => ?_)
  refine Rg.move rfl rfl ?_
  refine Rg.cloneQ (A := RT.er) (hn := by decide) (M := M) (M2 := M2) er_any Tryz.underlying75 I51 rfl rfl rfl rfl (hv.le (s1.any M2).le) (s1.lt hM) ((s1.any M2).lt hM2) (by omega) (by omega) (fun u2 w2 hu2 s2 => ?_)
  refine Rg.assign rfl rfl ?_
  refine Rg.nil ?_
  refine T.ret ?_
  exact Kret1 rfl rfl ⟨hu2, s1.trans0 s2⟩
theorem qbelow_spec {M : PSet} {base bq : Nat} {xs : List Er} {last t : Int} (w0 : World) (hM : Lt M w0) (hq : Qu M w0 base bq xs last) (hl : xs.length ≤ 1000000) (hr : xs.Pairwise fun a b => a.2 < b.2) :
  Spec Tryz.prog 88 #[.pointer (some ⟨bq, 0, none⟩), .int .i64 t] w0 (fun v w => v = .int .i64 (lowE xs t : Int) ∧ Step M w0 M w none') := by
 have hq0 := hq
 obtain ⟨⟨vl, g, hrow⟩, m_g, hz, hlr⟩ := hq
 have hvv := hrow.view (by omega)
 refine spec_of (args := [_, _]) (fn := Tryz.f88) Tryz.func88 rfl (n := 17) Tryz.ntmps88 ?_
 refine T.seq ?_
 refine T.region ?_
 refine Rg.assign rfl rfl ?_
 refine Rg.nil ?_
 refine T.seq ?_
 refine T.region ?_
 refine Rg.move rfl rfl ?_
 refine Rg.nilCheck rfl ⟨_, rfl⟩ rfl ?_
 refine Rg.fieldc Tryz.underlying144 rfl rfl I75 (by decide) rfl rfl ?_
 refine Rg.loadc Tryz.underlying75 rfl rfl rfl g rfl ?_
 refine Rg.eqv (v' := vl) rfl ?_
 refine Rg.move rfl rfl ?_
 refine Rg.call rfl rfl E135 (bsf_spec (M1 := M) _ (hM.rm vl) hvv hr) (fun r5 w5 hc => ?_)
 obtain ⟨⟨b5, rfl⟩, s5⟩ := hc
 refine Rg.move rfl rfl ?_
 refine Rg.extract rfl rfl rfl ?_
 refine Rg.extract rfl rfl rfl ?_
 refine Rg.assign rfl rfl ?_
 refine Rg.assign rfl rfl ?_
 refine Rg.nil ?_
 refine T.seq ?_
 refine T.region ?_
 refine Rg.move rfl rfl ?_
 refine Rg.assign rfl rfl ?_
 refine Rg.nil ?_
 refine T.ret ?_
 exact Kret1 rfl rfl ⟨rfl, s5.any M⟩
theorem qlist_spec {M : PSet} {base bq : Nat} {xs : List Er} {last : Int} (w0 : World) (hM : Lt M w0) (hq : Qu M w0 base bq xs last) (hl : xs.length ≤ 1000000) (hr : xs.Pairwise fun a b => a.2 < b.2) :
  Spec Tryz.prog 41 #[.pointer (some ⟨bq, 0, none⟩)] w0 (fun v w => (RT.er.sl).V M w xs v ∧ Step M w0 M w none') := by
 have hq0 := hq
 obtain ⟨⟨vl, g, hrow⟩, m_g, hz, hlr⟩ := hq
 have hvv := hrow.view (by omega)
 refine spec_of (args := [_]) (fn := Tryz.f41) Tryz.func41 rfl (n := 8) Tryz.ntmps41 ?_
 refine T.seq ?_
 refine T.region ?_
 refine Rg.assign rfl rfl ?_
 refine Rg.nil ?_
 refine T.seq ?_
 refine T.region ?_
 refine Rg.move rfl rfl ?_
 refine Rg.nilCheck rfl ⟨_, rfl⟩ rfl ?_
 refine Rg.fieldc Tryz.underlying144 rfl rfl I75 (by decide) rfl rfl ?_
 refine Rg.loadc Tryz.underlying75 rfl rfl rfl g rfl ?_
 refine Rg.eqv (v' := vl) rfl ?_
 refine Rg.call rfl rfl E89 (cloneEr hM (hM.rm vl) hvv (by omega)) (fun r wc hc => ?_)
 obtain ⟨hc, s4⟩ := hc
 refine Rg.assign rfl rfl ?_
 refine Rg.nil ?_
 refine T.ret ?_
 exact Kret1 rfl rfl ⟨hc, s4⟩
theorem qupto_spec {M : PSet} {base bq : Nat} {xs : List Er} {last t : Int} (w0 : World) (hM : Lt M w0) (hq : Qu M w0 base bq xs last) (hl : xs.length ≤ 1000000) (hr : xs.Pairwise fun a b => a.2 < b.2) :
  Spec Tryz.prog 39 #[.pointer (some ⟨bq, 0, none⟩), .int .i64 t] w0 (fun v w => (RT.er.sl).V M w (xs.take (lowE xs t)) v ∧ Step M w0 M w none') := by
 have hq0 := hq
 obtain ⟨⟨vl, g, hrow⟩, m_g, hz, hlr⟩ := hq
 have hvv := hrow.view (by omega)
 refine spec_of (args := [_, _]) (fn := Tryz.f39) Tryz.func39 rfl (n := 14) Tryz.ntmps39 ?_
 refine T.seq ?_
 refine T.region ?_
 refine Rg.assign rfl rfl ?_
 refine Rg.nil ?_
 refine T.seq ?_
 apply T.drawF 6 [0, 1, 2, 3] 1 none' mixed rfl rfl rfl rfl
 intro wD1 sA1
 have sD1 := sA1 M
 refine Rg.move rfl rfl ?_
 refine Rg.nil ⟨rfl, rfl, rfl, ?_⟩
 refine Rg.nilCheck rfl ⟨_, rfl⟩ rfl ?_
 refine Rg.nil ⟨rfl, rfl, rfl, ?_⟩
 refine Rg.fieldc Tryz.underlying144 rfl rfl I75 (by decide) rfl rfl ?_
 refine Rg.nil ⟨rfl, rfl, rfl, ?_⟩
 have g1 := sD1.same0 g
 refine Rg.loadc Tryz.underlying75 rfl rfl rfl g1 rfl ?_
 refine Rg.eqv (v' := vl) rfl ?_
 refine Rg.nil ⟨rfl, rfl, rfl, ?_⟩
 refine Rg.move rfl rfl ?_
 refine Rg.nil ⟨rfl, rfl, rfl, ?_⟩
 refine Rg.move rfl rfl ?_
 refine Rg.nil ⟨rfl, rfl, rfl, ?_⟩
 refine QRg.nil ?_
 refine ⟨Floats.all ⟨FloatOk.move, ⟨FloatOk.nilCheck rfl, ⟨FloatOk.field Tryz.underlying144 rfl I75 (by decide), ⟨FloatOk.load rfl (by assumption) (by first | assumption | exact fun h => h | (intro h; have h : _ = _ := h; omega)), trivial⟩⟩⟩⟩, ?_⟩
 have kp := Keep.refl none' wD1
 refine Rg.call rfl rfl E88 (qbelow_spec _ (sD1.lt hM) (hq0.step0 sD1) hl hr) (fun r6 w6 hc => ?_)
 obtain ⟨rfl, s6⟩ := hc
 refine (fun (kp : Keep _ _ _) => Rg.nil ⟨rfl, rfl, fun _ => kp, ?_⟩) (by first | exact kp | exact kp.go0 (by assumption) | exact kp.goN (by assumption) | exact kp.go (by assumption) (fun _ _ h => by first | exact h | exact h.elim))
 have hlo := lowE_le xs t
 refine Rg.slice_h (M := rm M vl) (w1 := w0) Tryz.underlying75 I51 rfl rfl rfl hvv (by omega) (fun u1_7 hu1_7 => ?_)
 rw [Int.toNat_natCast] at hu1_7
 replace hu1_7 := hu1_7.le ((sD1.any (rm M vl)).trans0 (s6.any _)).le
 refine Rg.nil ⟨rfl, rfl, fun h => absurd rfl h, ?_⟩
 refine Rg.call rfl rfl E89 (cloneEr ((sD1.trans0 s6).lt hM) (((sD1.any (rm M vl)).trans0 (s6.any _)).lt (hM.rm vl)) hu1_7 (by rw [List.length_take]; omega)) (fun r8 w8 hc => ?_)
 obtain ⟨hc, s8⟩ := hc
 refine Rg.nil ⟨rfl, rfl, fun h => absurd rfl h, ?_⟩
 refine Rg.assign rfl rfl ?_
 refine Rg.nil ⟨rfl, rfl, fun h => absurd rfl h, ?_⟩
 refine TRg.nil ?_
 refine T.ret ?_
 exact Kret1 rfl rfl ⟨hc, (sD1.trans0 s6).trans0 s8⟩
theorem qforget_spec {M : PSet} {base bq : Nat} {xs : List Er} {last t : Int} (w0 : World) (hM : Lt M w0) (hq : Qu M w0 base bq xs last) (hl : xs.length ≤ 1000000) (hr : xs.Pairwise fun a b => a.2 < b.2) :
  Spec Tryz.prog 36 #[.pointer (some ⟨bq, 0, none⟩), .int .i64 t] w0 (fun v w => v = .int .i64 (lowE xs t : Int) ∧ Qu M w base bq (xs.drop (lowE xs t)) last ∧ Step M w0 M w (qN M w0 base)) := by
 have hq0 := hq
 obtain ⟨⟨vl, g, hrow⟩, m_g, hz, hlr⟩ := hq
 have hvv := hrow.view (by omega)
 refine spec_of (args := [_, _]) (fn := Tryz.f36) Tryz.func36 rfl (n := 29) Tryz.ntmps36 ?_
 refine T.seq ?_
 refine T.region ?_
 refine Rg.assign rfl rfl ?_
 refine Rg.nil ?_
 refine T.seq ?_
 refine T.region ?_
 refine Rg.move rfl rfl ?_
 refine Rg.move rfl rfl ?_
 refine Rg.call rfl rfl E88 (qbelow_spec _ hM hq0 hl hr) (fun r2 w2 hc => ?_)
 obtain ⟨rfl, s2⟩ := hc
 have g2 := s2.same0 g
 have hlo := lowE_le xs t
 refine Rg.assign rfl rfl ?_
 refine Rg.nil ?_
 refine T.seq ?_
 apply T.drawQ 19 mixed rfl rfl rfl rfl rfl
 intro wD2 sA2
 have sD2 := sA2 M
 refine Rg.move rfl rfl ?_
 refine Rg.nil ⟨rfl, rfl, rfl, ?_⟩
 refine Rg.move rfl rfl ?_
 refine Rg.nil ⟨rfl, rfl, rfl, ?_⟩
 refine Rg.nilCheck rfl ⟨_, rfl⟩ rfl ?_
 refine Rg.nil ⟨rfl, rfl, rfl, ?_⟩
 refine Rg.fieldc Tryz.underlying144 rfl rfl I75 (by decide) rfl rfl ?_
 refine Rg.nil ⟨rfl, rfl, rfl, ?_⟩
 have g3 := sD2.same0 g2
 have hrow3 := (hrow.step s2 (fun _ _ h => h.elim)).step sD2 (fun _ _ h => h.elim)
 refine Rg.loadc Tryz.underlying75 rfl rfl rfl g3 rfl ?_
 refine Rg.eqv (v' := vl) rfl ?_
 refine Rg.nil ⟨rfl, rfl, rfl, ?_⟩
 refine Rg.move rfl rfl ?_
 refine Rg.nil ⟨rfl, rfl, rfl, ?_⟩
 refine Rg.move rfl rfl ?_
 refine Rg.nil ⟨rfl, rfl, rfl, ?_⟩
 refine Rg.nilCheck rfl ⟨_, rfl⟩ rfl ?_
 refine Rg.nil ⟨rfl, rfl, rfl, ?_⟩
 refine Rg.fieldc Tryz.underlying144 rfl rfl I75 (by decide) rfl rfl ?_
 refine Rg.nil ⟨rfl, rfl, rfl, ?_⟩
 refine Rg.loadc Tryz.underlying75 rfl rfl rfl g3 rfl ?_
 refine Rg.eqv (v' := vl) rfl ?_
 refine Rg.nil ⟨rfl, rfl, rfl, ?_⟩
 refine Rg.lensl Tryz.underlying75 rfl (hrow3.view (by omega)) rfl ?_
 refine Rg.nil ⟨rfl, rfl, rfl, ?_⟩
 refine Rg.move rfl rfl ?_
 refine Rg.nil ⟨rfl, rfl, rfl, ?_⟩
 refine Rg.nilCheck rfl ⟨_, rfl⟩ rfl ?_
 refine Rg.nil ⟨rfl, rfl, rfl, ?_⟩
 refine Rg.fieldc Tryz.underlying144 rfl rfl I75 (by decide) rfl rfl ?_
 refine Rg.nil ⟨rfl, rfl, rfl, ?_⟩
 refine Rg.loadc Tryz.underlying75 rfl rfl rfl g3 rfl ?_
 refine Rg.eqv (v' := vl) rfl ?_
 refine Rg.nil ⟨rfl, rfl, rfl, ?_⟩
 refine Rg.lensl Tryz.underlying75 rfl (hrow3.view (by omega)) rfl ?_
 refine Rg.nil ⟨rfl, rfl, rfl, ?_⟩
 refine Rg.cutQ (M := M) Tryz.underlying75 I51 rfl rfl rfl rfl rfl hrow3 (by omega) (by omega) (fun u16 hu16 hb16 => ?_)
 rw [Int.toNat_natCast] at hu16
 refine Rg.nil ⟨rfl, rfl, rfl, ?_⟩
 refine Rg.nilCheck rfl ⟨_, rfl⟩ rfl ?_
 refine Rg.nil ⟨rfl, rfl, rfl, ?_⟩
 refine Rg.fieldc Tryz.underlying144 rfl rfl I75 (by decide) rfl rfl ?_
 refine Rg.nil ⟨rfl, rfl, rfl, ?_⟩
 refine QRg.nil ?_
 have m3 := ((s2.trans0 sD2).mem _ (lt_of_get g)).2 m_g
 refine Rg.storec (M := M) I75 rfl rfl g3 rfl (by obtain ⟨_, _, he⟩ := hu16.isSlice; rw [he]; rfl) m3 (fun w19 g19 s19 => ?_)
 refine Rg.nil ?_
 refine T.seq ?_
 refine T.region ?_
 refine Rg.move rfl rfl ?_
 refine Rg.assign rfl rfl ?_
 refine Rg.nil ?_
 refine T.ret ?_
 refine Kret1 rfl rfl ⟨rfl, ⟨⟨_, g19, hu16.step s19 (fun b hb (h : b = bq) => hu16.neT g3 (by decide) (h ▸ hb))⟩, m_g, hz, hlr⟩, ((s2.trans0 sD2).widen (fun _ h => h.elim) (fun _ h => h.1)).trans s19 (fun b hb h => ?_)⟩
 have h : b = bq := h
 subst h; exact ⟨m_g, hz, _, .inr g⟩
end Go.K
namespace Go.K
set_option linter.unusedVariables false
set_option linter.unusedSimpArgs false
section
variable {P : Program} {r : Option Nat} {n : Nat} {L : Sl} {ds : List Deferred} {w : World} {K : Kt} {ops : Array Oper} {rest : List Oper} {d : Nat} {x y : Operand} {ty : TypeId} {pos : String} {af : Array Edge}
theorem run_part_str {t : TypeId} (ht : P.underlying t = some .string) {cs : Array Value} {off : Nat} {v : Value} (hv : cs[off]? = some v) : (part t cs off).run P w = .ok v w := by
 have hagg : (isAgg t).run P w = .ok false w := by
  unfold isAgg
  rw [Sem.run_bind, run_underlying ht w]; simp
 unfold part
 rw [Sem.run_bind, hagg]
 simp [hv]
theorem run_part_agg {t : TypeId} {fs : Array Field} (ht : P.underlying t = some (.struct fs)) {zv : Value} {size bytes : Nat} (hi : TI P t zv size bytes) {cs : Array Value} {off : Nat} : (part t cs off).run P w = .ok (.agg (cs.extract off (off + size))) w := by
 have hagg : (isAgg t).run P w = .ok true w := by
  unfold isAgg
  rw [Sem.run_bind, run_underlying ht w]; simp
 unfold part
 rw [Sem.run_bind, hagg]
 simp [hi.sizeOf]
theorem run_eq_pair {t : TypeId} {f g : Field} {k : Nat} {xs ys : Array Value} {a b a' b' : Value} {c e : Bool} (ht : P.underlying t = some (.struct #[f, g])) (hp : P.stoodInHeld t = false) (hn : f.name ≠ "_") (hn' : g.name ≠ "_")
  (p1 : (part f.type xs f.offset).run P w = .ok a w) (p2 : (part f.type ys f.offset).run P w = .ok b w) (p3 : (part g.type xs g.offset).run P w = .ok a' w) (p4 : (part g.type ys g.offset).run P w = .ok b' w)
  (h1 : (Op.equalIn k f.type a b).run P w = .ok c w) (h2 : (Op.equalIn k g.type a' b').run P w = .ok e w) : (Op.equalIn (k + 1) t (.agg xs) (.agg ys)).run P w = .ok (c && e) w := by
 have hfo : P.fieldsOf t = #[f, g] := by simp [Program.fieldsOf, ht]
 rw [run_equalIn_struct (P := P) w k t xs ys (by rw [hfo]; exact ht) hp, hfo]
 simp only [Op.eqFields, hn, hn', ne_eq, not_false_eq_true, if_true, Sem.run_bind, p1, p2, p3, p4, h1, h2, Result.andThen_ok]
 cases c
 ·simp
 ·simp only [Bool.not_true, Bool.false_eq_true, if_false, Sem.run_bind, p3, p4, h2, Result.andThen_ok]
  cases e <;> simp
theorem str_beq (a b : List UInt8) : ((⟨a.toArray⟩ : ByteArray).toList == (⟨b.toArray⟩ : ByteArray).toList) = decide (a = b) := by
 rw [ByteArray.toList_eq, ByteArray.toList_eq]
 show (a == b) = _
 by_cases h : a = b
 ·subst h; simp
 ·simp [h]
theorem run_eq_tsi {t : TypeId} {f g f' g' : Field} {zv : Value} {bytes : Nat} (ht : P.underlying t = some (.struct #[f, g])) (hp : P.stoodInHeld t = false) (hn : f.name ≠ "_") (hn' : g.name ≠ "_") (hu : P.underlying f.type = some (.struct #[f', g'])) (hpu : P.stoodInHeld f.type = false) (hm : f'.name ≠ "_") (hm' : g'.name ≠ "_") (hi : TI P f.type zv 2 bytes)
  (o1 : f.offset = 0) (o2 : g.offset = 2) (o3 : f'.offset = 0) (o4 : g'.offset = 1) (s1 : P.underlying f'.type = some .string) (s2 : P.underlying g'.type = some .string) (s3 : P.underlying g.type = some (.int .i64)) (a b a' b' : List UInt8) (z z' : Int) :
  (Op.equalIn 10000 t (.agg #[.string ⟨a.toArray⟩, .string ⟨b.toArray⟩, .int .i64 z]) (.agg #[.string ⟨a'.toArray⟩, .string ⟨b'.toArray⟩, .int .i64 z'])).run P w = .ok (decide (((a, b), z) = ((a', b'), z'))) w := by
 have h1 : (Op.equalIn (9998 + 1) f.type (.agg #[.string ⟨a.toArray⟩, .string ⟨b.toArray⟩]) (.agg #[.string ⟨a'.toArray⟩, .string ⟨b'.toArray⟩])).run P w = .ok (decide (a = a') && decide (b = b')) w :=
  run_eq_pair (k := 9997 + 1) (a := .string ⟨a.toArray⟩) (b := .string ⟨a'.toArray⟩) (a' := .string ⟨b.toArray⟩) (b' := .string ⟨b'.toArray⟩) hu hpu hm hm' (run_part_str s1 (by rw [o3]; rfl)) (run_part_str s1 (by rw [o3]; rfl)) (run_part_str s2 (by rw [o4]; rfl)) (run_part_str s2 (by rw [o4]; rfl))
   (by rw [run_equalIn_string w 9997 _ _ _ s1, str_beq]) (by rw [run_equalIn_string w 9997 _ _ _ s2, str_beq])
 have h2 := run_eq_pair (P := P) (w := w) (k := 9998 + 1) (xs := #[.string ⟨a.toArray⟩, .string ⟨b.toArray⟩, .int .i64 z]) (ys := #[.string ⟨a'.toArray⟩, .string ⟨b'.toArray⟩, .int .i64 z']) ht hp hn hn' (by rw [run_part_agg hu hi, o1]; rfl) (by rw [run_part_agg hu hi, o1]; rfl) (run_part_int s3 (v := .int .i64 z) (by rw [o2]; rfl)) (run_part_int s3 (v := .int .i64 z') (by rw [o2]; rfl)) h1 (run_equalIn_int w 9998 g.type .i64 .i64 z z' s3)
 rw [show (10000 : Nat) = 9998 + 1 + 1 from rfl, h2]
 congr 1
 by_cases e1 : a = a' <;> by_cases e2 : b = b' <;> by_cases e3 : z = z' <;> simp [e1, e2, e3]
theorem Rg.tsine {t t' : TypeId} {f g f' g' : Field} {zv : Value} {bytes : Nat} {p q : (List UInt8 × List UInt8) × Int} (ht : P.underlying t = some (.struct #[f, g])) (hp : P.stoodInHeld t = false) (hq : P.eqGuardType P.depth t = false) (hn : f.name ≠ "_") (hn' : g.name ≠ "_") (hu : P.underlying f.type = some (.struct #[f', g'])) (hpu : P.stoodInHeld f.type = false) (hm : f'.name ≠ "_") (hm' : g'.name ≠ "_") (hi : TI P f.type zv 2 bytes)
  (o1 : f.offset = 0) (o2 : g.offset = 2) (o3 : f'.offset = 0) (o4 : g'.offset = 1) (s1 : P.underlying f'.type = some .string) (s2 : P.underlying g'.type = some .string) (s3 : P.underlying g.type = some (.int .i64))
  (hx : ev L x = some (.agg #[.string ⟨p.1.1.toArray⟩, .string ⟨p.1.2.toArray⟩, .int .i64 p.2])) (hy : ev L y = some (.agg #[.string ⟨q.1.1.toArray⟩, .string ⟨q.1.2.toArray⟩, .int .i64 q.2])) (hd : Nat.blt d n = true)
  (k : Rg P r n ops rest ((d, .bool (decide (p ≠ q))) :: L) ds w K) :
  Rg P r n ops ({ dst := some d, op := .binOp .neq t x y t', type := ty, pos, after := af, guard := none } :: rest) L ds w K :=
 .op (fun _ h => by cases h) rfl rfl hd _ w (fun ρ h => by
  have he : (Op.equalIn 10000 t (.agg #[.string ⟨p.1.1.toArray⟩, .string ⟨p.1.2.toArray⟩, .int .i64 p.2]) (.agg #[.string ⟨q.1.1.toArray⟩, .string ⟨q.1.2.toArray⟩, .int .i64 q.2])).run P w = .ok (decide (p = q)) w := run_eq_tsi (P := P) (w := w) ht hp hn hn' hu hpu hm hm' hi o1 o2 o3 o4 s1 s2 s3 p.1.1 p.1.2 q.1.1 q.1.2 p.2 q.2
  simp only [execOp]; rw [h x _ hx, h y _ hy]
  rw [Sem.run_bind, Sem.run_bind, run_eqGuard_agg (P := P) w .neq t x y _ _ hq]
  simp only [run_neq_struct, he, Result.andThen_ok, Sem.run_bind, Sem.run_pure, decide_not]) k
end
end Go.K
namespace Go.K
open Go.Proofs
namespace TKQueC
theorem I49 : TI Tryz.prog 49 (.agg #[(.string ⟨#[]⟩), (.string ⟨#[]⟩), (.int .i64 0)]) 3 40 := by unfold TI; kernel_rfl
theorem I51 : TI Tryz.prog 51 (.agg #[(.string ⟨#[]⟩), (.string ⟨#[]⟩), (.int .i64 0)]) 3 40 := by unfold TI; kernel_rfl
theorem B49 : placesOf Tryz.prog 49 = [(0, 2), (2, 1)].map some := by kernel_rfl
end TKQueC
open TKQueC
set_option linter.unusedVariables false
set_option linter.unusedSimpArgs false
set_option maxRecDepth 10000
theorem as15_spec {M : PSet} {l : List Er} {v0 : Value} (w0 : World) (hM : Lt M w0) (hv : (RT.er.sl).V M w0 l v0) (hl : l.length ≤ 1000000) :
  Spec Tryz.prog 38 #[v0] w0 (fun v w => (RT.er.sl).V M w (l) v ∧ Step M w0 M w none') := by
 have hM0 := hM
 refine spec_of (args := [_]) (fn := Tryz.f38) Tryz.func38 rfl (n := 26) Tryz.ntmps38 ?_
 have S : Step M w0 M w0 none' := (Step.refl _ _).widen (fun _ h => h.elim) (fun _ h => h.elim)
 refine T.seq ?_
 refine T.region ?_
 refine Rg.assign rfl rfl ?_
 refine Rg.nil ?_
 refine T.seq ?_
 refine T.region ?_
 refine Rg.assign rfl rfl ?_
 refine Rg.nil ?_
 refine T.seq ?_
 refine T.seq ?_
 refine T.region ?_
 refine Rg.assign rfl rfl ?_
 refine Rg.nil ?_
 refine T.block ?_
 refine T.loop (σ := Nat × Value) (fun q => [(0, v0), (3, q.2), (4, .int .i64 (q.1 : Int))]) (fun q w => ∃ M', Lt M' w ∧ Step M w0 M' w none' ∧ Own RT.er 49 M' w w0.heap.size q.2 (l.take q.1) ∧ (RT.er.sl).V M' w l v0 ∧ q.1 ≤ l.length) (fun q => l.length - q.1) (0, .slice none 0 0) (.cons rfl (.cons rfl (.cons rfl .nil))) ?_ ?_
 ·exact ⟨M, hM, S, Own.nil _ _ _ _ _, hv, Nat.zero_le _⟩
 ·rintro ⟨i, u⟩ w ⟨M1, hM, S, ho, hv, hi⟩
  dsimp only at ho hi ⊢
  refine T.seq ?_
  refine T.seq ?_
  refine T.region ?_
  refine Rg.move rfl rfl ?_
  refine Rg.move rfl rfl ?_
  refine Rg.lensl Tryz.underlying75 rfl hv rfl ?_
  refine Rg.ilt rfl rfl rfl ?_
  refine Rg.nil ?_
  refine T.ifp rfl (fun c3 => ?_) (fun c3 => ?_)
  ·refine T.skip ?_
   refine T.seq ?_
   refine T.block ?_
   apply T.drawF 12 [0] 1 none' mixed rfl rfl rfl rfl
   intro wD5 sA5
   have sD5 := sA5 M1
   replace hv := hv.le sD5.le
   replace ho := ho.step0 sD5
   replace hM := sD5.lt hM
   have := S.size
   replace S := S.trans0 sD5
   refine Rg.move rfl rfl ?_
   refine Rg.nil ⟨rfl, rfl, rfl, ?_⟩
   refine Rg.move rfl rfl ?_
   refine Rg.nil ⟨rfl, rfl, rfl, ?_⟩
   refine Rg.move rfl rfl ?_
   refine Rg.nil ⟨rfl, rfl, rfl, ?_⟩
   obtain ⟨e, hge⟩ : ∃ e, l[i]? = some e := ⟨_, List.getElem?_eq_getElem (by omega)⟩
   refine Rg.idx (M := M1) Tryz.underlying75 I51 rfl rfl rfl hv (Le.refl _ _) (by omega) (fun u3 e3 hg_ hu3 => ?_)
   rw [Int.toNat_natCast] at hg_
   obtain rfl := Option.some.inj (hge.symm.trans hg_)
   refine Rg.nil ⟨rfl, rfl, rfl, ?_⟩
   refine Rg.fieldAddr (M := M1) (A := RT.er) (B := RT.fd) Tryz.underlying51 rfl rfl I47 (by decide) er0 rfl rfl (by decide) hu3 (Le.refl _ _) (fun u4 hu4 => ?_)
   refine Rg.nil ⟨rfl, rfl, rfl, ?_⟩
   refine Rg.loadagg (M := M1) (A := RT.fd) Tryz.underlying47 rfl I47 (by decide) rfl rfl rfl hu4 (Le.refl _ _) (fun vt hvt => ?_)
   have hel := fd_len hvt
   obtain rfl := fd_val hvt
   refine Rg.nil ⟨rfl, rfl, rfl, ?_⟩
   refine Rg.move rfl rfl ?_
   refine Rg.nil ⟨rfl, rfl, rfl, ?_⟩
   refine Rg.move rfl rfl ?_
   refine Rg.nil ⟨rfl, rfl, rfl, ?_⟩
   refine Rg.idx (M := M1) Tryz.underlying75 I51 rfl rfl rfl hv (Le.refl _ _) (by omega) (fun u8 e8 hg_ hu8 => ?_)
   rw [Int.toNat_natCast] at hg_
   obtain rfl := Option.some.inj (hge.symm.trans hg_)
   refine Rg.nil ⟨rfl, rfl, rfl, ?_⟩
   refine Rg.fieldAddr (M := M1) (A := RT.er) (B := RT.int .i64) Tryz.underlying51 rfl rfl I3 (by decide) er1 rfl rfl (by decide) hu8 (Le.refl _ _) (fun u9 hu9 => ?_)
   refine Rg.nil ⟨rfl, rfl, rfl, ?_⟩
   refine Rg.loadi64 (M := M1) Tryz.underlying3 rfl rfl hu9 (Le.refl _ _) (fun hez => ?_)
   refine Rg.nil ⟨rfl, rfl, rfl, ?_⟩
   refine Rg.build (places := [(0, 2), (2, 1)]) Tryz.underlying49 I49 B49 rfl ⟨_, _, rfl, rfl, _, _, rfl, rfl, rfl⟩ (out := [_, _, _]) ⟨0, [_, _], rfl, rfl, by simp [Value.cells], 2, [_], rfl, rfl, by simp [Value.cells], rfl⟩ ?_
   refine Rg.nil ⟨rfl, rfl, rfl, ?_⟩
   refine QRg.nil ?_
   refine ⟨Floats.all ⟨FloatOk.move, trivial⟩, ?_⟩
   have kp := Keep.refl none' wD5
   refine Rg.sl1 (A := RT.er) (hn := by decide) (M := M1) Tryz.underlying68 I49 (by decide) rfl rfl hM (er_mk (p := e) hel hez) (.inl rfl) (fun u5_12 w5_12 hu5_12 s5_12 => ?_)
   replace hv := hv.le s5_12.le
   replace ho := ho.step0 s5_12
   replace hM := s5_12.lt hM
   have := S.size
   replace S := S.trans0 s5_12
   refine (fun (kp : Keep _ _ _) => Rg.nil ⟨rfl, rfl, fun _ => kp, ?_⟩) (by first | exact kp | exact kp.go0 (by assumption) | exact kp.goN (by assumption) | exact kp.go (by assumption) (fun _ _ h => by first | exact h | exact h.elim))
   refine Rg.append (M := M1) (base := w0.heap.size) Tryz.underlying68 I49 rfl rfl rfl rfl ho hu5_12 (Le.refl _ _) (by simp; omega) (by simp; omega) (S.size) (fun u5_13 M5_13 w5_13 ho5_13 s5_13 => ?_)
   replace hv := hv.le s5_13.le
   replace hu5_12 := hu5_12.le s5_13.le
   replace hM := s5_13.lt hM
   have := S.size
   replace S := S.transBlk s5_13 ho (Nat.le_refl _)
   replace ho := ho5_13
   refine Rg.nil ⟨rfl, rfl, fun h => absurd rfl h, ?_⟩
   refine Rg.assign rfl rfl ?_
   refine Rg.nil ⟨rfl, rfl, fun h => absurd rfl h, ?_⟩
   refine TRg.nil ?_
   refine T.region ?_
   refine Rg.move rfl rfl ?_
   refine Rg.iadd rfl rfl rfl (by omega) ?_
   refine Rg.assign rfl rfl ?_
   refine Rg.nil ?_
   refine ⟨rfl, (i + 1, u5_13), (.cons rfl (.cons rfl (.cons rfl .nil))), ?_, ?_⟩
   ·exact ⟨M5_13, hM, S, by dsimp only; rw [List.take_add_one, hge]; exact ho, hv, by dsimp only; omega⟩
   ·dsimp only; omega
  ·refine T.exit ?_
   refine T.seq ?_
   refine T.region ?_
   refine Rg.move rfl rfl ?_
   refine Rg.assign rfl rfl ?_
   refine Rg.nil ?_
   refine T.ret ?_
   rw [List.take_of_length_le (by omega)] at ho
   exact Kret1 rfl rfl ⟨ho.close hM0 S (by first | omega | (simp; omega)), S.back⟩
theorem upto15_spec {M : PSet} {l : List Er} {t : Int} {v0 : Value} (w0 : World) (hM : Lt M w0) (hv : (RT.er.sl).V M w0 l v0) (hl : l.length ≤ 1000000) :
  Spec Tryz.prog 34 #[v0, .int .i64 t] w0 (fun v w => ∃ M', Own RT.er 49 M' w w0.heap.size v (l.filter (fun x => decide (x.2 < t))) ∧ Step M w0 M' w none') := by
 have hM0 := hM
 refine spec_of (args := [_, _]) (fn := Tryz.f34) Tryz.func34 rfl (n := 28) Tryz.ntmps34 ?_
 have S : Step M w0 M w0 none' := (Step.refl _ _).widen (fun _ h => h.elim) (fun _ h => h.elim)
 refine T.seq ?_
 refine T.region ?_
 refine Rg.assign rfl rfl ?_
 refine Rg.nil ?_
 refine T.seq ?_
 refine T.region ?_
 refine Rg.assign rfl rfl ?_
 refine Rg.nil ?_
 refine T.seq ?_
 refine T.seq ?_
 refine T.region ?_
 refine Rg.assign rfl rfl ?_
 refine Rg.nil ?_
 refine T.block ?_
 refine T.loop (σ := Nat × Value) (fun q => [(0, v0), (1, .int .i64 t), (5, q.2), (6, .int .i64 (q.1 : Int))]) (fun q w => ∃ M', Lt M' w ∧ Step M w0 M' w none' ∧ Own RT.er 49 M' w w0.heap.size q.2 ((l.take q.1).filter (fun x => decide (x.2 < t))) ∧ (RT.er.sl).V M' w l v0 ∧ q.1 ≤ l.length) (fun q => l.length - q.1) (0, .slice none 0 0) (.cons rfl (.cons rfl (.cons rfl (.cons rfl .nil)))) ?_ ?_
 ·exact ⟨M, hM, S, Own.nil _ _ _ _ _, hv, Nat.zero_le _⟩
 ·rintro ⟨i, u⟩ w ⟨M1, hM, S, ho, hv, hi⟩
  dsimp only at ho hi ⊢
  refine T.seq ?_
  refine T.seq ?_
  refine T.region ?_
  refine Rg.move rfl rfl ?_
  refine Rg.move rfl rfl ?_
  refine Rg.lensl Tryz.underlying68 rfl hv rfl ?_
  refine Rg.ilt rfl rfl rfl ?_
  refine Rg.nil ?_
  refine T.ifp rfl (fun c3 => ?_) (fun c3 => ?_)
  ·refine T.skip ?_
   refine T.seq ?_
   refine T.block ?_
   refine T.seq ?_
   refine T.region ?_
   refine Rg.move rfl rfl ?_
   refine Rg.move rfl rfl ?_
   obtain ⟨e, hge⟩ : ∃ e, l[i]? = some e := ⟨_, List.getElem?_eq_getElem (by omega)⟩
   refine Rg.idx (M := M1) Tryz.underlying68 I49 rfl rfl rfl hv (Le.refl _ _) (by omega) (fun u3 e3 hg_ hu3 => ?_)
   rw [Int.toNat_natCast] at hg_
   obtain rfl := Option.some.inj (hge.symm.trans hg_)
   refine Rg.fieldAddr (M := M1) (A := RT.er) (B := RT.int .i64) Tryz.underlying49 rfl rfl I3 (by decide) er1 rfl rfl (by decide) hu3 (Le.refl _ _) (fun u4 hu4 => ?_)
   refine Rg.loadi64 (M := M1) Tryz.underlying3 rfl rfl hu4 (Le.refl _ _) (fun hin_ => ?_)
   refine Rg.eqv (v' := .int .i64 e.2) rfl ?_
   refine Rg.move rfl rfl ?_
   refine Rg.ilt rfl rfl rfl ?_
   refine Rg.nil ?_
   refine T.ifp rfl (fun c5 => ?_) (fun c5 => ?_)
   ·refine T.region ?_
    refine Rg.move rfl rfl ?_
    refine Rg.move rfl rfl ?_
    refine Rg.move rfl rfl ?_
    refine Rg.idx (M := M1) Tryz.underlying68 I49 rfl rfl rfl hv (Le.refl _ _) (by omega) (fun u6 e6 hg_ hu6 => ?_)
    rw [Int.toNat_natCast] at hg_
    obtain rfl := Option.some.inj (hge.symm.trans hg_)
    refine Rg.loadagg (M := M1) (A := RT.er) Tryz.underlying49 rfl I49 (by decide) rfl rfl rfl hu6 (Le.refl _ _) (fun ve hve => ?_)
    refine Rg.sl1 (A := RT.er) (hn := by decide) (M := M1) Tryz.underlying68 I49 (by decide) rfl rfl hM (hve) (.inl rfl) (fun u6_5 w6_5 hu6_5 s6_5 => ?_)
    replace hv := hv.le s6_5.le
    replace ho := ho.step0 s6_5
    replace hM := s6_5.lt hM
    have := S.size
    replace S := S.trans0 s6_5
    refine Rg.append (M := M1) (base := w0.heap.size) Tryz.underlying68 I49 rfl rfl rfl rfl ho hu6_5 (Le.refl _ _) (by have := List.length_filter_le (fun x : Er => decide (x.2 < t)) (l.take i); rw [List.length_take] at this; simp; omega) (by have := List.length_filter_le (fun x : Er => decide (x.2 < t)) (l.take i); rw [List.length_take] at this; simp; omega) (S.size) (fun u6_6 M6_6 w6_6 ho6_6 s6_6 => ?_)
    replace hv := hv.le s6_6.le
    replace hu6_5 := hu6_5.le s6_6.le
    replace hM := s6_6.lt hM
    have := S.size
    replace S := S.transBlk s6_6 ho (Nat.le_refl _)
    replace ho := ho6_6
    refine Rg.assign rfl rfl ?_
    refine Rg.nil ?_
    refine T.region ?_
    refine Rg.move rfl rfl ?_
    refine Rg.iadd rfl rfl rfl (by omega) ?_
    refine Rg.assign rfl rfl ?_
    refine Rg.nil ?_
    refine ⟨rfl, (i + 1, u6_6), (.cons rfl (.cons rfl (.cons rfl (.cons rfl .nil)))), ?_, ?_⟩
    ·exact ⟨M6_6, hM, S, by dsimp only; rw [List.take_add_one, hge, Option.toList_some, List.filter_append, List.filter_cons_of_pos (by simpa using c5)]; exact ho, hv, by dsimp only; omega⟩
    ·dsimp only; omega
   ·refine T.skip ?_
    refine T.region ?_
    refine Rg.move rfl rfl ?_
    refine Rg.iadd rfl rfl rfl (by omega) ?_
    refine Rg.assign rfl rfl ?_
    refine Rg.nil ?_
    refine ⟨rfl, (i + 1, u), (.cons rfl (.cons rfl (.cons rfl (.cons rfl .nil)))), ?_, ?_⟩
    ·exact ⟨M1, hM, S, by dsimp only; rw [List.take_add_one, hge, Option.toList_some, List.filter_append, List.filter_cons_of_neg (by simpa using c5), List.filter_nil, List.append_nil]; exact ho, hv, by dsimp only; omega⟩
    ·dsimp only; omega
  ·refine T.exit ?_
   refine T.seq ?_
   refine T.region ?_
   refine Rg.move rfl rfl ?_
   refine Rg.assign rfl rfl ?_
   refine Rg.nil ?_
   refine T.ret ?_
   rw [List.take_of_length_le (by omega)] at ho
   exact Kret1 rfl rfl ⟨M1, ho, S⟩
theorem rest15_spec {M : PSet} {l : List Er} {t : Int} {v0 : Value} (w0 : World) (hM : Lt M w0) (hv : (RT.er.sl).V M w0 l v0) (hl : l.length ≤ 1000000) :
  Spec Tryz.prog 35 #[v0, .int .i64 t] w0 (fun v w => ∃ M', Own RT.er 49 M' w w0.heap.size v (l.filter (fun x => decide (t ≤ x.2))) ∧ Step M w0 M' w none') := by
 have hM0 := hM
 refine spec_of (args := [_, _]) (fn := Tryz.f35) Tryz.func35 rfl (n := 28) Tryz.ntmps35 ?_
 have S : Step M w0 M w0 none' := (Step.refl _ _).widen (fun _ h => h.elim) (fun _ h => h.elim)
 refine T.seq ?_
 refine T.region ?_
 refine Rg.assign rfl rfl ?_
 refine Rg.nil ?_
 refine T.seq ?_
 refine T.region ?_
 refine Rg.assign rfl rfl ?_
 refine Rg.nil ?_
 refine T.seq ?_
 refine T.seq ?_
 refine T.region ?_
 refine Rg.assign rfl rfl ?_
 refine Rg.nil ?_
 refine T.block ?_
 refine T.loop (σ := Nat × Value) (fun q => [(0, v0), (1, .int .i64 t), (5, q.2), (6, .int .i64 (q.1 : Int))]) (fun q w => ∃ M', Lt M' w ∧ Step M w0 M' w none' ∧ Own RT.er 49 M' w w0.heap.size q.2 ((l.take q.1).filter (fun x => decide (t ≤ x.2))) ∧ (RT.er.sl).V M' w l v0 ∧ q.1 ≤ l.length) (fun q => l.length - q.1) (0, .slice none 0 0) (.cons rfl (.cons rfl (.cons rfl (.cons rfl .nil)))) ?_ ?_
 ·exact ⟨M, hM, S, Own.nil _ _ _ _ _, hv, Nat.zero_le _⟩
 ·rintro ⟨i, u⟩ w ⟨M1, hM, S, ho, hv, hi⟩
  dsimp only at ho hi ⊢
  refine T.seq ?_
  refine T.seq ?_
  refine T.region ?_
  refine Rg.move rfl rfl ?_
  refine Rg.move rfl rfl ?_
  refine Rg.lensl Tryz.underlying68 rfl hv rfl ?_
  refine Rg.ilt rfl rfl rfl ?_
  refine Rg.nil ?_
  refine T.ifp rfl (fun c3 => ?_) (fun c3 => ?_)
  ·refine T.skip ?_
   refine T.seq ?_
   refine T.block ?_
   refine T.seq ?_
   refine T.region ?_
   refine Rg.move rfl rfl ?_
   refine Rg.move rfl rfl ?_
   obtain ⟨e, hge⟩ : ∃ e, l[i]? = some e := ⟨_, List.getElem?_eq_getElem (by omega)⟩
   refine Rg.idx (M := M1) Tryz.underlying68 I49 rfl rfl rfl hv (Le.refl _ _) (by omega) (fun u3 e3 hg_ hu3 => ?_)
   rw [Int.toNat_natCast] at hg_
   obtain rfl := Option.some.inj (hge.symm.trans hg_)
   refine Rg.fieldAddr (M := M1) (A := RT.er) (B := RT.int .i64) Tryz.underlying49 rfl rfl I3 (by decide) er1 rfl rfl (by decide) hu3 (Le.refl _ _) (fun u4 hu4 => ?_)
   refine Rg.loadi64 (M := M1) Tryz.underlying3 rfl rfl hu4 (Le.refl _ _) (fun hin_ => ?_)
   refine Rg.eqv (v' := .int .i64 e.2) rfl ?_
   refine Rg.move rfl rfl ?_
   refine Rg.ige rfl rfl rfl ?_
   refine Rg.nil ?_
   refine T.ifp rfl (fun c5 => ?_) (fun c5 => ?_)
   ·refine T.region ?_
    refine Rg.move rfl rfl ?_
    refine Rg.move rfl rfl ?_
    refine Rg.move rfl rfl ?_
    refine Rg.idx (M := M1) Tryz.underlying68 I49 rfl rfl rfl hv (Le.refl _ _) (by omega) (fun u6 e6 hg_ hu6 => ?_)
    rw [Int.toNat_natCast] at hg_
    obtain rfl := Option.some.inj (hge.symm.trans hg_)
    refine Rg.loadagg (M := M1) (A := RT.er) Tryz.underlying49 rfl I49 (by decide) rfl rfl rfl hu6 (Le.refl _ _) (fun ve hve => ?_)
    refine Rg.sl1 (A := RT.er) (hn := by decide) (M := M1) Tryz.underlying68 I49 (by decide) rfl rfl hM (hve) (.inl rfl) (fun u6_5 w6_5 hu6_5 s6_5 => ?_)
    replace hv := hv.le s6_5.le
    replace ho := ho.step0 s6_5
    replace hM := s6_5.lt hM
    have := S.size
    replace S := S.trans0 s6_5
    refine Rg.append (M := M1) (base := w0.heap.size) Tryz.underlying68 I49 rfl rfl rfl rfl ho hu6_5 (Le.refl _ _) (by have := List.length_filter_le (fun x : Er => decide (t ≤ x.2)) (l.take i); rw [List.length_take] at this; simp; omega) (by have := List.length_filter_le (fun x : Er => decide (t ≤ x.2)) (l.take i); rw [List.length_take] at this; simp; omega) (S.size) (fun u6_6 M6_6 w6_6 ho6_6 s6_6 => ?_)
    replace hv := hv.le s6_6.le
    replace hu6_5 := hu6_5.le s6_6.le
    replace hM := s6_6.lt hM
    have := S.size
    replace S := S.transBlk s6_6 ho (Nat.le_refl _)
    replace ho := ho6_6
    refine Rg.assign rfl rfl ?_
    refine Rg.nil ?_
    refine T.region ?_
    refine Rg.move rfl rfl ?_
    refine Rg.iadd rfl rfl rfl (by omega) ?_
    refine Rg.assign rfl rfl ?_
    refine Rg.nil ?_
    refine ⟨rfl, (i + 1, u6_6), (.cons rfl (.cons rfl (.cons rfl (.cons rfl .nil)))), ?_, ?_⟩
    ·exact ⟨M6_6, hM, S, by dsimp only; rw [List.take_add_one, hge, Option.toList_some, List.filter_append, List.filter_cons_of_pos (by simpa using c5)]; exact ho, hv, by dsimp only; omega⟩
    ·dsimp only; omega
   ·refine T.skip ?_
    refine T.region ?_
    refine Rg.move rfl rfl ?_
    refine Rg.iadd rfl rfl rfl (by omega) ?_
    refine Rg.assign rfl rfl ?_
    refine Rg.nil ?_
    refine ⟨rfl, (i + 1, u), (.cons rfl (.cons rfl (.cons rfl (.cons rfl .nil)))), ?_, ?_⟩
    ·exact ⟨M1, hM, S, by dsimp only; rw [List.take_add_one, hge, Option.toList_some, List.filter_append, List.filter_cons_of_neg (by simpa using c5), List.filter_nil, List.append_nil]; exact ho, hv, by dsimp only; omega⟩
    ·dsimp only; omega
  ·refine T.exit ?_
   refine T.seq ?_
   refine T.region ?_
   refine Rg.move rfl rfl ?_
   refine Rg.assign rfl rfl ?_
   refine Rg.nil ?_
   refine T.ret ?_
   rw [List.take_of_length_le (by omega)] at ho
   exact Kret1 rfl rfl ⟨M1, ho, S⟩
theorem same15_spec {M : PSet} {w0 : World} {v u : Value} {a b : List Er} (hM : Lt M w0) (hv : (RT.er.sl).V M w0 a v) (hu : (RT.er.sl).V M w0 b u) :
  Spec Tryz.prog 37 #[v, u] w0 (fun v' w' => v' = .bool (decide (a = b)) ∧ Step M w0 M w' none') := by
 have hla := V_sl_len hv
 have hlb := V_sl_len hu
 refine spec_of (args := [_, _]) (fn := Tryz.f37) Tryz.func37 rfl (n := 26) Tryz.ntmps37 ?_
 refine T.seq ?_
 refine T.region ?_
 refine Rg.assign rfl rfl ?_
 refine Rg.nil ?_
 refine T.seq ?_
 refine T.seq ?_
 refine T.region ?_
 refine Rg.move rfl rfl ?_
 refine Rg.lensl Tryz.underlying68 rfl hv rfl ?_
 refine Rg.move rfl rfl ?_
 refine Rg.lensl Tryz.underlying68 rfl hu rfl ?_
 refine Rg.ine rfl rfl rfl ?_
 refine Rg.nil ?_
 refine T.ifp rfl (fun c1 => ?_) (fun c1 => ?_)
 ·refine T.seq ?_
  refine T.region ?_
  refine Rg.assign rfl rfl ?_
  refine Rg.nil ?_
  refine T.ret ?_
  refine Kret1 rfl rfl ⟨?_, Step.refl _ _⟩
  rw [decide_eq_false]
  rintro rfl; exact c1 rfl
 ·obtain hlen : a.length = b.length := by omega
  refine T.skip ?_
  refine T.seq ?_
  refine T.seq ?_
  refine T.region ?_
  refine Rg.assign rfl rfl ?_
  refine Rg.nil ?_
  refine T.block ?_
  refine T.loop (σ := Nat) (fun s => [(0, v), (1, u), (5, .int .i64 s)]) (fun s w => s ≤ a.length ∧ a.take s = b.take s ∧ Step M w0 M w none') (fun s => a.length - s) 0 (.cons rfl (.cons rfl (.cons rfl .nil))) ?_ ?_
  ·exact ⟨Nat.zero_le _, by simp, Step.refl _ _⟩
  ·rintro k w1 ⟨hk, heq, s1⟩
   refine T.seq ?_
   refine T.seq ?_
   refine T.region ?_
   refine Rg.move rfl rfl ?_
   refine Rg.move rfl rfl ?_
   refine Rg.lensl Tryz.underlying68 rfl hv rfl ?_
   refine Rg.ilt rfl rfl rfl ?_
   refine Rg.nil ?_
   refine T.ifp rfl (fun c4 => ?_) (fun c4 => ?_)
   ·refine T.skip ?_
    refine T.seq ?_
    refine T.block ?_
    refine T.seq ?_
    obtain ⟨x, hx⟩ : ∃ x, a[k]? = some x := ⟨_, List.getElem?_eq_getElem (by omega)⟩
    obtain ⟨y, hy⟩ : ∃ y, b[k]? = some y := ⟨_, List.getElem?_eq_getElem (by omega)⟩
    apply T.draw (M := M) mixed [Asr.eq _, Asr.eq _, Asr.ptr (RT.er) x, Asr.eq (.agg #[.string ⟨x.1.1.toArray⟩, .string ⟨x.1.2.toArray⟩, .int .i64 x.2]), Asr.eq _, Asr.eq _, Asr.ptr (RT.er) y, Asr.eq (.agg #[.string ⟨y.1.1.toArray⟩, .string ⟨y.1.2.toArray⟩, .int .i64 y.2]), Asr.eq _]
    ·rfl
    ·refine Obls.cons ?_ ?_
     ·intro wD E sD
      refine Rg.move rfl rfl ?_
      exact Rg.nil ⟨rfl, rfl, _, rfl, rfl, Step.refl _ _⟩
     refine Obls.cons ?_ ?_
     ·intro wD E sD
      refine Rg.move rfl rfl ?_
      exact Rg.nil ⟨rfl, rfl, _, rfl, rfl, Step.refl _ _⟩
     refine Obls.cons ?_ ?_
     ·intro wD E sD
      intro x_ hx_; have hx_ : x_ = _ := hx_; subst x_
      intro x_ hx_; have hx_ : x_ = _ := hx_; subst x_
      refine Rg.idx (M := M) Tryz.underlying68 I49 rfl rfl rfl ((hv.le s1.le).le sD.le) (Le.refl _ _) (by omega) (fun ui ai hgi hui => ?_)
      obtain rfl : x = ai := Eq.symm (Option.some.inj (hgi.symm.trans (by simpa using hx)))
      exact Rg.nil ⟨rfl, rfl, _, rfl, hui, Step.refl _ _⟩
     refine Obls.cons ?_ ?_
     ·intro wD E sD
      intro v2 hv2
      refine Rg.loadagg (M := M) (A := RT.er) Tryz.underlying49 rfl I49 (by decide) rfl rfl rfl (show PtrTo RT.er M wD v2 x from hv2) (Le.refl _ _) (fun ve hve => ?_)
      obtain ⟨rfl, _, _⟩ := er_val hve
      exact Rg.nil ⟨rfl, rfl, _, rfl, rfl, Step.refl _ _⟩
     refine Obls.cons ?_ ?_
     ·intro wD E sD
      refine Rg.move rfl rfl ?_
      exact Rg.nil ⟨rfl, rfl, _, rfl, rfl, Step.refl _ _⟩
     refine Obls.cons ?_ ?_
     ·intro wD E sD
      refine Rg.move rfl rfl ?_
      exact Rg.nil ⟨rfl, rfl, _, rfl, rfl, Step.refl _ _⟩
     refine Obls.cons ?_ ?_
     ·intro wD E sD
      intro x_ hx_; have hx_ : x_ = _ := hx_; subst x_
      intro x_ hx_; have hx_ : x_ = _ := hx_; subst x_
      refine Rg.idx (M := M) Tryz.underlying68 I49 rfl rfl rfl ((hu.le s1.le).le sD.le) (Le.refl _ _) (by omega) (fun ui ai hgi hui => ?_)
      obtain rfl : y = ai := Eq.symm (Option.some.inj (hgi.symm.trans (by simpa using hy)))
      exact Rg.nil ⟨rfl, rfl, _, rfl, hui, Step.refl _ _⟩
     refine Obls.cons ?_ ?_
     ·intro wD E sD
      intro v6 hv6
      refine Rg.loadagg (M := M) (A := RT.er) Tryz.underlying49 rfl I49 (by decide) rfl rfl rfl (show PtrTo RT.er M wD v6 y from hv6) (Le.refl _ _) (fun ve hve => ?_)
      obtain ⟨rfl, _, _⟩ := er_val hve
      exact Rg.nil ⟨rfl, rfl, _, rfl, rfl, Step.refl _ _⟩
     refine Obls.cons ?_ ?_
     ·intro wD E sD
      intro x_ hx_; have hx_ : x_ = _ := hx_; subst x_
      intro x_ hx_; have hx_ : x_ = _ := hx_; subst x_
      refine Rg.tsine Tryz.underlying49 (by kernel_rfl) (by kernel_rfl) (by decide) (by decide) Tryz.underlying47 (by kernel_rfl) (by decide) (by decide) I47 rfl rfl rfl rfl Tryz.underlying9 Tryz.underlying9 Tryz.underlying3 rfl rfl rfl ?_
      exact Rg.nil ⟨rfl, rfl, _, rfl, rfl, Step.refl _ _⟩
     exact Obls.nil
    ·intro wD6 sD6
     intro x_ hx_; have hx_ : x_ = _ := hx_; subst x_
     intro x_ hx_; have hx_ : x_ = _ := hx_; subst x_
     intro v6_2 hv6_2
     intro x_ hx_; have hx_ : x_ = _ := hx_; subst x_
     intro x_ hx_; have hx_ : x_ = _ := hx_; subst x_
     intro x_ hx_; have hx_ : x_ = _ := hx_; subst x_
     intro v6_6 hv6_6
     intro x_ hx_; have hx_ : x_ = _ := hx_; subst x_
     intro x_ hx_; have hx_ : x_ = _ := hx_; subst x_
     refine T.ifp rfl (fun c6 => ?_) (fun c6 => ?_)
     ·refine T.seq ?_
      refine T.region ?_
      refine Rg.assign rfl rfl ?_
      refine Rg.nil ?_
      refine T.ret ?_
      refine Kret1 rfl rfl ⟨?_, s1.trans0 sD6⟩
      rw [decide_eq_false]
      rintro rfl; rw [hx] at hy; cases hy; exact c6 rfl
     ·refine T.skip ?_
      refine T.region ?_
      refine Rg.move rfl rfl ?_
      refine Rg.iadd rfl rfl rfl (by omega) ?_
      refine Rg.assign rfl rfl ?_
      refine Rg.nil ?_
      refine ⟨rfl, k + 1, (.cons rfl (.cons rfl (.cons rfl .nil))), ?_, ?_⟩
      ·exact ⟨by omega, by rw [List.take_add_one, List.take_add_one, heq, hx, hy, Decidable.not_not.1 c6], s1.trans0 sD6⟩
      ·show a.length - (k + 1) < a.length - k; omega
   ·refine T.exit ?_
    refine T.seq ?_
    refine T.region ?_
    refine Rg.assign rfl rfl ?_
    refine Rg.nil ?_
    refine T.ret ?_
    refine Kret1 rfl rfl ⟨?_, s1⟩
    rw [decide_eq_true]
    rwa [List.take_of_length_le (by omega), List.take_of_length_le (by omega)] at heq
end Go.K
namespace Go.K
open Go.Proofs
namespace TKPlays15
theorem I49 : TI Tryz.prog 49 (.agg #[(.string ⟨#[]⟩), (.string ⟨#[]⟩), (.int .i64 0)]) 3 40 := by unfold TI; kernel_rfl
theorem I51 : TI Tryz.prog 51 (.agg #[(.string ⟨#[]⟩), (.string ⟨#[]⟩), (.int .i64 0)]) 3 40 := by unfold TI; kernel_rfl
theorem I70 : TI Tryz.prog 70 (.agg #[(.int .i64 0), (.string ⟨#[]⟩), (.string ⟨#[]⟩), (.int .i64 0)]) 4 48 := by unfold TI; kernel_rfl
theorem B51 : placesOf Tryz.prog 51 = [(0, 2), (2, 1)].map some := by kernel_rfl
theorem E26 : Enters Tryz.prog 26 := enters Tryz.func26 rfl (by decide)
theorem E32 : Enters Tryz.prog 32 := enters Tryz.func32 rfl (by decide)
theorem E33 : Enters Tryz.prog 33 := enters Tryz.func33 rfl (by decide)
theorem E34 : Enters Tryz.prog 34 := enters Tryz.func34 rfl (by decide)
theorem E35 : Enters Tryz.prog 35 := enters Tryz.func35 rfl (by decide)
theorem E36 : Enters Tryz.prog 36 := enters Tryz.func36 rfl (by decide)
theorem E37 : Enters Tryz.prog 37 := enters Tryz.func37 rfl (by decide)
theorem E38 : Enters Tryz.prog 38 := enters Tryz.func38 rfl (by decide)
theorem E39 : Enters Tryz.prog 39 := enters Tryz.func39 rfl (by decide)
theorem E40 : Enters Tryz.prog 40 := enters Tryz.func40 rfl (by decide)
theorem E41 : Enters Tryz.prog 41 := enters Tryz.func41 rfl (by decide)
end TKPlays15
open TKPlays15
set_option linter.unusedVariables false
set_option linter.unusedSimpArgs false
set_option maxRecDepth 10000
theorem upto15V {M : PSet} {base : Nat} {u : Value} {l : List Er} {t : Int} (w0 : World) (hM : Lt M w0) (ho : Own RT.er 49 M w0 base u l) (hl : l.length ≤ 1000000) : Spec Tryz.prog 34 #[u, .int .i64 t] w0 (fun v w => (RT.er.sl).V M w (l.filter (fun x => decide (x.2 < t))) v ∧ Step M w0 M w none') :=
 (upto15_spec (M := rm M u) w0 (hM.rm u) (ho.view (by omega)) hl).mono fun v w ⟨M', h, s⟩ => h.freshV er_any s (Nat.le_refl _) hM (by have := List.length_filter_le (fun x : Er => decide (x.2 < t)) l; omega)
theorem rest15O {M : PSet} {base : Nat} {u : Value} {l : List Er} {t : Int} (w0 : World) (hM : Lt M w0) (ho : Own RT.er 49 M w0 base u l) (hl : l.length ≤ 1000000) : Spec Tryz.prog 35 #[u, .int .i64 t] w0 (fun v w => ∃ M', Own RT.er 49 M' w w0.heap.size v (l.filter (fun x => decide (t ≤ x.2))) ∧ Step M w0 M' w none') :=
 (rest15_spec (M := rm M u) w0 (hM.rm u) (ho.view (by omega)) hl).mono fun v w ⟨M', h, s⟩ => ⟨_, h.moveQ er_any s (Nat.le_refl _) M⟩
theorem same15O {M : PSet} {base : Nat} {u v : Value} {a b : List Er} (w0 : World) (hM : Lt M w0) (hv : (RT.er.sl).V M w0 a v) (ho : Own RT.er 49 M w0 base u b) (hl : b.length ≤ 1000000) : Spec Tryz.prog 37 #[v, u] w0 (fun v w => v = .bool (decide (a = b)) ∧ Step M w0 M w none') :=
 (same15_spec (M := rm M u) (hM.rm u) (hv.le (le_rm M u w0)) (ho.view (by omega))).mono fun v w ⟨h, s⟩ => ⟨h, s.any M⟩
abbrev Deed := Int × Er
abbrev RT.de : RT Deed := RT.pair (RT.int .i64) RT.er
theorem de0 : Part RT.de (RT.int .i64) (fun p => p.1) 0 := Part.fst _ _
theorem de1 : Part RT.de RT.er (fun p => p.2) 1 := Part.snd _ _
theorem snoc_pw {xs : List Er} {e : Er} (h : xs.Pairwise fun a b => a.2 < b.2) (h1 : ∀ x ∈ xs, x.2 < e.2) : (xs ++ [e]).Pairwise fun a b => a.2 < b.2 := List.pairwise_append.2 ⟨h, List.pairwise_singleton _ _, fun a ha b hb => by rw [List.mem_singleton.1 hb]; exact h1 a ha⟩
theorem ErasePlays_spec {M : PSet} {l : List Deed} {v0 : Value} {w0 : World} (hM : Lt M w0) (hv : (RT.de.sl).V M w0 l v0) :
  Spec Tryz.prog 7 #[v0] w0 (fun v w => v = .bool true ∧ Step M w0 M w none') := by
 have hM0 := hM
 have hlen := V_sl_len hv
 refine spec_of (args := [_]) (fn := Tryz.f7) Tryz.func7 rfl (n := 101) Tryz.ntmps7 ?_
 have S : Step M w0 M w0 none' := (Step.refl _ _).widen (fun _ h => h.elim) (fun _ h => h.elim)
 refine T.seq ?_
 refine T.region ?_
 refine Rg.assign rfl rfl ?_
 refine Rg.nil ?_
 refine T.seq ?_
 refine T.region ?_
 refine Rg.call rfl rfl E32 (qnew_spec _ hM) (fun r1 w1 hc => ?_)
 obtain ⟨bq, rfl, hbq, s1, hq⟩ := hc
 generalize ins M bq = Mq at s1 hq
 replace hv := hv.le s1.le
 replace hM := s1.lt hM
 have := S.size
 replace S := S.trans0 s1
 refine Rg.assign rfl rfl ?_
 refine Rg.nil ?_
 refine T.seq ?_
 refine T.seq ?_
 refine T.region ?_
 refine Rg.move rfl rfl ?_
 refine Rg.ptreq Tryz.underlying66 rfl rfl rfl ?_
 refine Rg.nil ?_
 refine T.iffp rfl ((by simp)) ?_
 refine T.skip ?_
 refine T.seq ?_
 refine T.region ?_
 refine Rg.assign rfl rfl ?_
 refine Rg.nil ?_
 refine T.seq ?_
 refine T.region ?_
 refine Rg.assign rfl rfl ?_
 refine Rg.nil ?_
 refine T.seq ?_
 refine T.seq ?_
 refine T.region ?_
 refine Rg.assign rfl rfl ?_
 refine Rg.nil ?_
 refine T.block ?_
 refine T.loop (σ := Nat × List Er × Int × Value) (fun q => [(0, v0), (3, .pointer (some ⟨bq, 0, none⟩)), (4, q.2.2.2), (5, .int .i64 q.2.2.1), (6, .int .i64 (q.1 : Int))]) (fun q w => ∃ M1, Lt M1 w ∧ Step M w0 M1 w none' ∧ Own RT.er 49 M1 w w0.heap.size q.2.2.2 q.2.1 ∧ Qu M1 w w0.heap.size bq q.2.1 q.2.2.1 ∧ (RT.de.sl).V M1 w l v0 ∧ (q.2.1.Pairwise fun a b => a.2 < b.2) ∧ (∀ x ∈ q.2.1, x.2 ≤ q.2.2.1) ∧ -1 ≤ q.2.2.1 ∧ q.2.1.length ≤ q.1 ∧ q.1 ≤ 30 ∧ q.1 ≤ l.length) (fun q => l.length - q.1) (0, [], -1, .slice none 0 0) (.cons rfl (.cons rfl (.cons rfl (.cons rfl (.cons rfl .nil))))) ?_ ?_
 ·exact ⟨_, hM, S, Own.nil _ _ _ _ _, hq.step0 (Step.refl _ _), hv, List.Pairwise.nil, (fun x h => absurd h (List.not_mem_nil)), by decide, Nat.le_refl _, by decide, Nat.zero_le _⟩
 ·rintro ⟨i, xs, last, u⟩ w ⟨M1, hM, S, ho, hq, hv, hpw, hle, hl1, hxl, hi, hil⟩
  dsimp only at ho hq hpw hle hl1 hxl hi hil ⊢
  refine T.seq ?_
  refine T.seq ?_
  refine T.region ?_
  refine Rg.move rfl rfl ?_
  refine Rg.move rfl rfl ?_
  refine Rg.lensl Tryz.underlying65 rfl hv rfl ?_
  refine Rg.ilt rfl rfl rfl ?_
  refine Rg.move rfl rfl ?_
  refine Rg.gsplitp (g := 17) rfl (fun g7_4 => ?_) (fun g7_4 => ?_)
  ·refine Rg.gyes rfl rfl ?_
   refine Rg.move rfl rfl ?_
   refine Rg.gyes rfl rfl ?_
   refine Rg.ilt rfl rfl rfl ?_
   refine Rg.pickt rfl rfl rfl ?_
   refine Rg.nil ?_
   refine T.ifp rfl (fun c7 => ?_) (fun c7 => ?_)
   ·refine T.skip ?_
    refine T.seq ?_
    refine T.block ?_
    refine T.seq ?_
    refine T.region ?_
    refine Rg.move rfl rfl ?_
    refine Rg.move rfl rfl ?_
    obtain ⟨⟨kk, e⟩, hge⟩ : ∃ x, l[i]? = some x := ⟨_, List.getElem?_eq_getElem (by omega)⟩
    refine Rg.idx (M := M1) Tryz.underlying65 I70 rfl rfl rfl hv (Le.refl _ _) (by omega) (fun u92 x hg_ hu92 => ?_)
    rw [Int.toNat_natCast] at hg_
    obtain rfl := Option.some.inj (hge.symm.trans hg_)
    refine Rg.fieldAddr (M := M1) (A := RT.de) (B := RT.er) Tryz.underlying70 rfl rfl I49 (by decide) de1 rfl rfl (by decide) hu92 (Le.refl _ _) (fun u93 hu93 => ?_)
    refine Rg.loadagg (M := M1) (A := RT.er) Tryz.underlying49 rfl I49 (by decide) rfl rfl rfl hu93 (Le.refl _ _) (fun v94 hv94 => ?_)
    have hve := hv94
    obtain ⟨rfl, ⟨hl11, hl12⟩, hl13⟩ := er_val hv94
    dsimp only at hl11 hl12 hl13 hve ⊢
    refine Rg.newagg (A := RT.er) (M := M1) I49 rfl rfl rfl rfl rfl (by assumption) (Le.refl _ _) hM (fun u9_5 w9_5 hu9_5 s9_5 z9_5 => ?_)
    replace hv := hv.le s9_5.le
    replace ho := ho.step0 s9_5
    replace hM := s9_5.lt hM
    have := S.size
    replace S := S.trans0 s9_5
    refine Rg.nil ?_
    refine T.seq ?_
    refine T.seq ?_
    refine T.region ?_
    refine Rg.move rfl rfl ?_
    refine Rg.move rfl rfl ?_
    replace hq := hq.step0 s9_5
    refine Rg.idx (M := M1) Tryz.underlying65 I70 rfl rfl rfl hv (Le.refl _ _) (by omega) (fun u102 x hg_ hu102 => ?_)
    rw [Int.toNat_natCast] at hg_
    obtain rfl := Option.some.inj (hge.symm.trans hg_)
    refine Rg.fieldAddr (M := M1) (A := RT.de) (B := RT.int .i64) Tryz.underlying70 rfl rfl I3 (by decide) de0 rfl rfl (by decide) hu102 (Le.refl _ _) (fun u103 hu103 => ?_)
    refine Rg.loadi64 (M := M1) Tryz.underlying3 rfl rfl hu103 (Le.refl _ _) (fun hkk => ?_)
    refine Rg.eqv (v' := .int .i64 kk) rfl ?_
    refine Rg.nil ?_
    refine T.block ?_
    refine T.seq ?_
    refine T.region ?_
    refine Rg.ieq rfl rfl rfl ?_
    refine Rg.assign rfl rfl ?_
    refine Rg.nil ?_
    refine T.ifp rfl (fun c13 => ?_) (fun c13 => ?_)
    ·refine T.seq ?_
     refine T.region ?_
     refine Rg.assign rfl rfl ?_
     refine Rg.nil ?_
     refine T.seq ?_
     refine T.seq ?_
     refine T.region ?_
     refine Rg.fieldAddr (M := M1) (A := RT.er) (B := RT.int .i64) Tryz.underlying49 rfl rfl I3 (by decide) (er1) rfl rfl (by decide) (by assumption) (by repeat (first | exact Le.refl _ _ | refine Le.trans (Step.le (by assumption)) ?_)) (fun u15_0 hu15_0 => ?_)
     refine Rg.loadi64 (M := M1) Tryz.underlying3 rfl rfl hu15_0 (Le.refl _ _) (fun hez => ?_)
     refine Rg.eqv (v' := .int .i64 e.2) rfl ?_
     refine Rg.ilt rfl rfl rfl ?_
     refine Rg.move rfl rfl ?_
     refine Rg.gsplitp (g := 49) rfl (fun g15_3 => ?_) (fun g15_3 => ?_)
     ·have hlc : e.2 ≤ last := by omega
      refine Rg.gno rfl rfl rfl rfl ?_
      refine Rg.gno rfl rfl rfl rfl ?_
      refine Rg.gno rfl rfl rfl rfl ?_
      refine Rg.gno rfl rfl rfl rfl ?_
      refine Rg.pickt rfl rfl rfl ?_
      refine Rg.nil ?_
      refine T.ift rfl ?_
      refine T.region ?_
      refine Rg.assign rfl rfl ?_
      refine Rg.nil ?_
      refine T.seq ?_
      refine T.region ?_
      refine Rg.move rfl rfl ?_
      refine Rg.fieldAddr (M := M1) (A := RT.er) (B := RT.fd) Tryz.underlying49 rfl rfl I47 (by decide) (er0) rfl rfl (by decide) (by assumption) (by repeat (first | exact Le.refl _ _ | refine Le.trans (Step.le (by assumption)) ?_)) (fun u19_1 hu19_1 => ?_)
      refine Rg.loadagg (M := M1) (A := RT.fd) Tryz.underlying47 rfl I47 (by decide) rfl rfl rfl hu19_1 (Le.refl _ _) (fun vt hvt => ?_)
      obtain rfl := fd_val hvt
      refine Rg.fieldAddr (M := M1) (A := RT.er) (B := RT.int .i64) Tryz.underlying49 rfl rfl I3 (by decide) (er1) rfl rfl (by decide) (by assumption) (by repeat (first | exact Le.refl _ _ | refine Le.trans (Step.le (by assumption)) ?_)) (fun u19_3 hu19_3 => ?_)
      refine Rg.loadi64 (M := M1) Tryz.underlying3 rfl rfl hu19_3 (Le.refl _ _) (fun hez => ?_)
      refine Rg.eqv (v' := .int .i64 e.2) rfl ?_
      refine Rg.build (places := [(0, 2), (2, 1)]) Tryz.underlying51 I51 B51 rfl ⟨_, _, rfl, rfl, _, _, rfl, rfl, rfl⟩ (out := [_, _, _]) ⟨0, [_, _], rfl, rfl, by simp [Value.cells], 2, [_], rfl, rfl, by simp [Value.cells], rfl⟩ ?_
      refine Rg.call rfl rfl E33 (qput_spec (e := e) _ hM hq (by omega) (er_mk ⟨hl11, hl12⟩ hl13) S.size) (fun r6 w6 hc => ?_)
      obtain ⟨rfl, M6, hq, s6⟩ := hc
      first
      |(rw [if_pos hlc, if_pos hlc] at hq; rw [if_pos hlc])
      |(rw [if_neg hnl, if_neg hnl] at hq; rw [if_neg hnl])
      replace ho := ho.step s6 (fun b hb hn => by
       obtain ⟨_, _, cs, h | h⟩ := hn
       ·exact ho.neT h (by decide) hb
       ·exact ho.neT h (by decide) hb)
      replace hv := hv.le s6.le
      replace hu9_5 := hu9_5.le (by decide) s6.le
      replace S := S.transNew s6 (fun b hb => hb.2.1)
      replace hM := s6.lt hM
      refine Rg.move rfl rfl ?_
      refine Rg.ine rfl rfl rfl ?_
      refine Rg.nil ?_
      refine T.iffp rfl ((fun h => h rfl)) ?_
      refine T.skip ?_
      refine T.seq ?_
      refine T.region ?_
      refine Rg.move rfl rfl ?_
      refine Rg.call rfl rfl E40 (qlen_spec _ hM hq (by first | omega | (simp; omega))) (fun r1 w1' hc => ?_)
      obtain ⟨rfl, rfl⟩ := hc
      refine Rg.move rfl rfl ?_
      refine Rg.lenown Tryz.underlying68 rfl ho rfl ?_
      refine Rg.ine rfl rfl rfl ?_
      refine Rg.move rfl rfl ?_
      refine Rg.gfalse (g := 92) rfl ((fun h => h rfl)) ?_
      refine Rg.gyes rfl rfl ?_
      refine Rg.move rfl rfl ?_
      refine Rg.gyes rfl rfl ?_
      refine Rg.call rfl rfl E41 (qlist_spec _ hM hq (by first | omega | (simp; omega)) (by first | exact hpw | exact hpw.drop | exact snoc_pw hpw (fun x hx => by have := hle x hx; omega))) (fun r7 w7 hc => ?_)
      obtain ⟨hr7, s7⟩ := hc
      replace hq := hq.step0 s7
      replace hv := hv.le s7.le
      replace hu9_5 := hu9_5.le (by decide) s7.le
      replace ho := ho.step0 s7
      replace hM := s7.lt hM
      have := S.size
      replace S := S.trans0 s7
      refine Rg.gyes rfl rfl ?_
      refine Rg.call rfl rfl E38 (as15_spec _ hM hr7 (by first | omega | (simp; omega))) (fun r8 w8 hc => ?_)
      obtain ⟨hr8, s8⟩ := hc
      replace hq := hq.step0 s8
      replace hv := hv.le s8.le
      replace hu9_5 := hu9_5.le (by decide) s8.le
      replace hr7 := hr7.le s8.le
      replace ho := ho.step0 s8
      replace hM := s8.lt hM
      have := S.size
      replace S := S.trans0 s8
      refine Rg.gyes rfl rfl ?_
      refine Rg.move rfl rfl ?_
      refine Rg.gyes rfl rfl ?_
      refine Rg.call rfl rfl E37 (same15O _ hM hr8 ho (by first | omega | (simp; omega))) (fun r10 w10 hc => ?_)
      obtain ⟨rfl, s10⟩ := hc
      refine Rg.eqv (v' := .bool true) (by simp) ?_
      replace hq := hq.step0 s10
      replace hv := hv.le s10.le
      replace hu9_5 := hu9_5.le (by decide) s10.le
      replace hr7 := hr7.le s10.le
      replace hr8 := hr8.le s10.le
      replace ho := ho.step0 s10
      replace hM := s10.lt hM
      have := S.size
      replace S := S.trans0 s10
      refine Rg.gyes rfl rfl ?_
      refine Rg.not rfl rfl ?_
      refine Rg.eqv (v' := .bool false) rfl ?_
      refine Rg.pickf rfl rfl rfl ?_
      refine Rg.nil ?_
      refine T.iff rfl ?_
      refine T.skip ?_
      refine T.region ?_
      refine Rg.move rfl rfl ?_
      refine Rg.iadd rfl rfl rfl (by omega) ?_
      refine Rg.assign rfl rfl ?_
      refine Rg.nil ?_
      refine ⟨rfl, (i + 1, xs, last, u), (.cons rfl (.cons rfl (.cons rfl (.cons rfl (.cons rfl .nil))))), ?_, ?_⟩
      ·exact ⟨_, hM, S, ho, hq, hv, hpw, hle, hl1, by dsimp only; omega, by dsimp only; omega, by dsimp only; omega⟩
      ·dsimp only; omega
     ·refine Rg.gyes rfl rfl ?_
      refine Rg.fieldAddr (M := M1) (A := RT.er) (B := RT.int .i64) Tryz.underlying49 rfl rfl I3 (by decide) (er1) rfl rfl (by decide) (by assumption) (by repeat (first | exact Le.refl _ _ | refine Le.trans (Step.le (by assumption)) ?_)) (fun u15_4 hu15_4 => ?_)
      refine Rg.gyes rfl rfl ?_
      refine Rg.loadi64 (M := M1) Tryz.underlying3 rfl rfl hu15_4 (Le.refl _ _) (fun hez => ?_)
      refine Rg.eqv (v' := .int .i64 e.2) rfl ?_
      refine Rg.gyes rfl rfl ?_
      refine Rg.move rfl rfl ?_
      refine Rg.gyes rfl rfl ?_
      refine Rg.ile rfl rfl rfl ?_
      refine Rg.pickf rfl rfl rfl ?_
      refine Rg.nil ?_
      refine T.ifp rfl (fun c15 => ?_) (fun c15 => ?_)
      ·have hlc : e.2 ≤ last := c15
       refine T.region ?_
       refine Rg.assign rfl rfl ?_
       refine Rg.nil ?_
       refine T.seq ?_
       refine T.region ?_
       refine Rg.move rfl rfl ?_
       refine Rg.fieldAddr (M := M1) (A := RT.er) (B := RT.fd) Tryz.underlying49 rfl rfl I47 (by decide) (er0) rfl rfl (by decide) (by assumption) (by repeat (first | exact Le.refl _ _ | refine Le.trans (Step.le (by assumption)) ?_)) (fun u19_1 hu19_1 => ?_)
       refine Rg.loadagg (M := M1) (A := RT.fd) Tryz.underlying47 rfl I47 (by decide) rfl rfl rfl hu19_1 (Le.refl _ _) (fun vt hvt => ?_)
       obtain rfl := fd_val hvt
       refine Rg.fieldAddr (M := M1) (A := RT.er) (B := RT.int .i64) Tryz.underlying49 rfl rfl I3 (by decide) (er1) rfl rfl (by decide) (by assumption) (by repeat (first | exact Le.refl _ _ | refine Le.trans (Step.le (by assumption)) ?_)) (fun u19_3 hu19_3 => ?_)
       refine Rg.loadi64 (M := M1) Tryz.underlying3 rfl rfl hu19_3 (Le.refl _ _) (fun hez => ?_)
       refine Rg.eqv (v' := .int .i64 e.2) rfl ?_
       refine Rg.build (places := [(0, 2), (2, 1)]) Tryz.underlying51 I51 B51 rfl ⟨_, _, rfl, rfl, _, _, rfl, rfl, rfl⟩ (out := [_, _, _]) ⟨0, [_, _], rfl, rfl, by simp [Value.cells], 2, [_], rfl, rfl, by simp [Value.cells], rfl⟩ ?_
       refine Rg.call rfl rfl E33 (qput_spec (e := e) _ hM hq (by omega) (er_mk ⟨hl11, hl12⟩ hl13) S.size) (fun r6 w6 hc => ?_)
       obtain ⟨rfl, M6, hq, s6⟩ := hc
       first
       |(rw [if_pos hlc, if_pos hlc] at hq; rw [if_pos hlc])
       |(rw [if_neg hnl, if_neg hnl] at hq; rw [if_neg hnl])
       replace ho := ho.step s6 (fun b hb hn => by
        obtain ⟨_, _, cs, h | h⟩ := hn
        ·exact ho.neT h (by decide) hb
        ·exact ho.neT h (by decide) hb)
       replace hv := hv.le s6.le
       replace hu9_5 := hu9_5.le (by decide) s6.le
       replace S := S.transNew s6 (fun b hb => hb.2.1)
       replace hM := s6.lt hM
       refine Rg.move rfl rfl ?_
       refine Rg.ine rfl rfl rfl ?_
       refine Rg.nil ?_
       refine T.iffp rfl ((fun h => h rfl)) ?_
       refine T.skip ?_
       refine T.seq ?_
       refine T.region ?_
       refine Rg.move rfl rfl ?_
       refine Rg.call rfl rfl E40 (qlen_spec _ hM hq (by first | omega | (simp; omega))) (fun r1 w1' hc => ?_)
       obtain ⟨rfl, rfl⟩ := hc
       refine Rg.move rfl rfl ?_
       refine Rg.lenown Tryz.underlying68 rfl ho rfl ?_
       refine Rg.ine rfl rfl rfl ?_
       refine Rg.move rfl rfl ?_
       refine Rg.gfalse (g := 92) rfl ((fun h => h rfl)) ?_
       refine Rg.gyes rfl rfl ?_
       refine Rg.move rfl rfl ?_
       refine Rg.gyes rfl rfl ?_
       refine Rg.call rfl rfl E41 (qlist_spec _ hM hq (by first | omega | (simp; omega)) (by first | exact hpw | exact hpw.drop | exact snoc_pw hpw (fun x hx => by have := hle x hx; omega))) (fun r7 w7 hc => ?_)
       obtain ⟨hr7, s7⟩ := hc
       replace hq := hq.step0 s7
       replace hv := hv.le s7.le
       replace hu9_5 := hu9_5.le (by decide) s7.le
       replace ho := ho.step0 s7
       replace hM := s7.lt hM
       have := S.size
       replace S := S.trans0 s7
       refine Rg.gyes rfl rfl ?_
       refine Rg.call rfl rfl E38 (as15_spec _ hM hr7 (by first | omega | (simp; omega))) (fun r8 w8 hc => ?_)
       obtain ⟨hr8, s8⟩ := hc
       replace hq := hq.step0 s8
       replace hv := hv.le s8.le
       replace hu9_5 := hu9_5.le (by decide) s8.le
       replace hr7 := hr7.le s8.le
       replace ho := ho.step0 s8
       replace hM := s8.lt hM
       have := S.size
       replace S := S.trans0 s8
       refine Rg.gyes rfl rfl ?_
       refine Rg.move rfl rfl ?_
       refine Rg.gyes rfl rfl ?_
       refine Rg.call rfl rfl E37 (same15O _ hM hr8 ho (by first | omega | (simp; omega))) (fun r10 w10 hc => ?_)
       obtain ⟨rfl, s10⟩ := hc
       refine Rg.eqv (v' := .bool true) (by simp) ?_
       replace hq := hq.step0 s10
       replace hv := hv.le s10.le
       replace hu9_5 := hu9_5.le (by decide) s10.le
       replace hr7 := hr7.le s10.le
       replace hr8 := hr8.le s10.le
       replace ho := ho.step0 s10
       replace hM := s10.lt hM
       have := S.size
       replace S := S.trans0 s10
       refine Rg.gyes rfl rfl ?_
       refine Rg.not rfl rfl ?_
       refine Rg.eqv (v' := .bool false) rfl ?_
       refine Rg.pickf rfl rfl rfl ?_
       refine Rg.nil ?_
       refine T.iff rfl ?_
       refine T.skip ?_
       refine T.region ?_
       refine Rg.move rfl rfl ?_
       refine Rg.iadd rfl rfl rfl (by omega) ?_
       refine Rg.assign rfl rfl ?_
       refine Rg.nil ?_
       refine ⟨rfl, (i + 1, xs, last, u), (.cons rfl (.cons rfl (.cons rfl (.cons rfl (.cons rfl .nil))))), ?_, ?_⟩
       ·exact ⟨_, hM, S, ho, hq, hv, hpw, hle, hl1, by dsimp only; omega, by dsimp only; omega, by dsimp only; omega⟩
       ·dsimp only; omega
      ·have hnl : ¬ e.2 ≤ last := c15
       refine T.seq ?_
       refine T.region ?_
       refine Rg.move rfl rfl ?_
       have ho0 := ho
       refine Rg.loadagg (M := M1) (A := RT.er) Tryz.underlying49 rfl I49 (by decide) rfl rfl rfl hu9_5 (Le.refl _ _) (fun v171 hve => ?_)
       refine Rg.sl1 (A := RT.er) (hn := by decide) (M := M1) Tryz.underlying68 I49 (by decide) rfl rfl hM (hve) (.inl rfl) (fun u17_2 w17_2 hu17_2 s17_2 => ?_)
       replace hv := hv.le s17_2.le
       replace hu9_5 := hu9_5.le (by decide) s17_2.le
       replace ho := ho.step0 s17_2
       replace hM := s17_2.lt hM
       have := S.size
       replace S := S.trans0 s17_2
       refine Rg.append (M := M1) (base := w0.heap.size) Tryz.underlying68 I49 rfl rfl rfl rfl ho hu17_2 (Le.refl _ _) (by simp; omega) (by simp; omega) (S.size) (fun u17_3 M17_3 w17_3 ho17_3 s17_3 => ?_)
       replace hv := hv.le s17_3.le
       replace hu9_5 := hu9_5.le (by decide) s17_3.le
       replace hu17_2 := hu17_2.le s17_3.le
       replace hM := s17_3.lt hM
       have := S.size
       replace S := S.transBlk s17_3 ho (Nat.le_refl _)
       replace ho := ho17_3
       refine Rg.assign rfl rfl ?_
       refine Rg.nil ?_
       refine T.region ?_
       replace ho0 := ho0.step0 s17_2
       replace hq := (hq.step0 s17_2).step s17_3 (fun b hb cs => ⟨fun h => ho0.neT h (by decide) hb, fun h => ho0.neT h (by decide) hb⟩)
       refine Rg.fieldAddr (M := M17_3) (A := RT.er) (B := RT.int .i64) Tryz.underlying49 rfl rfl I3 (by decide) er1 rfl rfl (by decide) hu9_5 (Le.refl _ _) (fun u180 hu180 => ?_)
       refine Rg.loadi64 (M := M17_3) Tryz.underlying3 rfl rfl hu180 (Le.refl _ _) (fun hez => ?_)
       refine Rg.eqv (v' := .int .i64 e.2) rfl ?_
       refine Rg.assign rfl rfl ?_
       refine Rg.nil ?_
       refine T.seq ?_
       refine T.region ?_
       refine Rg.move rfl rfl ?_
       refine Rg.fieldAddr (M := M17_3) (A := RT.er) (B := RT.fd) Tryz.underlying49 rfl rfl I47 (by decide) (er0) rfl rfl (by decide) (by assumption) (by repeat (first | exact Le.refl _ _ | refine Le.trans (Step.le (by assumption)) ?_)) (fun u19_1 hu19_1 => ?_)
       refine Rg.loadagg (M := M17_3) (A := RT.fd) Tryz.underlying47 rfl I47 (by decide) rfl rfl rfl hu19_1 (Le.refl _ _) (fun vt hvt => ?_)
       obtain rfl := fd_val hvt
       refine Rg.fieldAddr (M := M17_3) (A := RT.er) (B := RT.int .i64) Tryz.underlying49 rfl rfl I3 (by decide) (er1) rfl rfl (by decide) (by assumption) (by repeat (first | exact Le.refl _ _ | refine Le.trans (Step.le (by assumption)) ?_)) (fun u19_3 hu19_3 => ?_)
       refine Rg.loadi64 (M := M17_3) Tryz.underlying3 rfl rfl hu19_3 (Le.refl _ _) (fun hez => ?_)
       refine Rg.eqv (v' := .int .i64 e.2) rfl ?_
       refine Rg.build (places := [(0, 2), (2, 1)]) Tryz.underlying51 I51 B51 rfl ⟨_, _, rfl, rfl, _, _, rfl, rfl, rfl⟩ (out := [_, _, _]) ⟨0, [_, _], rfl, rfl, by simp [Value.cells], 2, [_], rfl, rfl, by simp [Value.cells], rfl⟩ ?_
       refine Rg.call rfl rfl E33 (qput_spec (e := e) _ hM hq (by omega) (er_mk ⟨hl11, hl12⟩ hl13) S.size) (fun r6 w6 hc => ?_)
       obtain ⟨rfl, M6, hq, s6⟩ := hc
       first
       |(rw [if_pos hlc, if_pos hlc] at hq; rw [if_pos hlc])
       |(rw [if_neg hnl, if_neg hnl] at hq; rw [if_neg hnl])
       replace ho := ho.step s6 (fun b hb hn => by
        obtain ⟨_, _, cs, h | h⟩ := hn
        ·exact ho.neT h (by decide) hb
        ·exact ho.neT h (by decide) hb)
       replace hv := hv.le s6.le
       replace hu9_5 := hu9_5.le (by decide) s6.le
       replace S := S.transNew s6 (fun b hb => hb.2.1)
       replace hM := s6.lt hM
       refine Rg.move rfl rfl ?_
       refine Rg.ine rfl rfl rfl ?_
       refine Rg.nil ?_
       refine T.iffp rfl ((fun h => h rfl)) ?_
       refine T.skip ?_
       refine T.seq ?_
       refine T.region ?_
       refine Rg.move rfl rfl ?_
       refine Rg.call rfl rfl E40 (qlen_spec _ hM hq (by first | omega | (simp; omega))) (fun r1 w1' hc => ?_)
       obtain ⟨rfl, rfl⟩ := hc
       refine Rg.move rfl rfl ?_
       refine Rg.lenown Tryz.underlying68 rfl ho rfl ?_
       refine Rg.ine rfl rfl rfl ?_
       refine Rg.move rfl rfl ?_
       refine Rg.gfalse (g := 92) rfl ((fun h => h rfl)) ?_
       refine Rg.gyes rfl rfl ?_
       refine Rg.move rfl rfl ?_
       refine Rg.gyes rfl rfl ?_
       refine Rg.call rfl rfl E41 (qlist_spec _ hM hq (by first | omega | (simp; omega)) (by first | exact hpw | exact hpw.drop | exact snoc_pw hpw (fun x hx => by have := hle x hx; omega))) (fun r7 w7 hc => ?_)
       obtain ⟨hr7, s7⟩ := hc
       replace hq := hq.step0 s7
       replace hv := hv.le s7.le
       replace hu9_5 := hu9_5.le (by decide) s7.le
       replace ho := ho.step0 s7
       replace hM := s7.lt hM
       have := S.size
       replace S := S.trans0 s7
       refine Rg.gyes rfl rfl ?_
       refine Rg.call rfl rfl E38 (as15_spec _ hM hr7 (by first | omega | (simp; omega))) (fun r8 w8 hc => ?_)
       obtain ⟨hr8, s8⟩ := hc
       replace hq := hq.step0 s8
       replace hv := hv.le s8.le
       replace hu9_5 := hu9_5.le (by decide) s8.le
       replace hr7 := hr7.le s8.le
       replace ho := ho.step0 s8
       replace hM := s8.lt hM
       have := S.size
       replace S := S.trans0 s8
       refine Rg.gyes rfl rfl ?_
       refine Rg.move rfl rfl ?_
       refine Rg.gyes rfl rfl ?_
       refine Rg.call rfl rfl E37 (same15O _ hM hr8 ho (by first | omega | (simp; omega))) (fun r10 w10 hc => ?_)
       obtain ⟨rfl, s10⟩ := hc
       refine Rg.eqv (v' := .bool true) (by simp) ?_
       replace hq := hq.step0 s10
       replace hv := hv.le s10.le
       replace hu9_5 := hu9_5.le (by decide) s10.le
       replace hr7 := hr7.le s10.le
       replace hr8 := hr8.le s10.le
       replace ho := ho.step0 s10
       replace hM := s10.lt hM
       have := S.size
       replace S := S.trans0 s10
       refine Rg.gyes rfl rfl ?_
       refine Rg.not rfl rfl ?_
       refine Rg.eqv (v' := .bool false) rfl ?_
       refine Rg.pickf rfl rfl rfl ?_
       refine Rg.nil ?_
       refine T.iff rfl ?_
       refine T.skip ?_
       refine T.region ?_
       refine Rg.move rfl rfl ?_
       refine Rg.iadd rfl rfl rfl (by omega) ?_
       refine Rg.assign rfl rfl ?_
       refine Rg.nil ?_
       refine ⟨rfl, (i + 1, xs ++ [e], e.2, u17_3), (.cons rfl (.cons rfl (.cons rfl (.cons rfl (.cons rfl .nil))))), ?_, ?_⟩
       ·exact ⟨_, hM, S, ho, hq, hv, snoc_pw hpw (fun x hx => by have := hle x hx; omega), fun x hx => by
         rcases List.mem_append.1 hx with hx | hx
         ·have := hle x hx; dsimp only; omega
         ·rw [List.mem_singleton.1 hx]; exact Int.le_refl _, by dsimp only; omega, by simp; omega, by dsimp only; omega, by dsimp only; omega⟩
       ·dsimp only; omega
    ·refine T.seq ?_
     refine T.region ?_
     refine Rg.ieq rfl rfl rfl ?_
     refine Rg.assign rfl rfl ?_
     refine Rg.nil ?_
     refine T.ifp rfl (fun c21 => ?_) (fun c21 => ?_)
     ·refine T.seq ?_
      refine T.region ?_
      refine Rg.move rfl rfl ?_
      refine Rg.fieldAddr (M := M1) (A := RT.er) (B := RT.int .i64) Tryz.underlying49 rfl rfl I3 (by decide) (er1) rfl rfl (by decide) (by assumption) (by repeat (first | exact Le.refl _ _ | refine Le.trans (Step.le (by assumption)) ?_)) (fun u22_1 hu22_1 => ?_)
      refine Rg.loadi64 (M := M1) Tryz.underlying3 rfl rfl (by assumption) (by repeat (first | exact Le.refl _ _ | refine Le.trans (Step.le (by assumption)) ?_)) (fun in22_2 => ?_)
      replace hu9_5 := hu9_5
      refine Rg.call rfl rfl E34 (upto15V _ hM ho (by omega)) (fun r22 w22 hc => ?_)
      obtain ⟨hr22, s22⟩ := hc
      replace hq := hq.step0 s22
      replace hv := hv.le s22.le
      replace hu9_5 := hu9_5.le (by decide) s22.le
      replace ho := ho.step0 s22
      replace hM := s22.lt hM
      have := S.size
      replace S := S.trans0 s22
      refine Rg.lensl Tryz.underlying68 rfl hr22 rfl ?_
      refine Rg.assign rfl rfl ?_
      refine Rg.nil ?_
      refine T.seq ?_
      refine T.region ?_
      refine Rg.move rfl rfl ?_
      refine Rg.fieldAddr (M := M1) (A := RT.er) (B := RT.int .i64) Tryz.underlying49 rfl rfl I3 (by decide) (er1) rfl rfl (by decide) (by assumption) (by repeat (first | exact Le.refl _ _ | refine Le.trans (Step.le (by assumption)) ?_)) (fun u23_1 hu23_1 => ?_)
      refine Rg.loadi64 (M := M1) Tryz.underlying3 rfl rfl (by assumption) (by repeat (first | exact Le.refl _ _ | refine Le.trans (Step.le (by assumption)) ?_)) (fun in23_2 => ?_)
      refine Rg.call rfl rfl E35 (rest15O _ hM ho (by omega)) (fun r23 w23 hc => ?_)
      obtain ⟨M23, ho23, s23⟩ := hc
      rw [(lowE_cut hpw).2] at ho23
      replace ho := ho23.rebase S.size
      replace hq := hq.step0 s23
      replace hv := hv.le s23.le
      replace hu9_5 := hu9_5.le (by decide) s23.le
      replace hM := s23.lt hM
      replace S := S.trans0 s23
      refine Rg.assign rfl rfl ?_
      refine Rg.nil ?_
      refine T.seq ?_
      refine T.region ?_
      refine Rg.move rfl rfl ?_
      refine Rg.fieldAddr (M := M23) (A := RT.er) (B := RT.int .i64) Tryz.underlying49 rfl rfl I3 (by decide) (er1) rfl rfl (by decide) (by assumption) (by repeat (first | exact Le.refl _ _ | refine Le.trans (Step.le (by assumption)) ?_)) (fun u24_1 hu24_1 => ?_)
      refine Rg.loadi64 (M := M23) Tryz.underlying3 rfl rfl (by assumption) (by repeat (first | exact Le.refl _ _ | refine Le.trans (Step.le (by assumption)) ?_)) (fun in24_2 => ?_)
      refine Rg.call rfl rfl E36 (qforget_spec _ hM hq (by omega) hpw) (fun r24 w24 hc => ?_)
      obtain ⟨rfl, hq, s24⟩ := hc
      replace ho := ho.step s24 (fun b hb hn => by
       obtain ⟨_, _, cs, h | h⟩ := hn
       ·exact ho.neT h (by decide) hb
       ·exact ho.neT h (by decide) hb)
      replace hv := hv.le s24.le
      replace hu9_5 := hu9_5.le (by decide) s24.le
      replace S := S.transNew s24 (fun b hb => hb.2.1)
      replace hM := s24.lt hM
      refine Rg.move rfl rfl ?_
      refine Rg.ine rfl rfl rfl ?_
      refine Rg.nil ?_
      refine T.iffp rfl ((by
       have h1 := (lowE_cut (t := e.2) hpw).1
       have h2 := lowE_le xs e.2
       rw [h1, List.length_take]; omega)) ?_
      refine T.skip ?_
      refine T.seq ?_
      refine T.region ?_
      refine Rg.move rfl rfl ?_
      refine Rg.call rfl rfl E40 (qlen_spec _ hM hq (by first | omega | (simp; omega))) (fun r1 w1' hc => ?_)
      obtain ⟨rfl, rfl⟩ := hc
      refine Rg.move rfl rfl ?_
      refine Rg.lenown Tryz.underlying68 rfl ho rfl ?_
      refine Rg.ine rfl rfl rfl ?_
      refine Rg.move rfl rfl ?_
      refine Rg.gfalse (g := 92) rfl ((fun h => h rfl)) ?_
      refine Rg.gyes rfl rfl ?_
      refine Rg.move rfl rfl ?_
      refine Rg.gyes rfl rfl ?_
      refine Rg.call rfl rfl E41 (qlist_spec _ hM hq (by first | omega | (simp; omega)) (by first | exact hpw | exact hpw.drop | exact snoc_pw hpw (fun x hx => by have := hle x hx; omega))) (fun r7 w7 hc => ?_)
      obtain ⟨hr7, s7⟩ := hc
      replace hq := hq.step0 s7
      replace hv := hv.le s7.le
      replace hu9_5 := hu9_5.le (by decide) s7.le
      replace ho := ho.step0 s7
      replace hM := s7.lt hM
      have := S.size
      replace S := S.trans0 s7
      refine Rg.gyes rfl rfl ?_
      refine Rg.call rfl rfl E38 (as15_spec _ hM hr7 (by first | omega | (simp; omega))) (fun r8 w8 hc => ?_)
      obtain ⟨hr8, s8⟩ := hc
      replace hq := hq.step0 s8
      replace hv := hv.le s8.le
      replace hu9_5 := hu9_5.le (by decide) s8.le
      replace hr7 := hr7.le s8.le
      replace ho := ho.step0 s8
      replace hM := s8.lt hM
      have := S.size
      replace S := S.trans0 s8
      refine Rg.gyes rfl rfl ?_
      refine Rg.move rfl rfl ?_
      refine Rg.gyes rfl rfl ?_
      refine Rg.call rfl rfl E37 (same15O _ hM hr8 ho (by first | omega | (simp; omega))) (fun r10 w10 hc => ?_)
      obtain ⟨rfl, s10⟩ := hc
      refine Rg.eqv (v' := .bool true) (by simp) ?_
      replace hq := hq.step0 s10
      replace hv := hv.le s10.le
      replace hu9_5 := hu9_5.le (by decide) s10.le
      replace hr7 := hr7.le s10.le
      replace hr8 := hr8.le s10.le
      replace ho := ho.step0 s10
      replace hM := s10.lt hM
      have := S.size
      replace S := S.trans0 s10
      refine Rg.gyes rfl rfl ?_
      refine Rg.not rfl rfl ?_
      refine Rg.eqv (v' := .bool false) rfl ?_
      refine Rg.pickf rfl rfl rfl ?_
      refine Rg.nil ?_
      refine T.iff rfl ?_
      refine T.skip ?_
      refine T.region ?_
      refine Rg.move rfl rfl ?_
      refine Rg.iadd rfl rfl rfl (by omega) ?_
      refine Rg.assign rfl rfl ?_
      refine Rg.nil ?_
      refine ⟨rfl, (i + 1, xs.drop (lowE xs e.2), last, r23), (.cons rfl (.cons rfl (.cons rfl (.cons rfl (.cons rfl .nil))))), ?_, ?_⟩
      ·exact ⟨_, hM, S, ho, hq, hv, hpw.drop, fun x hx => hle x (List.drop_subset _ _ hx), hl1, by simp; omega, by dsimp only; omega, by dsimp only; omega⟩
      ·dsimp only; omega
     ·refine T.seq ?_
      apply T.drawP [0, 1, 2, 5, 6, 7, 3, 4, 8, 9, 10] 6 [3, 4, 5] 2 none' mixed
      ·simp +decide only [ren, renO, List.map_cons, List.map_nil, List.getD_cons_zero, List.getD_cons_succ, List.map_toArray, Option.map_some, Option.map_none, List.idxOf_cons, cond_true, cond_false, Nat.reduceBEq, Nat.reduceAdd, beq_self_eq_true]; rfl
      ·rfl
      ·rfl
      ·rfl
      ·rfl
      ·rfl
      ·rfl
      intro wD11 sA11
      have sD11 := sA11 M1
      replace hv := hv.le sD11.le
      replace hu9_5 := hu9_5.le (by decide) sD11.le
      replace ho := ho.step0 sD11
      replace hM := sD11.lt hM
      have := S.size
      replace S := S.trans0 sD11
      refine Rg.move rfl rfl ?_
      refine Rg.nil ⟨rfl, rfl, rfl, ?_⟩
      refine Rg.fieldAddr (M := M1) (A := RT.er) (B := RT.int .i64) Tryz.underlying49 rfl rfl I3 (by decide) (er1) rfl rfl (by decide) (by assumption) (by repeat (first | exact Le.refl _ _ | refine Le.trans (Step.le (by assumption)) ?_)) (fun u11_1 hu11_1 => ?_)
      refine Rg.nil ⟨rfl, rfl, rfl, ?_⟩
      refine Rg.loadi64 (M := M1) Tryz.underlying3 rfl rfl (by assumption) (by repeat (first | exact Le.refl _ _ | refine Le.trans (Step.le (by assumption)) ?_)) (fun in11_2 => ?_)
      refine Rg.nil ⟨rfl, rfl, rfl, ?_⟩
      refine Rg.move rfl rfl ?_
      refine Rg.nil ⟨rfl, rfl, rfl, ?_⟩
      refine Rg.fieldAddr (M := M1) (A := RT.er) (B := RT.int .i64) Tryz.underlying49 rfl rfl I3 (by decide) (er1) rfl rfl (by decide) (by assumption) (by repeat (first | exact Le.refl _ _ | refine Le.trans (Step.le (by assumption)) ?_)) (fun u11_4 hu11_4 => ?_)
      refine Rg.nil ⟨rfl, rfl, rfl, ?_⟩
      refine Rg.loadi64 (M := M1) Tryz.underlying3 rfl rfl (by assumption) (by repeat (first | exact Le.refl _ _ | refine Le.trans (Step.le (by assumption)) ?_)) (fun in11_5 => ?_)
      refine Rg.nil ⟨rfl, rfl, rfl, ?_⟩
      refine QRg.nil ?_
      obtain ⟨bb, oo, cs, ee, fr, rfl, hcell, _⟩ := hu11_4.float
      refine ⟨Floats.all ⟨FloatOk.move, ⟨FloatOk.field Tryz.underlying49 rfl I3 (by decide), ⟨FloatOk.load rfl hcell (fun h => h), trivial⟩⟩⟩, ?_⟩
      have kp := Keep.refl none' wD11
      replace hq := hq.step0 sD11
      refine Rg.call rfl rfl E39 (qupto_spec _ hM hq (by omega) hpw) (fun r6 w6 hc => ?_)
      obtain ⟨hx6, s6⟩ := hc
      replace hq := hq.step0 s6
      replace hv := hv.le s6.le
      replace hu9_5 := hu9_5.le (by decide) s6.le
      replace ho := ho.step0 s6
      replace hM := s6.lt hM
      have := S.size
      replace S := S.trans0 s6
      refine (fun (kp : Keep _ _ _) => Rg.nil ⟨rfl, rfl, fun _ => kp, ?_⟩) (by first | exact kp | exact kp.go0 (by assumption) | exact kp.goN (by assumption) | exact kp.go (by assumption) (fun _ _ h => by first | exact h | exact h.elim))
      refine Rg.call rfl rfl E38 (as15_spec _ hM hx6 (by rw [List.length_take]; omega)) (fun r7 w7 hc => ?_)
      obtain ⟨hx7, s7⟩ := hc
      replace hq := hq.step0 s7
      replace hv := hv.le s7.le
      replace hu9_5 := hu9_5.le (by decide) s7.le
      replace hx6 := hx6.le s7.le
      replace ho := ho.step0 s7
      replace hM := s7.lt hM
      have := S.size
      replace S := S.trans0 s7
      refine (fun (kp : Keep _ _ _) => Rg.nil ⟨rfl, rfl, fun _ => kp, ?_⟩) (by first | exact kp | exact kp.go0 (by assumption) | exact kp.goN (by assumption) | exact kp.go (by assumption) (fun _ _ h => by first | exact h | exact h.elim))
      refine Rg.call rfl rfl E34 (upto15V _ hM ho (by omega)) (fun r8 w8 hc => ?_)
      obtain ⟨hx8, s8⟩ := hc
      replace hq := hq.step0 s8
      replace hv := hv.le s8.le
      replace hu9_5 := hu9_5.le (by decide) s8.le
      replace hx6 := hx6.le s8.le
      replace hx7 := hx7.le s8.le
      replace ho := ho.step0 s8
      replace hM := s8.lt hM
      have := S.size
      replace S := S.trans0 s8
      refine Rg.nil ⟨rfl, rfl, fun h => absurd rfl h, ?_⟩
      refine Rg.call rfl rfl E37 (same15_spec hM hx7 hx8) (fun r9 w9 hc => ?_)
      obtain ⟨rfl, s9⟩ := hc
      refine Rg.eqv (v' := .bool true) (by rw [(lowE_cut hpw).1]; simp) ?_
      replace hq := hq.step0 s9
      replace hv := hv.le s9.le
      replace hu9_5 := hu9_5.le (by decide) s9.le
      replace hx6 := hx6.le s9.le
      replace hx7 := hx7.le s9.le
      replace hx8 := hx8.le s9.le
      replace ho := ho.step0 s9
      replace hM := s9.lt hM
      have := S.size
      replace S := S.trans0 s9
      refine Rg.nil ⟨rfl, rfl, fun h => absurd rfl h, ?_⟩
      refine Rg.not rfl rfl ?_
      refine Rg.eqv (v' := .bool false) rfl ?_
      refine Rg.nil ⟨rfl, rfl, fun h => absurd rfl h, ?_⟩
      refine TRg.nil ?_
      refine T.iff rfl ?_
      refine T.skip ?_
      refine T.seq ?_
      refine T.region ?_
      refine Rg.move rfl rfl ?_
      refine Rg.call rfl rfl E40 (qlen_spec _ hM hq (by first | omega | (simp; omega))) (fun r1 w1' hc => ?_)
      obtain ⟨rfl, rfl⟩ := hc
      refine Rg.move rfl rfl ?_
      refine Rg.lenown Tryz.underlying68 rfl ho rfl ?_
      refine Rg.ine rfl rfl rfl ?_
      refine Rg.move rfl rfl ?_
      refine Rg.gfalse (g := 92) rfl ((fun h => h rfl)) ?_
      refine Rg.gyes rfl rfl ?_
      refine Rg.move rfl rfl ?_
      refine Rg.gyes rfl rfl ?_
      refine Rg.call rfl rfl E41 (qlist_spec _ hM hq (by first | omega | (simp; omega)) (by first | exact hpw | exact hpw.drop | exact snoc_pw hpw (fun x hx => by have := hle x hx; omega))) (fun r7 w7 hc => ?_)
      obtain ⟨hr7, s7⟩ := hc
      replace hq := hq.step0 s7
      replace hv := hv.le s7.le
      replace hu9_5 := hu9_5.le (by decide) s7.le
      replace ho := ho.step0 s7
      replace hM := s7.lt hM
      have := S.size
      replace S := S.trans0 s7
      refine Rg.gyes rfl rfl ?_
      refine Rg.call rfl rfl E38 (as15_spec _ hM hr7 (by first | omega | (simp; omega))) (fun r8 w8 hc => ?_)
      obtain ⟨hr8, s8⟩ := hc
      replace hq := hq.step0 s8
      replace hv := hv.le s8.le
      replace hu9_5 := hu9_5.le (by decide) s8.le
      replace hr7 := hr7.le s8.le
      replace ho := ho.step0 s8
      replace hM := s8.lt hM
      have := S.size
      replace S := S.trans0 s8
      refine Rg.gyes rfl rfl ?_
      refine Rg.move rfl rfl ?_
      refine Rg.gyes rfl rfl ?_
      refine Rg.call rfl rfl E37 (same15O _ hM hr8 ho (by first | omega | (simp; omega))) (fun r10 w10 hc => ?_)
      obtain ⟨rfl, s10⟩ := hc
      refine Rg.eqv (v' := .bool true) (by simp) ?_
      replace hq := hq.step0 s10
      replace hv := hv.le s10.le
      replace hu9_5 := hu9_5.le (by decide) s10.le
      replace hr7 := hr7.le s10.le
      replace hr8 := hr8.le s10.le
      replace ho := ho.step0 s10
      replace hM := s10.lt hM
      have := S.size
      replace S := S.trans0 s10
      refine Rg.gyes rfl rfl ?_
      refine Rg.not rfl rfl ?_
      refine Rg.eqv (v' := .bool false) rfl ?_
      refine Rg.pickf rfl rfl rfl ?_
      refine Rg.nil ?_
      refine T.iff rfl ?_
      refine T.skip ?_
      refine T.region ?_
      refine Rg.move rfl rfl ?_
      refine Rg.iadd rfl rfl rfl (by omega) ?_
      refine Rg.assign rfl rfl ?_
      refine Rg.nil ?_
      refine ⟨rfl, (i + 1, xs, last, u), (.cons rfl (.cons rfl (.cons rfl (.cons rfl (.cons rfl .nil))))), ?_, ?_⟩
      ·exact ⟨_, hM, S, ho, hq, hv, hpw, hle, hl1, by dsimp only; omega, by dsimp only; omega, by dsimp only; omega⟩
      ·dsimp only; omega
   ·refine T.exit ?_
    refine T.seq ?_
    refine T.region ?_
    refine Rg.call rfl rfl E26 (lives15_spec _ hM) (fun r12 w12 hc => ?_)
    obtain ⟨rfl, s12⟩ := hc
    replace hv := hv.le s12.le
    replace ho := ho.step0 s12
    replace hM := s12.lt hM
    have := S.size
    replace S := S.trans0 s12
    refine Rg.assign rfl rfl ?_
    refine Rg.nil ?_
    refine T.ret ?_
    exact Kret1 rfl rfl ⟨rfl, S.back⟩
  ·refine Rg.gno rfl rfl rfl rfl ?_
   refine Rg.gno rfl rfl rfl rfl ?_
   refine Rg.pickf rfl rfl rfl ?_
   refine Rg.nil ?_
   refine T.iff rfl ?_
   refine T.exit ?_
   refine T.seq ?_
   refine T.region ?_
   refine Rg.call rfl rfl E26 (lives15_spec _ hM) (fun r12 w12 hc => ?_)
   obtain ⟨rfl, s12⟩ := hc
   replace hv := hv.le s12.le
   replace ho := ho.step0 s12
   replace hM := s12.lt hM
   have := S.size
   replace S := S.trans0 s12
   refine Rg.assign rfl rfl ?_
   refine Rg.nil ?_
   refine T.ret ?_
   exact Kret1 rfl rfl ⟨rfl, S.back⟩
end Go.K

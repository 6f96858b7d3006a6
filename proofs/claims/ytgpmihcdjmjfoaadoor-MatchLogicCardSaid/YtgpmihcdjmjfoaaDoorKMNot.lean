/- The walks of Go functions, operation by operation. -/
import Derived.Test.YtgpmihcdjmjfoaaDoorKTypes
import Derived.Test.YtgpmihcdjmjfoaaDoorKNum
import Derived.Test.YtgpmihcdjmjfoaaDoorKBits
import Derived.Test.YtgpmihcdjmjfoaaDoorKStr2
import Derived.Test.YtgpmihcdjmjfoaaDoorKMatch
import Derived.Test.YtgpmihcdjmjfoaaDoorKDraw
import Derived.Test.YtgpmihcdjmjfoaaDoorKRange
import Derived.Test.YtgpmihcdjmjfoaaDoorKSet
import Derived.Test.YtgpmihcdjmjfoaaDoorKSet2
import Derived.Test.YtgpmihcdjmjfoaaDoorKSet3
import Derived.Test.YtgpmihcdjmjfoaaDoorKOf
import Derived.Test.YtgpmihcdjmjfoaaDoorProg
import Derived.KernelRfl
namespace Go.K
open Go.Proofs
namespace TKMNot
theorem I22 : TI Tryd.prog 22 (.slice none 0 0) 1 24 := by unfold TI; kernel_rfl -- []api.Found
theorem I26 : TI Tryd.prog 26 (.agg #[(.int .i64 0), (.int .i64 0)]) 2 16 := by unfold TI; kernel_rfl -- api.Found
theorem B26 : placesOf Tryd.prog 26 = [(0, 1), (1, 1)].map some := by kernel_rfl
theorem E14 : Enters Tryd.prog 14 := enters Tryd.func14 rfl (by decide) -- concordance/match.of
theorem E15 : Enters Tryd.prog 15 := enters Tryd.func15 rfl (by decide) -- concordance/bits.Full
theorem E16 : Enters Tryd.prog 16 := enters Tryd.func16 rfl (by decide) -- (*concordance/bits.Set).Cut
theorem E17 : Enters Tryd.prog 17 := enters Tryd.func17 rfl (by decide) -- (*concordance/bits.Set).All
theorem E24 : Enters Tryd.prog 24 := enters Tryd.func24 rfl (by decide) -- (*concordance/bits.Set).All$1
end TKMNot
open TKMNot
set_option linter.unusedVariables false
set_option linter.unusedSimpArgs false
set_option maxRecDepth 10000


structure NtSt (M : PSet) (w0 : World) (n : Nat) (ws : List Nat) (bs bw bl bo D : Nat) (st : Obj) (vo : Value) (xs : List Fo) (M1 : PSet) (w : World) : Prop where
  lt : Lt M1 w
  S : Step M w0 M1 w none'
  mo : M1 bo
  md : M1 D
  mr : M1 (D + 1)
  m0 : ¬ M1 0
  set : SetAt 59 60 n ws M1 w bs bw
  hl : w.heap[bl]? = some (.cells #[.pointer (some ⟨bs, 0, none⟩)] 33 (0, 0))
  o : w.heap[bo]? = some (.cells #[vo] 22 (0, 0))
  d : w.heap[D]? = some (.deferred (some []))
  r : w.heap[D + 1]? = some st
  tab : ∃ e fr, w.heap[0]? = some (.cells (deb.map fun (k : Nat) => Value.int .u8 (k : Int)).toArray e fr)
  ne : (bo < D ∧ bl < D ∧ bs < D ∧ bw < D) ∧ (bo ≠ bl ∧ bo ≠ bs ∧ bo ≠ bw) ∧ (w0.heap.size ≤ bo ∧ w0.heap.size ≤ D)
  hk : Own RT.fo 26 M1 w (D + 2) vo xs
section
variable {M M1 M2 N : PSet} {w0 w w' : World} {n : Nat} {ws : List Nat} {bs bw bl bo D : Nat} {st st' : Obj} {vo : Value} {xs : List Fo}
theorem NtSt.step (h : NtSt M w0 n ws bs bw bl bo D st vo xs M1 w) (s : Step M1 w M2 w' none') : NtSt M w0 n ws bs bw bl bo D st vo xs M2 w' := by
  have mm := fun {b : Nat} (hm : M1 b) => (s.mem b (h.lt b hm)).2 hm
  obtain ⟨e, fr, ht⟩ := h.tab
  exact ⟨s.lt h.lt, h.S.trans0 s, mm h.mo, mm h.md, mm h.mr, fun h0 => h.m0 ((s.mem 0 (lt_of_get ht)).1 h0), h.set.step s (fun h => h) (fun h => h), s.same0 h.hl, s.same0 h.o, s.same0 h.d, s.same0 h.r, ⟨e, fr, s.same0 ht⟩, h.ne, h.hk.step0 s⟩
theorem NtSt.setR (h : NtSt M w0 n ws bs bw bl bo D st vo xs M1 w) : NtSt M w0 n ws bs bw bl bo D st' vo xs M1 (w.putObj (D + 1) st') := by
  obtain ⟨⟨e1, e2, e3, e4⟩, ⟨e5, e6, e7⟩, e8, e9⟩ := h.ne
  have s : Step M1 w M1 (w.putObj (D + 1) st') (fun k => k = D + 1) := step_putObj h.mr
  obtain ⟨e, fr, ht⟩ := h.tab
  exact ⟨s.lt h.lt, h.S.transNew s (fun b hb => by omega), h.mo, h.md, h.mr, h.m0, h.set.step s (by omega) (by omega), s.keep h.hl (by omega), s.keep h.o (by omega), s.keep h.d (by omega), World.putObj_heap_same (lt_of_get h.r), ⟨e, fr, s.keep ht (by omega)⟩, h.ne, h.hk.step s (fun k hk' hh => by have := (h.hk.base k hk').1; omega)⟩
theorem NtSt.grow {vo' : Value} {xs' : List Fo} (h : NtSt M w0 n ws bs bw bl bo D st vo xs M1 w) (s : Step M1 w M2 w' (fun k => vo.ownBlock = some k)) (hk : Own RT.fo 26 M2 w' (D + 2) vo' xs') :
    (w'.heap[bo]? = some (.cells #[vo] 22 (0, 0)) ∧ M2 bo) ∧ ∀ {w2 : World}, Step M2 w' M2 w2 (fun k => k = bo) → w2.heap[bo]? = some (.cells #[vo'] 22 (0, 0)) → NtSt M w0 n ws bs bw bl bo D st vo' xs' M2 w2 := by
  obtain ⟨⟨e1, e2, e3, e4⟩, ⟨e5, e6, e7⟩, e8, e9⟩ := h.ne
  have hn : ∀ k, vo.ownBlock = some k → D + 2 ≤ k := fun k hk => (h.hk.base k hk).1
  have mm := fun {b : Nat} (hm : M1 b) => (s.mem b (h.lt b hm)).2 hm
  obtain ⟨e, fr, ht⟩ := h.tab
  have h0 : bo ≠ 0 := fun e => h.m0 (e ▸ h.mo)
  refine ⟨⟨s.keep h.o (fun hh => by have := hn _ hh; omega), mm h.mo⟩, fun {w2} s2 hx => ?_⟩
  have S' := h.S.transNew s (fun k hk => by have := hn k hk; omega)
  exact ⟨s2.lt (s.lt h.lt), S'.transNew s2 (fun k hk => by subst hk; exact e8), mm h.mo, mm h.md, mm h.mr, fun h0 => h.m0 ((s.mem 0 (lt_of_get ht)).1 h0), (h.set.step s (fun hh => by have := hn _ hh; omega) (fun hh => by have := hn _ hh; omega)).step s2 (fun hh => e6 hh.symm) (fun hh => e7 hh.symm), s2.keep (s.keep h.hl (fun hh => by have := hn _ hh; omega)) (fun hh => e5 hh.symm), hx, s2.keep (s.keep h.d (fun hh => by have := hn _ hh; omega)) (by omega), s2.keep (s.keep h.r (fun hh => by have := hn _ hh; omega)) (by omega), ⟨e, fr, s2.keep (s.keep ht (fun hh => by have := hn _ hh; omega)) (fun hh => h0 hh.symm)⟩, h.ne,
    hk.step s2 (fun k hk' hh => by have := (hk.base k hk').1; omega)⟩
end

set_option maxHeartbeats 2000000 in
/-- 'concordance/match.Not' -/
theorem Not_spec {M : PSet} {w0 : World} {va : Value} {a : List Fo} {n : Nat} (hM : Lt M w0) (hva : ((RT.fo).sl).V M w0 a va) (hn : n ≤ 1099511627776) (hM0 : ¬ M 0) (tab : ∃ e fr, w0.heap[0]? = some (.cells (deb.map fun (k : Nat) => Value.int .u8 (k : Int)).toArray e fr)) :
    Spec Tryd.prog 7 #[va, .int .i64 n] w0 (fun v' w' => ((RT.fo).sl).V M w' (outN a n) v' ∧ Step M w0 M w' none') := by
  have hlen := V_sl_len hva
  obtain ⟨et, ft, tab⟩ := tab
  have h0w := lt_of_get tab
  refine spec_ofM (args := [va, .int .i64 n]) (fn := Tryd.f7) Tryd.func7 rfl (n := 32) Tryd.ntmps7 ?_
  refine T.seq ?_
  refine T.region ?_ -- region 0
  refine Rg.assign rfl rfl ?_
  refine Rg.nil ?_
  refine T.seq ?_
  refine T.region ?_ -- region 1
  refine Rg.move rfl rfl ?_
  refine Rg.call rfl rfl E15 (Full_spec (M := M) hn) (fun r1 w1 h => ?_)
  obtain ⟨bs, bw, ws0, M0, rfl, z1, z2, s1, h1, hb1⟩ := h
  have hM1 := s1.lt hM
  have t1 := s1.same0 tab
  refine Rg.assign rfl rfl ?_
  refine Rg.nil ?_
  refine T.seq ?_
  refine T.seq ?_
  refine T.region ?_ -- region 2
  refine Rg.move rfl rfl ?_
  refine Rg.lensl Tryd.underlying22 rfl hva rfl ?_
  refine Rg.move rfl rfl ?_
  refine Rg.nil ?_
  refine T.block ?_
  refine T.loop (σ := Nat) (fun s => [(0, va), (1, .int .i64 n), (5, .pointer (some ⟨bs, 0, none⟩)), (12, va), (13, .int .i64 a.length), (14, .int .i64 s)]) (fun s w => s ≤ a.length ∧ ∃ ws M1, Lt M1 w ∧ Step M w0 M1 w none' ∧ SetAt 59 60 n ws M1 w bs bw ∧ (∀ j : Nat, bit ws j = (decide (j < n) && !hasF (a.take s) (j : Int))) ∧ ¬ M1 0 ∧ w.heap[0]? = some (.cells (deb.map fun (k : Nat) => Value.int .u8 (k : Int)).toArray et ft)) (fun s => a.length - s) 0 (.cons rfl (.cons rfl (.cons rfl (.cons rfl (.cons rfl (.cons rfl .nil)))))) ?_ ?_ -- loop 0
  · exact ⟨Nat.zero_le _, ws0, M0, hM1, s1, h1, fun j => by rw [hb1 j]; simp [hasF], fun h0 => hM0 ((s1.mem 0 h0w).1 h0), t1⟩
  · rintro k wk ⟨hk, ws, M1, hM1', SA, hs, hbits, hm0, ht⟩
    refine T.seq ?_
    refine T.region ?_ -- region 3
    refine Rg.ilt rfl rfl rfl ?_
    refine Rg.nil ?_
    refine T.seq ?_
    refine T.ifp rfl (fun c3 => ?_) (fun c3 => ?_)
    · -- c3 True
      refine T.skip ?_
      refine T.seq ?_
      refine T.block ?_
      refine T.seq ?_
      refine T.region ?_ -- region 4
      obtain ⟨⟨d, s⟩, hx⟩ : ∃ x, a[k]? = some x := ⟨_, List.getElem?_eq_getElem (by omega)⟩
      refine Rg.idx (M := M1) Tryd.underlying22 I26 rfl rfl rfl (hva.le SA.le) (Le.refl _ _) (by omega) (fun u4_0 a4_0 hg4_0 hu4_0 => ?_)
      obtain rfl : (d, s) = a4_0 := Eq.symm (Option.some.inj (hg4_0.symm.trans (by rw [Int.toNat_natCast]; exact hx)))
      refine Rg.loadagg (M := M1) (A := RT.fo) Tryd.underlying26 rfl I26 (by decide) rfl rfl rfl hu4_0 (Le.refl _ _) (fun v4 hv4 => ?_)
      refine Rg.newagg (A := RT.fo) (M := M1) I26 rfl rfl rfl rfl rfl (by assumption) (by repeat (first | exact Le.refl _ _ | refine Le.trans (Step.le (by assumption)) ?_)) (by first | assumption | exact Step.lt (by assumption) (by assumption) | exact Step.lt (by assumption) (Step.lt (by assumption) (by assumption))) (fun u4_2 w4_2 hu4_2 s4_2 z4_2 => ?_)
      refine Rg.nil ?_
      refine T.region ?_ -- region 5
      refine Rg.move rfl rfl ?_
      refine Rg.fieldAddr (M := M1) (A := RT.fo) (B := RT.int .i64) Tryd.underlying26 rfl rfl I3 (by decide) (fo0) rfl rfl (by decide) (by assumption) (by repeat (first | exact Le.refl _ _ | refine Le.trans (Step.le (by assumption)) ?_)) (fun u5_1 hu5_1 => ?_)
      refine Rg.loadi64 (M := M1) Tryd.underlying3 rfl rfl hu5_1 (Le.refl _ _) (fun hdr => ?_)
      refine Rg.eqv (v' := .int .i64 d) rfl ?_
      have hs5 := hs.step s4_2 (fun h => h) (fun h => h)
      have hM5 := s4_2.lt hM1'
      refine Rg.call rfl rfl E16 (Cut_spec (i := d) hs5 (fun j hj => by rw [hbits j, Bool.and_eq_true] at hj; exact of_decide_eq_true hj.1)) (fun r6 w6 h => ?_)
      obtain ⟨ws', hs6, hb6, s6⟩ := h
      refine Rg.nil ?_
      refine T.region ?_ -- region 6
      refine Rg.iadd rfl rfl rfl (by omega) ?_
      refine Rg.move rfl rfl ?_
      refine Rg.nil ?_
      refine ⟨rfl, k + 1, (.cons rfl (.cons rfl (.cons rfl (.cons rfl (.cons rfl (.cons rfl .nil)))))), ?_, ?_⟩
      · refine ⟨by omega, ws', M1, s6.lt hM5, (SA.trans0 s4_2).transNew s6 (fun b hb => by omega), hs6, fun j => ?_, hm0, s6.keep (s4_2.same0 ht) (by omega)⟩
        rw [hb6 j, hbits j, hasF_take hx]
        cases hasF (a.take k) (j : Int) <;> simp [eq_comm]
      · show _ - (k + 1) < _ - k; omega
    · -- c3 False
      refine T.exit ?_
      refine T.seq ?_
      refine T.region ?_ -- region 7
      obtain rfl : k = a.length := by omega
      refine Rg.alloc M1 I22 rfl (fun bo w7 z7 z7' g7 s7 => ?_)
      change w7.heap[bo]? = some (.cells #[.slice none 0 0] _ _) at g7
      have hM7 := s7.lt hM1'
      have S7 := SA.trans0 s7
      have hs7 := hs.step s7 (fun h => h) (fun h => h)
      have y7 := SA.size
      have lbs := lt_of_get hs.s
      have lbw := lt_of_get hs.w
      refine Rg.nil ?_
      refine T.seq ?_
      refine T.seq ?_
      refine T.region ?_ -- region 8
      refine Rg.move rfl rfl ?_
      refine Rg.call rfl rfl E17 (AllS_spec (M := ins M1 bo) (bs := bs) hM7) (fun r8 w8 h => ?_)
      obtain ⟨bl, rfl, gl, z8, s8⟩ := h
      have hM8 := s8.lt hM7
      have S8 := S7.trans0 s8
      have hs8 := hs7.step s8 (fun h => h) (fun h => h)
      have g8 := s8.same0 g7
      have xl := lt_of_get gl
      have y8 := s8.size
      have t8 := s8.same0 (s7.same0 ht)
      have m80 : ¬ ins M1 bo 0 := by
        rintro (h | h)
        · omega
        · exact hm0 h
      refine Rg.nil ?_
      refine T.block ?_
      rw [List.take_length] at hbits
      have hset : ∀ j, bit ws j = true → j < n := fun j hj => by rw [hbits j, Bool.and_eq_true] at hj; exact of_decide_eq_true hj.1
      refine T.range (gf := 24) (lb := #[.pointer (some ⟨bl, 0, none⟩)]) rfl E24 (fun rec hrec => ?_)
      obtain ⟨D, hD⟩ : ∃ D, D = w8.heap.size := ⟨_, rfl⟩
      rw [← hD] at hrec ⊢
      obtain ⟨Mb, hMb⟩ : ∃ Mb, Mb = ins M1 bo := ⟨_, rfl⟩
      have mo : Mb bo := by rw [hMb]; exact .inl rfl
      rw [← hMb] at hM8 S8 hs8 m80
      have sA : Step Mb w8 (ins Mb w8.heap.size) (w8.alloc (.deferred (some []))) none' := (step_alloc _ w8 _).own (Nat.le_refl _) (by simp)
      have sB : Step (ins Mb w8.heap.size) (w8.alloc (.deferred (some []))) (ins (ins Mb w8.heap.size) (w8.heap.size + 1)) ((w8.alloc (.deferred (some []))).alloc (.loop (rec .ready none))) none' := (step_alloc _ _ _).own (by simp) (by simp)
      have sC := sA.trans0 sB
      have hDd : (w8.alloc (.deferred (some []))).heap[w8.heap.size]? = some (.deferred (some [])) := heap_alloc_at w8 _
      have hR : ((w8.alloc (.deferred (some []))).alloc (.loop (rec .ready none))).heap[w8.heap.size + 1]? = some (.loop (rec .ready none)) := by have := heap_alloc_at (w8.alloc (.deferred (some []))) (.loop (rec .ready none)); rwa [World.size_alloc] at this
      refine Spec.mono (AllS1_spec (M := ins (ins Mb w8.heap.size) (w8.heap.size + 1)) (n := n) (ws := ws) (bs := bs) (bw := bw) (J := (fun p M1 w => ∃ vo, NtSt M w0 n ws bs bw bl bo D (.loop (rec .ready none)) vo (outN a p) M1 w ∧ p ≤ n)) (Jx := fun _ => False) hset (fun p M1 w ⟨vo, h, _⟩ => ⟨h.hl, h.set, h.tab⟩) (fun p j M1 wr hJ hpj hbj hno => ?_) ⟨.slice none 0 0, ?_, Nat.zero_le _⟩) (fun _ w4 h4 => ?_)
      rotate_left
      · rw [hD]
        exact ⟨sC.lt hM8, S8.trans0 sC, .inr (.inr mo), .inr (.inl rfl), .inl rfl, by
          rintro (h | h | h)
          · omega
          · omega
          · exact m80 h, hs8.step sC (fun h => h) (fun h => h), sC.same0 gl, sC.same0 g8, sB.same0 hDd, hR, ⟨_, _, sC.same0 t8⟩, by omega, Own.nil _ _ _ _ _⟩
      rotate_left
      · obtain ⟨vo, h, hpn⟩ := hJ
        refine yield_rec (ps := [25]) (vs := [.int .i64 j]) hrec h.r rfl (by decide) ?_
        refine T.region ?_ -- region 9
        refine Rg.assign rfl rfl ?_
        refine Rg.nil ?_
        refine ⟨rfl, h.r, ?_⟩
        have h1 := h.setR (st' := .loop (rec .busy none))
        generalize wr.putObj (D + 1) _ = wB at h1 ⊢
        refine T.block ?_
        refine T.region ?_ -- region 10
        refine Rg.loadc Tryd.underlying22 rfl rfl rfl h1.o rfl ?_
        refine Rg.eqv (v' := vo) rfl ?_
        refine Rg.move rfl rfl ?_
        have hjn : j < n := by have := hset _ hbj; exact this
        have hnn := h1.set.nn
        refine Rg.build (places := [(0, 1), (1, 1)]) Tryd.underlying26 I26 B26 rfl ⟨_, _, rfl, rfl, rfl⟩ (out := [_, .int .i64 0]) ⟨0, [_], rfl, rfl, by simp [Value.cells], rfl⟩ ?_
        refine Rg.sl1 (A := RT.fo) (hn := by decide) (M := M1) Tryd.underlying22 I26 (by decide) rfl rfl h1.lt (V_fo (a := (j : Int)) (b := 0) (by omega) (by omega)) (.inl rfl) (fun u6 w6 hu6 s6 => ?_)
        have h6 := h1.step s6
        have hol := outN_len a p
        refine Rg.append (M := M1) (base := D + 2) Tryd.underlying22 I26 rfl rfl rfl rfl (h6.hk) hu6 (Le.refl _ _) (by simp; omega) (by simp; omega) (by have := lt_of_get h6.r; omega) (fun v7 M3 w7 ho7 s7 => ?_)
        obtain ⟨⟨go7, mo7⟩, hgo⟩ := h6.grow s7 ho7
        refine Rg.storec (M := M3) I22 rfl rfl go7 rfl (by obtain ⟨_, _, he, _⟩ := ho7.isSlice; rw [he]; rfl) mo7 (fun w8 go8 s8 => ?_)
        have h8 := hgo s8 go8
        refine Rg.nil ?_
        have h9 := h8.setR (st' := .loop (rec .ready none))
        refine ⟨h8.r, true, rfl, (fun _ => ⟨M3, v7, ?_, by omega⟩), fun h => by (cases h)⟩
        have hskip : outN a j = outN a p := outN_skip j hpj (fun t h1 h2 => by
          have h3 := hno t h1 h2
          rw [hbits t, decide_eq_true (show t < n by omega), Bool.true_and] at h3
          simpa using h3)
        have hfj : hasF a (j : Int) = false := by
          have := hbits j
          rw [hbj, decide_eq_true hjn, Bool.true_and] at this
          simpa using this.symm
        rw [outN_succ, hskip, hfj]
        exact h9
      · obtain ⟨p, Mz, ⟨vo, h, hpn⟩, hend⟩ := h4.resolve_right (fun h => h)
        left
        have h5 := h.setR (st' := .loop (rec .exhausted none))
        have hlast : outN a n = outN a p := outN_skip n hpn (fun t h1 h2 => by
          have h3 := hend t h1
          rw [hbits t, decide_eq_true h2, Bool.true_and] at h3
          simpa using h3)
        refine ⟨h.r, ?_⟩
        generalize w4.putObj (D + 1) _ = wE at h5 ⊢
        have hol := outN_len a p
        refine T.seq ?_
        refine T.region ?_ -- region 11
        refine Rg.loadc Tryd.underlying22 rfl rfl rfl h5.o rfl ?_
        refine Rg.eqv (v' := vo) rfl ?_
        refine Rg.assign rfl rfl ?_
        refine Rg.nil ?_
        refine T.ret ?_
        obtain ⟨⟨e1, e2, e3, e4⟩, e5, e8, e9⟩ := h5.ne
        have sZ : Step Mz wE Mz (wE.putObj D (.deferred none)) (fun k => k = D) := step_putObj h5.md
        have SZ := h5.S.transNew sZ (fun k hk => by subst hk; exact e9)
        rw [hlast]
        exact KretM1 rfl rfl h5.d ⟨Own.close hM SZ ((h5.hk.step sZ (fun k hk hh => by have := (h5.hk.base k hk).1; omega)).rebase (by omega)) (by omega), SZ.back⟩

/-- 'concordance/match.Or' -/
theorem Or_spec {M : PSet} {w0 : World} {va vb : Value} {a b : List Fo} (hM : Lt M w0) (hva : ((RT.fo).sl).V M w0 a va) (hvb : ((RT.fo).sl).V M w0 b vb) (oa : okD a) (ob : okD b) (hl : a.length + b.length ≤ 1099511627776) :
    Spec Tryd.prog 8 #[va, vb] w0 (fun v' w' => ((RT.fo).sl).V M w' (ofP 1 a b) v' ∧ Step M w0 M w' none') := by
  refine spec_of (args := [va, vb]) (fn := Tryd.f8) Tryd.func8 rfl (n := 8) Tryd.ntmps8 ?_
  refine T.seq ?_
  refine T.region ?_ -- region 0
  refine Rg.assign rfl rfl ?_
  refine Rg.nil ?_
  refine T.seq ?_
  refine T.region ?_ -- region 1
  refine Rg.move rfl rfl ?_
  refine Rg.move rfl rfl ?_
  refine Rg.call rfl rfl E14 (of_spec hM hva hvb oa ob hl) (fun r1 w1 h => ?_)
  obtain ⟨h1, s1⟩ := h
  refine Rg.assign rfl rfl ?_
  refine Rg.nil ?_
  refine T.ret ?_
  exact Kret1 rfl rfl ⟨h1, s1⟩

/-- 'concordance/match.Count' -/
theorem Count_spec {M : PSet} {w0 : World} {v : Value} {a : List Fo} (hv : ((RT.fo).sl).V M w0 a v) :
    Spec Tryd.prog 13 #[v] w0 (fun v' w' => v' = .int .i64 a.length ∧ w0 = w') := by
  refine spec_of (args := [v]) (fn := Tryd.f13) Tryd.func13 rfl (n := 5) Tryd.ntmps13 ?_
  refine T.seq ?_
  refine T.region ?_ -- region 0
  refine Rg.assign rfl rfl ?_
  refine Rg.nil ?_
  refine T.seq ?_
  refine T.region ?_ -- region 1
  refine Rg.move rfl rfl ?_
  refine Rg.lensl Tryd.underlying22 rfl hv rfl ?_
  refine Rg.assign rfl rfl ?_
  refine Rg.nil ?_
  refine T.ret ?_
  exact Kret1 rfl rfl ⟨rfl, rfl⟩

end Go.K

/- The walks of Go functions, operation by operation. -/
import Derived.Test.YtgpmihcdjmjfoaaKTypes
import Derived.Test.YtgpmihcdjmjfoaaKNum
import Derived.Test.YtgpmihcdjmjfoaaKPost
import Derived.Test.YtgpmihcdjmjfoaaKPtr
import Derived.Test.YtgpmihcdjmjfoaaKCur
import Derived.Test.YtgpmihcdjmjfoaaKCur2
import Derived.Test.YtgpmihcdjmjfoaaKDraw
import Derived.Test.YtgpmihcdjmjfoaaKPosting
import Derived.Test.YtgpmihcdjmjfoaaKMake2
import Derived.Test.YtgpmihcdjmjfoaaKCursor
import Derived.Test.YtgpmihcdjmjfoaaKAdv
import Derived.Test.YtgpmihcdjmjfoaaProg
import Derived.KernelRfl
namespace Go.K
open Go.Proofs
namespace TKBoth
theorem I37 : TI Try.prog 37 (.agg #[(.int .i64 0), (.slice none 0 0)]) 2 32 := by unfold TI; kernel_rfl -- api.Posting
theorem E38 : Enters Try.prog 38 := enters Try.func38 rfl (by decide) -- (*concordance/cursor.Cursor).Next
theorem E39 : Enters Try.prog 39 := enters Try.func39 rfl (by decide) -- (*concordance/cursor.Cursor).Advance
end TKBoth
open TKBoth
set_option linter.unusedVariables false
set_option linter.unusedSimpArgs false
set_option maxRecDepth 10000


theorem Make_ok {M : PSet} {w0 : World} {v : Value} {l : List Po} (hM : Lt M w0) (hv : ((RT.po).sl).V M w0 l v) (ho : OkL l) : Spec Try.prog 19 #[v] w0 (fun v' w' => Step M w0 M w' none' ∧ ∃ q, v' = .tuple #[.pointer (some q), .int .i64 0] ∧ PtrTo RT.li M w' (.pointer (some q)) (mkLi l)) :=
  (Make_spec hM hv ho.ps (by have := ho.bl; omega) ho.ll ho.tot).mono fun v' w' ⟨s, h, _⟩ => by
    obtain ⟨p, rfl, hp⟩ := h ho.may
    obtain ⟨q, rfl⟩ := PtrTo.isPtr hp
    exact ⟨s, q, rfl, hp⟩
theorem Adv_ok {M : PSet} {w0 : World} {bc : Nat} {l : List Po} {i to : Int} (h : Cu 92 l i M w0 bc) (hM : Lt M w0) (ho : OkL l) (hto : -9223372036854775808 ≤ to ∧ to ≤ 9223372036854775807) : Spec Try.prog 39 #[.pointer (some ⟨bc, 0, none⟩), .int .i64 to] w0 (fun v' w' => v' = .int .i64 (docAt l (advI l i to)) ∧ Step M w0 M w' (fun b => b = bc) ∧ Cu 92 l (advI l i to) M w' bc) :=
  Advance_spec h hM ho.may ho.ps ho.bl ho.ll hto
theorem Next_ok {M : PSet} {w0 : World} {bc : Nat} {l : List Po} {i : Int} (h : Cu 92 l i M w0 bc) (hM : Lt M w0) (ho : OkL l) : Spec Try.prog 38 #[.pointer (some ⟨bc, 0, none⟩)] w0 (fun v' w' => v' = .int .i64 (docAt l (nextI l i)) ∧ Step M w0 M w' (fun b => b = bc) ∧ Cu 92 l (nextI l i) M w' bc) :=
  Next_spec h hM ho.may ho.ps ho.bl ho.ll
theorem Good_ok {M : PSet} {w0 : World} {v : Value} {l : List Po} {n : Nat} (hM : Lt M w0) (hv : ((RT.po).sl).V M w0 l v) (hn : n ≤ 1000) : Spec Try.prog 18 #[v, .int .i64 n] w0 (fun v' w' => Step M w0 M w' none' ∧ ∃ g, OkL g ∧ g.length ≤ n ∧ (∀ p ∈ g, p.2.length ≤ 5) ∧ ((RT.po).sl).V M w' g v') :=
  (Good5_spec hM hv hn).mono fun v' w' ⟨s, h⟩ => ⟨s, _, (ok_good l hn).1, (ok_good l hn).2.1, (ok_good l hn).2.2, h⟩
theorem strict_ext : ∀ (a b : List Int), a.Pairwise (· < ·) → b.Pairwise (· < ·) → (∀ x, x ∈ a ↔ x ∈ b) → a = b
  | [], [], _, _, _ => rfl
  | [], y :: b, _, _, h => by have := (h y).2 (List.mem_cons_self ..); simp at this
  | x :: a, [], _, _, h => by have := (h x).1 (List.mem_cons_self ..); simp at this
  | x :: a, y :: b, ha, hb, h => by
    obtain ⟨h1, h2⟩ := List.pairwise_cons.1 ha
    obtain ⟨h3, h4⟩ := List.pairwise_cons.1 hb
    have hxy : x = y := by
      rcases List.mem_cons.1 ((h x).1 (List.mem_cons_self ..)) with e | e
      · exact e
      · rcases List.mem_cons.1 ((h y).2 (List.mem_cons_self ..)) with e' | e'
        · exact e'.symm
        · have := h3 x e; have := h1 y e'; omega
    subst hxy
    rw [strict_ext a b h2 h4 fun z => ?_]
    constructor
    · intro hz
      rcases List.mem_cons.1 ((h z).1 (List.mem_cons_of_mem _ hz)) with e | e
      · subst e; have := h1 _ hz; omega
      · exact e
    · intro hz
      rcases List.mem_cons.1 ((h z).2 (List.mem_cons_of_mem _ hz)) with e | e
      · subst e; have := h3 _ hz; omega
      · exact e
theorem docs_strict {l : List Po} (hm : mayPo (-1) l = true) : (l.map Prod.fst).Pairwise (· < ·) := by
  rw [List.pairwise_iff_getElem]
  intro i j hi hj hij
  simp only [List.length_map] at hi hj
  rw [List.getElem_map, List.getElem_map]
  exact docs_lt hm (List.getElem?_eq_getElem hi) (List.getElem?_eq_getElem hj) hij
theorem comm_sym {l m : List Po} (hl : mayPo (-1) l = true) (hm : mayPo (-1) m = true) : comm l m l.length = comm m l m.length := by
  unfold comm
  rw [List.take_length, List.take_length]
  refine strict_ext _ _ ((docs_strict hl).filter _) ((docs_strict hm).filter _) fun x => ?_
  rw [List.mem_filter, List.mem_filter]
  simp only [hasD, List.contains_iff_mem]
  exact And.comm
theorem comm_self (l : List Po) : (comm l l l.length).length = l.length := by
  unfold comm
  rw [List.take_length, List.filter_eq_self.2 (fun x hx => by unfold hasD; rw [List.contains_iff_mem]; exact hx), List.length_map]


/-- d, if it is among the first k -/
def hasT (m : List Po) (k : Nat) (d : Int) : List Int := if ((m.take k).map Prod.fst).contains d then [d] else []
theorem hasT_zero (m : List Po) (d : Int) : hasT m 0 d = [] := by simp [hasT]
theorem hasT_end (m : List Po) (k : Nat) (d : Int) (h : m.length ≤ k) : (if hasD m d then [d] else []) = hasT m k d := by unfold hasT hasD; rw [List.take_of_length_le h]
theorem hasT_no {m : List Po} (hm : mayPo (-1) m = true) {k : Nat} {d e : Int} {qs : List Int} (hy : m[k]? = some (e, qs)) (he : d = e) : hasT m k d = [] := by
  unfold hasT
  rw [if_neg]
  rw [List.contains_iff_mem, List.mem_map]
  rintro ⟨p, hp, hpd⟩
  obtain ⟨t, ht⟩ := List.mem_iff_getElem?.1 hp
  rw [List.getElem?_take] at ht
  split at ht
  · have := docs_lt hm ht hy (by assumption); simp only at this; omega
  · cases ht
theorem hasT_in {m : List Po} {k : Nat} {e : Int} {qs : List Int} (hy : m[k]? = some (e, qs)) : hasT m (k + 1) e = [e] := by
  unfold hasT
  rw [take_snoc_map hy, if_pos (by simp)]
theorem hasT_skip {m : List Po} {k : Nat} {d e : Int} {qs : List Int} (hy : m[k]? = some (e, qs)) (he : ¬ d = e) : hasT m (k + 1) d = hasT m k d := by
  unfold hasT
  rw [take_snoc_map hy]
  congr 1
  rw [List.contains_iff_mem, List.contains_iff_mem, List.mem_append]
  simp only [List.mem_singleton, eq_iff_iff]
  exact ⟨fun h => h.resolve_right he, .inl⟩

/-- 'concordance/cursor.Both' -/
theorem Both6_spec {M : PSet} {w0 : World} {bc bd : Nat} {l m : List Po} (hM : Lt M w0) (h : Cu 92 l (-1) M w0 bc) (h' : Cu 92 m (-1) M w0 bd) (hne : bc ≠ bd) (ol : OkL l) (om : OkL m) :
    Spec Try.prog 31 #[.pointer (some ⟨bc, 0, none⟩), .pointer (some ⟨bd, 0, none⟩)] w0 (fun v' w' => ((RT.int .i64).sl).V M w' (comm l m l.length) v' ∧ Step M w0 M w' (fun b => b = bc ∨ b = bd)) := by
  have hll := ol.ll
  have hn0 : nextI l (-1) = 0 := by unfold nextI; rw [if_pos (by omega)]; rfl
  have hNM : ∀ b : Nat, b = bc ∨ b = bd → M b := fun b hb => by
    rcases hb with rfl | rfl
    · exact h.mem
    · exact h'.mem
  have hbc := h.lt
  have hbd := h'.lt
  refine spec_of (args := [.pointer (some ⟨bc, 0, none⟩), .pointer (some ⟨bd, 0, none⟩)]) (fn := Try.f31) Try.func31 rfl (n := 29) Try.ntmps31 ?_
  refine T.seq ?_
  refine T.region ?_ -- region 0
  refine Rg.assign rfl rfl ?_
  refine Rg.nil ?_
  refine T.seq ?_
  refine T.region ?_ -- region 1
  refine Rg.assign rfl rfl ?_
  refine Rg.nil ?_
  refine T.seq ?_
  refine T.seq ?_
  refine T.region ?_ -- region 2
  refine Rg.move rfl rfl ?_
  refine Rg.call rfl rfl E38 (Next_ok h hM ol) (fun r1 w1 h => ?_)
  obtain ⟨rfl, s1, hA1⟩ := h
  rw [hn0] at hA1 ⊢
  refine Rg.assign rfl rfl ?_
  refine Rg.nil ?_
  refine T.block ?_
  refine T.loop (σ := Nat × Value × Int) (fun s => [(0, .pointer (some ⟨bc, 0, none⟩)), (1, .pointer (some ⟨bd, 0, none⟩)), (5, s.2.1), (6, .int .i64 (docAt l (s.1 : Int)))]) (fun s w => s.1 ≤ l.length ∧ (∀ (t : Nat) p, (t : Int) < s.2.2 → m[t]? = some p → p.1 < docAt l (s.1 : Int)) ∧ ∃ M1, Lt M1 w ∧ Step M w0 M1 w (fun b => b = bc ∨ b = bd) ∧ Cu 92 l (s.1 : Int) M1 w bc ∧ Cu 92 m s.2.2 M1 w bd ∧ Own (RT.int .i64) 3 M1 w w0.heap.size s.2.1 (comm l m s.1)) (fun s => l.length - s.1) (0, _, -1) (.cons rfl (.cons rfl (.cons rfl (.cons rfl .nil)))) ?_ ?_ -- loop 0
  · exact ⟨Nat.zero_le _, fun t p ht => by simp only at ht; omega, M, s1.lt hM, s1.widen (fun b hb => .inl hb) hNM, hA1, h'.step s1 (fun h => hne h.symm), Own.nil _ _ _ _ _⟩
  · rintro ⟨i, u0, j⟩ w3 ⟨hi, hlt, M1, hM1, S, hA, hB, ho⟩
    dsimp only at hi hlt hA hB ho ⊢
    have hin := docAt_in ol.may (i := (i : Int))
    have hdi := docAt_rng ol.may (i : Int)
    refine T.seq ?_
    refine T.seq ?_
    refine T.region ?_ -- region 3
    refine Rg.move rfl rfl ?_
    refine Rg.ilt rfl rfl rfl ?_
    refine Rg.nil ?_
    refine T.ifp rfl (fun c3 => ?_) (fun c3 => ?_)
    · -- c3 True
      have hil : i < l.length := by
        rcases docAt_cases l (i : Int) with ⟨h0, _⟩ | ⟨j2, d2, ps2, hj2, hx2, _⟩ | ⟨h0, h1, _⟩
        · omega
        · have := (List.getElem?_eq_some_iff.1 hx2).1; omega
        · omega
      obtain ⟨⟨d, ps⟩, hx⟩ : ∃ x, l[i]? = some x := ⟨_, List.getElem?_eq_getElem hil⟩
      have hdd := docAt_get hx
      have hdr := doc_rng ol.may hx
      refine T.skip ?_
      refine T.block ?_
      refine T.seq ?_
      refine T.region ?_ -- region 4
      refine Rg.move rfl rfl ?_
      refine Rg.move rfl rfl ?_
      have hj := hB.rng
      have hadv : advI m j (docAt l (i : Int)) = (idx m d : Nat) := by rw [hdd]; exact advI_idx om.may hj hdr (fun t p ht hp => by have := hlt t p ht hp; omega)
      refine Rg.call rfl rfl E39 (Adv_ok hB hM1 om (by omega)) (fun r4 w4 h => ?_)
      obtain ⟨rfl, s4, hB4⟩ := h
      rw [hadv] at hB4 ⊢
      have hA4 := hA.step s4 (fun h => hne h)
      have S4 := S.trans s4 (fun b _ h => .inr h)
      have ho4 := ho.step s4 (fun b hb h => by have := (ho.base b hb).1; omega)
      have hM4 := s4.lt hM1
      have hdy := docAt_rng om.may (idx m d : Nat)
      refine Rg.assign rfl rfl ?_
      refine Rg.nil ?_
      refine T.block ?_
      refine T.seq ?_
      refine T.region ?_ -- region 6
      refine Rg.move rfl rfl ?_
      refine Rg.move rfl rfl ?_
      refine Rg.ieq rfl rfl rfl ?_
      refine Rg.assign rfl rfl ?_
      refine Rg.nil ?_
      refine T.ifp rfl (fun c6 => ?_) (fun c6 => ?_)
      · -- c6 True
        refine T.seq ?_
        refine T.region ?_ -- region 7
        refine Rg.move rfl rfl ?_
        refine Rg.move rfl rfl ?_
        refine Rg.sl1 (A := RT.int .i64) (hn := by decide) (M := M1) Try.underlying23 I3 (by decide) rfl rfl hM4 (V_i64 (x := docAt l (i : Int)) (by omega)) (.inr ⟨rfl, rfl⟩) (fun u5 w5 hu5 s5 => ?_)
        refine Rg.append (M := M1) (base := w0.heap.size) Try.underlying23 I3 rfl rfl rfl rfl (ho4.step0 s5) hu5 (Le.refl _ _) (by have := comm_len l m i; simp; omega) (by have := comm_len l m i; simp; omega) (Nat.le_trans S4.size s5.size) (fun v6 M3 w6 ho6 s6 => ?_)
        have hnA : ∀ b, blk u0 b → w0.heap.size ≤ b := fun b hb => (ho4.base b hb).1
        have hA6 := (hA4.step s5 (fun h => h)).step s6 (fun h => by have := hnA _ h; omega)
        have hB6 := (hB4.step s5 (fun h => h)).step s6 (fun h => by have := hnA _ h; omega)
        have S6 := (S4.trans0 s5).transBlk s6 (ho4.step0 s5) (Nat.le_refl _)
        have hM6 := s6.lt (s5.lt hM4)
        refine Rg.assign rfl rfl ?_
        refine Rg.nil ?_
        refine T.region ?_ -- region 8
        refine Rg.move rfl rfl ?_
        refine Rg.call rfl rfl E38 (Next_ok hA6 hM6 ol) (fun r7 w7 h => ?_)
        obtain ⟨rfl, s7, hA7⟩ := h
        have hni : nextI l (i : Int) = ((i + 1 : Nat) : Int) := by unfold nextI; rw [if_pos (by omega)]; omega
        rw [hni] at hA7 ⊢
        have hB7 := hB6.step s7 (fun h => hne h.symm)
        have ho7 := ho6.step s7 (fun b hb h => by have := (ho6.base b hb).1; omega)
        have S7 := S6.trans s7 (fun b _ h => .inl h)
        refine Rg.assign rfl rfl ?_
        refine Rg.nil ?_
        refine ⟨rfl, (i + 1, v6, (idx m d : Nat)), (.cons rfl (.cons rfl (.cons rfl (.cons rfl .nil)))), ?_, ?_⟩
        · refine ⟨by simp only; omega, fun t p ht hp => ?_, M3, s7.lt hM6, S7, hA7, hB7, ?_⟩
          · have h1 := idx_lt (l := m) (to := d) (j := t) (by simp only at ht; omega) hp
            rcases docAt_cases l ((i + 1 : Nat) : Int) with ⟨h0, _⟩ | ⟨j2, d2, ps2, hj2, hx2, h2, _⟩ | ⟨h0, h2, _⟩
            · omega
            · have := docs_lt ol.may hx hx2 (by omega); simp only at this ⊢; omega
            · simp only; omega
          · simp only
            rw [comm_succ hx, hasD_idx om.may hdr.2, decide_eq_true (by omega), if_pos rfl]
            rw [hdd] at ho7; exact ho7
        · simp only; omega
      · -- c6 False
        refine T.region ?_ -- region 5
        refine Rg.move rfl rfl ?_
        refine Rg.move rfl rfl ?_
        have hcy := comm_adv ol.may om.may hx (fun h => c6 (by rw [hdd]; exact h))
        have hal : advI l (i : Int) (docAt m (idx m d : Nat)) = (idx l (docAt m (idx m d : Nat)) : Nat) := by
          unfold advI; rw [if_neg (by have := docAt_idx (m := m) hdr.2; omega)]
        refine Rg.call rfl rfl E39 (Adv_ok hA4 hM4 ol (by omega)) (fun r7 w7 h => ?_)
        obtain ⟨rfl, s7, hA7⟩ := h
        rw [hal] at hA7 ⊢
        have hB7 := hB4.step s7 (fun h => hne h.symm)
        have ho7 := ho4.step s7 (fun b hb h => by have := (ho4.base b hb).1; omega)
        have S7 := S4.trans s7 (fun b _ h => .inl h)
        refine Rg.assign rfl rfl ?_
        refine Rg.nil ?_
        refine ⟨rfl, (idx l (docAt m (idx m d : Nat)), u0, (idx m d : Nat)), (.cons rfl (.cons rfl (.cons rfl (.cons rfl .nil)))), ?_, ?_⟩
        · refine ⟨idx_le _ _, fun t p ht hp => ?_, M1, s7.lt hM4, S7, hA7, hB7, ?_⟩
          · have h1 := idx_lt (l := m) (to := d) (j := t) (by simp only at ht; omega) hp
            have h2 := docAt_idx (m := m) hdr.2
            simp only
            rcases docAt_cases l (idx l (docAt m (idx m d : Nat)) : Nat) with ⟨h0, _⟩ | ⟨j2, d2, ps2, hj2, hx2, h3, _⟩ | ⟨h0, h3, _⟩
            · omega
            · obtain rfl : idx l (docAt m (idx m d : Nat)) = j2 := by omega
              have := idx_ge hx2; simp only at this; omega
            · omega
          · simp only
            rw [hcy.2]; exact ho7
        · have := hcy.1; simp only; omega
    · -- c3 False
      refine T.exit ?_
      refine T.seq ?_
      refine T.region ?_ -- region 9
      refine Rg.move rfl rfl ?_
      refine Rg.assign rfl rfl ?_
      refine Rg.nil ?_
      refine T.ret ?_
      obtain rfl : i = l.length := by omega
      exact Kret1 rfl rfl ⟨Own.close hM S ho (by have := comm_len l m l.length; omega), S.back⟩

/-- 'concordance/concordanceref06.Both' -/
theorem rBoth6_spec {M : PSet} {w0 : World} {v u : Value} {l m : List Po} (hM : Lt M w0) (hv : ((RT.po).sl).V M w0 l v) (hu : ((RT.po).sl).V M w0 m u) (ol : OkL l) (om : OkL m) :
    Spec Try.prog 32 #[v, u] w0 (fun v' w' => ((RT.int .i64).sl).V M w' (comm l m l.length) v' ∧ Step M w0 M w' none') := by
  have hll := ol.ll
  have hlm := om.ll
  refine spec_of (args := [v, u]) (fn := Try.f32) Try.func32 rfl (n := 40) Try.ntmps32 ?_
  refine T.seq ?_
  refine T.region ?_ -- region 0
  refine Rg.assign rfl rfl ?_
  refine Rg.nil ?_
  refine T.seq ?_
  refine T.region ?_ -- region 1
  refine Rg.assign rfl rfl ?_
  refine Rg.nil ?_
  refine T.seq ?_
  refine T.seq ?_
  refine T.region ?_ -- region 2
  refine Rg.assign rfl rfl ?_
  refine Rg.nil ?_
  refine T.block ?_
  refine T.loop (σ := Nat × Value) (fun s => [(0, v), (1, u), (5, s.2), (6, .int .i64 s.1)]) (fun s w => s.1 ≤ l.length ∧ ∃ M1, Lt M1 w ∧ Step M w0 M1 w none' ∧ Own (RT.int .i64) 3 M1 w w0.heap.size s.2 (comm l m s.1)) (fun s => l.length - s.1) (0, _) (.cons rfl (.cons rfl (.cons rfl (.cons rfl .nil)))) ?_ ?_ -- loop 0
  · exact ⟨Nat.zero_le _, M, hM, Step.refl _ _, Own.nil _ _ _ _ _⟩
  · rintro ⟨i, u0⟩ w3 ⟨hi, M1, hM1, S, ho⟩
    dsimp only at hi ho ⊢
    refine T.seq ?_
    refine T.seq ?_
    refine T.region ?_ -- region 3
    refine Rg.move rfl rfl ?_
    refine Rg.move rfl rfl ?_
    refine Rg.lensl Try.underlying28 rfl hv rfl ?_
    refine Rg.ilt rfl rfl rfl ?_
    refine Rg.nil ?_
    refine T.ifp rfl (fun c3 => ?_) (fun c3 => ?_)
    · -- c3 True
      refine T.skip ?_
      refine T.seq ?_
      refine T.block ?_
      refine T.seq ?_
      refine T.region ?_ -- region 5
      refine Rg.assign rfl rfl ?_
      refine Rg.nil ?_
      refine T.block ?_
      obtain ⟨⟨d, ps⟩, hx⟩ : ∃ x, l[i]? = some x := ⟨_, List.getElem?_eq_getElem (by omega)⟩
      have hdr := doc_rng ol.may hx
      refine T.loop (σ := Nat × Value) (fun s => [(0, v), (1, u), (5, s.2), (6, .int .i64 i), (7, .int .i64 s.1)]) (fun s w => s.1 ≤ m.length ∧ ∃ M2, Lt M2 w ∧ Step M w0 M2 w none' ∧ Own (RT.int .i64) 3 M2 w w0.heap.size s.2 (comm l m i ++ hasT m s.1 d)) (fun s => m.length - s.1) (0, _) (.cons rfl (.cons rfl (.cons rfl (.cons rfl (.cons rfl .nil))))) ?_ ?_ -- loop 1
      · exact ⟨Nat.zero_le _, M1, hM1, S, by rw [hasT_zero, List.append_nil]; exact ho⟩
      · clear S ho hM1
        rintro ⟨k, u1⟩ w4 ⟨hk, M2, hM2, S, ho⟩
        dsimp only at hk ho ⊢
        refine T.seq ?_
        refine T.seq ?_
        refine T.region ?_ -- region 6
        refine Rg.move rfl rfl ?_
        refine Rg.move rfl rfl ?_
        refine Rg.lensl Try.underlying28 rfl hu rfl ?_
        refine Rg.ilt rfl rfl rfl ?_
        refine Rg.nil ?_
        refine T.ifp rfl (fun c6 => ?_) (fun c6 => ?_)
        · -- c6 True
          refine T.skip ?_
          refine T.seq ?_
          refine T.block ?_
          refine T.seq ?_
          obtain ⟨⟨e, qs⟩, hy⟩ : ∃ x, m[k]? = some x := ⟨_, List.getElem?_eq_getElem (by omega)⟩
          have hkn := take_snoc_map hy
          apply T.draw (M := M2) mixed [Asr.eq _, Asr.eq _, Asr.ptr (RT.po) (d, ps), Asr.ptr (RT.int .i64) d, Asr.eq (.int .i64 d), Asr.eq _, Asr.eq _, Asr.ptr (RT.po) (e, qs), Asr.ptr (RT.int .i64) e, Asr.eq (.int .i64 e), Asr.eq _] -- region 8
          · rfl
          · -- its operations
            refine Obls.cons ?_ ?_
            · intro wD E sD -- 0
              refine Rg.move rfl rfl ?_
              exact Rg.nil ⟨rfl, rfl, _, rfl, rfl, Step.refl _ _⟩
            refine Obls.cons ?_ ?_
            · intro wD E sD -- 1
              refine Rg.move rfl rfl ?_
              exact Rg.nil ⟨rfl, rfl, _, rfl, rfl, Step.refl _ _⟩
            refine Obls.cons ?_ ?_
            · intro wD E sD -- 2
              intro x_ hx_; have hx_ : x_ = _ := hx_; subst x_
              intro x_ hx_; have hx_ : x_ = _ := hx_; subst x_
              refine Rg.idx (M := M2) Try.underlying28 I37 rfl rfl rfl ((hv.le S.le).le sD.le) (Le.refl _ _) (by omega) (fun ui ai hgi hui => ?_)
              obtain rfl : (d, ps) = ai := Eq.symm (Option.some.inj (hgi.symm.trans (by simpa using hx)))
              exact Rg.nil ⟨rfl, rfl, _, rfl, hui, Step.refl _ _⟩
            refine Obls.cons ?_ ?_
            · intro wD E sD -- 3
              intro v2 hv2
              refine Rg.fieldAddr (M := M2) (A := RT.po) (B := RT.int .i64) Try.underlying37 rfl rfl I3 (by decide) (po0) rfl rfl (by decide) (show PtrTo (RT.po) M2 wD v2 (d, ps) from hv2) (Le.refl _ _) (fun uf huf => ?_)
              exact Rg.nil ⟨rfl, rfl, _, rfl, huf, Step.refl _ _⟩
            refine Obls.cons ?_ ?_
            · intro wD E sD -- 4
              intro v3 hv3
              refine Rg.loadi64 (M := M2) Try.underlying3 rfl rfl (show PtrTo (RT.int .i64) M2 wD v3 d from hv3) (Le.refl _ _) (fun hin => ?_)
              exact Rg.nil ⟨rfl, rfl, _, rfl, rfl, Step.refl _ _⟩
            refine Obls.cons ?_ ?_
            · intro wD E sD -- 5
              refine Rg.move rfl rfl ?_
              exact Rg.nil ⟨rfl, rfl, _, rfl, rfl, Step.refl _ _⟩
            refine Obls.cons ?_ ?_
            · intro wD E sD -- 6
              refine Rg.move rfl rfl ?_
              exact Rg.nil ⟨rfl, rfl, _, rfl, rfl, Step.refl _ _⟩
            refine Obls.cons ?_ ?_
            · intro wD E sD -- 7
              intro x_ hx_; have hx_ : x_ = _ := hx_; subst x_
              intro x_ hx_; have hx_ : x_ = _ := hx_; subst x_
              refine Rg.idx (M := M2) Try.underlying28 I37 rfl rfl rfl ((hu.le S.le).le sD.le) (Le.refl _ _) (by omega) (fun ui ai hgi hui => ?_)
              obtain rfl : (e, qs) = ai := Eq.symm (Option.some.inj (hgi.symm.trans (by simpa using hy)))
              exact Rg.nil ⟨rfl, rfl, _, rfl, hui, Step.refl _ _⟩
            refine Obls.cons ?_ ?_
            · intro wD E sD -- 8
              intro v7 hv7
              refine Rg.fieldAddr (M := M2) (A := RT.po) (B := RT.int .i64) Try.underlying37 rfl rfl I3 (by decide) (po0) rfl rfl (by decide) (show PtrTo (RT.po) M2 wD v7 (e, qs) from hv7) (Le.refl _ _) (fun uf huf => ?_)
              exact Rg.nil ⟨rfl, rfl, _, rfl, huf, Step.refl _ _⟩
            refine Obls.cons ?_ ?_
            · intro wD E sD -- 9
              intro v8 hv8
              refine Rg.loadi64 (M := M2) Try.underlying3 rfl rfl (show PtrTo (RT.int .i64) M2 wD v8 e from hv8) (Le.refl _ _) (fun hin => ?_)
              exact Rg.nil ⟨rfl, rfl, _, rfl, rfl, Step.refl _ _⟩
            refine Obls.cons ?_ ?_
            · intro wD E sD -- 10
              intro x_ hx_; have hx_ : x_ = _ := hx_; subst x_
              intro x_ hx_; have hx_ : x_ = _ := hx_; subst x_
              refine Rg.ieq rfl rfl rfl ?_
              exact Rg.nil ⟨rfl, rfl, _, rfl, rfl, Step.refl _ _⟩
            exact Obls.nil
          · -- behind it
            intro wD8 sD8
            intro x_ hx_; have hx_ : x_ = _ := hx_; subst x_
            intro x_ hx_; have hx_ : x_ = _ := hx_; subst x_
            intro v8_2 hv8_2
            intro v8_3 hv8_3
            intro x_ hx_; have hx_ : x_ = _ := hx_; subst x_
            intro x_ hx_; have hx_ : x_ = _ := hx_; subst x_
            intro x_ hx_; have hx_ : x_ = _ := hx_; subst x_
            intro v8_7 hv8_7
            intro v8_8 hv8_8
            intro x_ hx_; have hx_ : x_ = _ := hx_; subst x_
            intro x_ hx_; have hx_ : x_ = _ := hx_; subst x_
            replace S := S.trans0 sD8
            replace ho := ho.step0 sD8
            replace hM2 := sD8.lt hM2
            refine T.ifp rfl (fun c8 => ?_) (fun c8 => ?_)
            · -- c8 True
              have hno : hasT m k d = [] := hasT_no om.may hy c8
              refine T.region ?_ -- region 9
              refine Rg.move rfl rfl ?_
              refine Rg.move rfl rfl ?_
              refine Rg.move rfl rfl ?_

              refine Rg.idx (M := M2) Try.underlying28 I37 rfl rfl rfl (hv.le S.le) (Le.refl _ _) (by omega) (fun u9_3 a9_3 hg9_3 hu9_3 => ?_)
              obtain rfl : (d, ps) = a9_3 := Eq.symm (Option.some.inj (hg9_3.symm.trans (by simpa using hx)))
              refine Rg.fieldAddr (M := M2) (A := RT.po) (B := RT.int .i64) Try.underlying37 rfl rfl I3 (by decide) (po0) rfl rfl (by decide) (by assumption) (by repeat (first | exact Le.refl _ _ | refine Le.trans (Step.le (by assumption)) ?_)) (fun u9_4 hu9_4 => ?_)
              refine Rg.loadi64 (M := M2) Try.underlying3 rfl rfl (by assumption) (by repeat (first | exact Le.refl _ _ | refine Le.trans (Step.le (by assumption)) ?_)) (fun in9_5 => ?_)
              refine Rg.eqv (v' := .int .i64 d) rfl ?_
              replace in9_5 : -9223372036854775808 ≤ (d : Int) ∧ d ≤ 9223372036854775807 := in9_5
              refine Rg.sl1 (A := RT.int .i64) (hn := by decide) (M := M2) Try.underlying23 I3 (by decide) rfl rfl hM2 (V_i64 (x := d) (by omega)) (.inr ⟨rfl, rfl⟩) (fun u5 w5 hu5 s5 => ?_)
              refine Rg.append (M := M2) (base := w0.heap.size) Try.underlying23 I3 rfl rfl rfl rfl (ho.step0 s5) hu5 (Le.refl _ _) (by have := comm_len l m i; rw [hno]; simp; omega) (by have := comm_len l m i; rw [hno]; simp; omega) (Nat.le_trans S.size s5.size) (fun v6 M3 w6 ho6 s6 => ?_)
              refine Rg.assign rfl rfl ?_
              refine Rg.nil ?_
              refine T.region ?_ -- region 7
              refine Rg.move rfl rfl ?_
              refine Rg.iadd rfl rfl rfl (by omega) ?_
              refine Rg.assign rfl rfl ?_
              refine Rg.nil ?_
              refine ⟨rfl, (k + 1, _), (.cons rfl (.cons rfl (.cons rfl (.cons rfl (.cons rfl .nil))))), ?_, ?_⟩
              · first
                | exact ⟨by simp only; omega, M3, s6.lt (s5.lt hM2), (S.trans0 s5).transBlk s6 (ho.step0 s5) (Nat.le_refl _), by simp only; rw [c8, hasT_in hy]; rw [hno, List.append_nil, c8] at ho6; exact ho6⟩
                | exact ⟨by simp only; omega, M2, hM2, S, by simp only; rw [hasT_skip hy c8]; exact ho⟩
              · simp only; omega
            · -- c8 False
              refine T.skip ?_
              refine T.region ?_ -- region 7
              refine Rg.move rfl rfl ?_
              refine Rg.iadd rfl rfl rfl (by omega) ?_
              refine Rg.assign rfl rfl ?_
              refine Rg.nil ?_
              refine ⟨rfl, (k + 1, _), (.cons rfl (.cons rfl (.cons rfl (.cons rfl (.cons rfl .nil))))), ?_, ?_⟩
              · first
                | exact ⟨by simp only; omega, M3, s6.lt (s5.lt hM2), (S.trans0 s5).transBlk s6 (ho.step0 s5) (Nat.le_refl _), by simp only; rw [c8, hasT_in hy]; rw [hno, List.append_nil, c8] at ho6; exact ho6⟩
                | exact ⟨by simp only; omega, M2, hM2, S, by simp only; rw [hasT_skip hy c8]; exact ho⟩
              · simp only; omega
        · -- c6 False
          refine T.exit ?_
          refine T.region ?_ -- region 4
          refine Rg.move rfl rfl ?_
          refine Rg.iadd rfl rfl rfl (by omega) ?_
          refine Rg.assign rfl rfl ?_
          refine Rg.nil ?_
          refine ⟨rfl, (i + 1, u1), (.cons rfl (.cons rfl (.cons rfl (.cons rfl .nil)))), ?_, ?_⟩
          · refine ⟨by simp only; omega, M2, hM2, S, ?_⟩
            simp only
            rw [comm_succ hx, hasT_end m k d (by omega)]; exact ho
          · simp only; omega
    · -- c3 False
      refine T.exit ?_
      refine T.seq ?_
      refine T.region ?_ -- region 10
      refine Rg.move rfl rfl ?_
      refine Rg.assign rfl rfl ?_
      refine Rg.nil ?_
      refine T.ret ?_
      obtain rfl : i = l.length := by omega
      exact Kret1 rfl rfl ⟨Own.close hM S ho (by have := comm_len l m l.length; omega), S.back⟩

end Go.K

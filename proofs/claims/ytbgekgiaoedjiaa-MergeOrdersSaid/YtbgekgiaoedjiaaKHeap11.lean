/- The walks of Go functions, operation by operation. -/
import Derived.Test.YtbgekgiaoedjiaaKTypes
import Derived.Test.YtbgekgiaoedjiaaKNum
import Derived.Test.YtbgekgiaoedjiaaKBits
import Derived.Test.YtbgekgiaoedjiaaKHp
import Derived.Test.YtbgekgiaoedjiaaKQuiet
import Derived.Test.YtbgekgiaoedjiaaKHeads
import Derived.Test.YtbgekgiaoedjiaaProg
namespace Go.K
open Go.Proofs
set_option linter.unusedVariables false
set_option linter.unusedSimpArgs false
set_option maxRecDepth 10000

/-- 'container/heap.up' -/
theorem up_spec {M : PSet} {w0 : World} {bh base : Nat} {v : Value} {hs : List Hd} {j : Nat} (h0 : HpS 39 42 M w0 bh base v hs) (hu0 : UpI hs j) (hj0 : j < hs.length) (hl : hs.length ≤ 140737488355328) :
    Spec Try.prog 24 #[.iface 37 (.pointer (some ⟨bh, 0, none⟩)), .int .i64 j] w0 (fun v' w' => ∃ hs', HpS 39 42 M w' bh base v hs' ∧ IsHp hs' ∧ hs'.Perm hs ∧ Step M w0 M w' (blk v)) := by
  refine spec_of (args := [_, _]) (fn := Try.f24) Try.func24 rfl (n := 23) Try.ntmps24 ?_
  refine T.block ?_
  refine T.loop (σ := Nat × List Hd) (fun s => [(0, .iface 37 (.pointer (some ⟨bh, 0, none⟩))), (1, .int .i64 s.1)]) (fun s w => HpS 39 42 M w bh base v s.2 ∧ UpI s.2 s.1 ∧ s.1 < s.2.length ∧ s.2.length = hs.length ∧ s.2.Perm hs ∧ Step M w0 M w (blk v)) (fun s => s.1) (j, hs) (.cons rfl (.cons rfl .nil)) ?_ ?_ -- loop 0
  · exact ⟨h0, hu0, hj0, rfl, List.Perm.refl _, (Step.refl _ _).widen (fun _ h => h.elim) (fun b hb => h0.o.mut_ b hb)⟩
  · rintro ⟨k, xs⟩ w1 ⟨h, hu, hk, hxl, hp, S⟩
    dsimp only at h hu hk hxl hp ⊢
    refine T.block ?_
    refine T.seq ?_
    refine T.region ?_ -- region 0
    refine Rg.move rfl rfl ?_
    refine Rg.isub rfl rfl rfl (by omega) ?_
    refine Rg.par rfl rfl rfl (by omega) ?_
    obtain ⟨i, hi⟩ : ∃ i : Nat, i = (k - 1) / 2 := ⟨_, rfl⟩
    rw [← hi]
    refine Rg.assign rfl rfl ?_
    refine Rg.nil ?_
    refine T.seq ?_
    refine T.seq ?_
    refine T.region ?_ -- region 1
    refine Rg.move rfl rfl ?_
    refine Rg.move rfl rfl ?_
    refine Rg.ieq rfl rfl rfl ?_
    refine Rg.move rfl rfl ?_
    refine Rg.gsplitp (g := 11) rfl (fun g1_3 => ?_) (fun g1_3 => ?_)
    · -- g1_3 True
      refine Rg.gno rfl rfl rfl rfl ?_
      refine Rg.gno rfl rfl rfl rfl ?_
      refine Rg.gno rfl rfl rfl rfl ?_
      refine Rg.gno rfl rfl rfl rfl ?_
      refine Rg.gno rfl rfl rfl rfl ?_
      refine Rg.pickt rfl rfl rfl ?_
      refine Rg.nil ?_
      refine T.ift rfl ?_
      refine T.exit ?_
      first | refine EndP.nil ?_ | simp +decide only [Kseq, Kblock, if_true, if_false] | skip
      first
      | exact Kret0n rfl ⟨xs, h, hu.done (.inl (by omega)), hp, S⟩
      | exact Kret0n rfl ⟨xs, h, hu.done (.inr (by rw [← hi]; omega)), hp, S⟩
    · -- g1_3 False
      refine Rg.gyes rfl rfl ?_
      refine Rg.move rfl rfl ?_
      refine Rg.gyes rfl rfl ?_
      refine Rg.move rfl rfl ?_
      refine Rg.gyes rfl rfl ?_
      refine Rg.move rfl rfl ?_
      refine Rg.gyes rfl rfl ?_
      refine Rg.invoke rfl rfl rfl (mLess.load Try.underlying37 Try.underlying39 rfl h.h rfl) E47 (Less_spec (i := k) (j := i) (h.view (by omega)) (by omega) (by omega)) (fun r w2 hq => ?_)
      obtain ⟨rfl, sq⟩ := hq
      have h := h.step0 (sq.any M)
      replace S := S.trans0 (sq.any M)
      refine Rg.gyes rfl rfl ?_
      refine Rg.not rfl rfl ?_
      refine Rg.eqv (v' := .bool (decide (¬ (hn xs k < hn xs i)))) (by rw [decide_not]) ?_
      refine Rg.pickf rfl rfl rfl ?_
      refine Rg.nil ?_
      refine T.ifp rfl (fun c1 => ?_) (fun c1 => ?_)
      · -- c1 True
        refine T.exit ?_
        first | refine EndP.nil ?_ | simp +decide only [Kseq, Kblock, if_true, if_false] | skip
        first
        | exact Kret0n rfl ⟨xs, h, hu.done (.inl (by omega)), hp, S⟩
        | exact Kret0n rfl ⟨xs, h, hu.done (.inr (by rw [← hi]; omega)), hp, S⟩
      · -- c1 False
        have hlt := Decidable.not_not.1 c1
        refine T.skip ?_
        refine T.seq ?_
        refine T.region ?_ -- region 2
        refine Rg.move rfl rfl ?_
        refine Rg.move rfl rfl ?_
        refine Rg.move rfl rfl ?_
        refine Rg.invoke rfl rfl rfl (mSwap.load Try.underlying37 Try.underlying39 rfl h.h rfl) E50 (Swap_spec (i := i) (j := k) h.o h.nn (by omega) (by omega)) (fun r w3 hq => ?_)
        obtain ⟨ho, sq⟩ := hq
        have h2 := h.wrote sq ho
        have S2 := S.trans sq (fun _ _ h => h)
        refine Rg.nil ?_
        refine T.region ?_ -- region 3
        refine Rg.move rfl rfl ?_
        refine Rg.assign rfl rfl ?_
        refine Rg.nil ?_
        refine ⟨rfl, (i, swp xs i k), (.cons rfl (.cons rfl .nil)), ?_, ?_⟩
        · refine ⟨h2, ?_, by rw [swp_len]; simp only; omega, by rw [swp_len]; exact hxl, (swp_perm (by omega) hk).trans hp, S2⟩
          simp only
          rw [hi]
          exact hu.swap hk (by omega) (by rw [← hi]; exact hlt)
        · simp only; omega

/-- 'container/heap.down' -/
theorem down_spec {M : PSet} {w0 : World} {bh base : Nat} {v : Value} {hs : List Hd} {n : Nat} (h0 : HpS 39 42 M w0 bh base v hs) (hd0 : DnI hs n 0) (hn0 : n ≤ hs.length) (hl : hs.length ≤ 140737488355328) :
    Spec Try.prog 25 #[.iface 37 (.pointer (some ⟨bh, 0, none⟩)), .int .i64 0, .int .i64 n] w0 (fun v' w' => ∃ hs', HpS 39 42 M w' bh base v hs' ∧ (∀ k, 0 < k → k < n → hn hs' ((k - 1) / 2) ≤ hn hs' k) ∧ hs'.Perm hs ∧ (∀ k, n ≤ k → hs'.getD k (0, 0, 0) = hs.getD k (0, 0, 0)) ∧ Step M w0 M w' (blk v)) := by
  refine spec_of (args := [_, _, _]) (fn := Try.f25) Try.func25 rfl (n := 48) Try.ntmps25 ?_
  refine T.seq ?_
  refine T.region ?_ -- region 0
  refine Rg.assign rfl rfl ?_
  refine Rg.nil ?_
  refine T.seq ?_
  refine T.region ?_ -- region 1
  refine Rg.move rfl rfl ?_
  refine Rg.assign rfl rfl ?_
  refine Rg.nil ?_
  refine T.seq ?_
  refine T.block ?_
  refine T.loop (σ := Nat × List Hd) (fun s => [(0, .iface 37 (.pointer (some ⟨bh, 0, none⟩))), (1, .int .i64 0), (2, .int .i64 n), (7, .int .i64 s.1)]) (fun s w => HpS 39 42 M w bh base v s.2 ∧ DnI s.2 n s.1 ∧ s.1 ≤ n ∧ s.2.length = hs.length ∧ s.2.Perm hs ∧ (∀ k, n ≤ k → s.2.getD k (0, 0, 0) = hs.getD k (0, 0, 0)) ∧ Step M w0 M w (blk v)) (fun s => n - s.1) (0, hs) (.cons rfl (.cons rfl (.cons rfl (.cons rfl .nil)))) ?_ ?_ -- loop 0
  · exact ⟨h0, hd0, Nat.zero_le _, rfl, List.Perm.refl _, fun _ _ => rfl, (Step.refl _ _).widen (fun _ h => h.elim) (fun b hb => h0.o.mut_ b hb)⟩
  · rintro ⟨i, xs⟩ w1 ⟨h, hd, hin, hxl, hp, hk, S⟩
    dsimp only at h hd hin hxl hp hk ⊢
    refine T.block ?_
    refine T.seq ?_
    refine T.region ?_ -- region 2
    refine Rg.move rfl rfl ?_
    refine Rg.imul rfl rfl rfl (by omega) ?_
    refine Rg.iadd rfl rfl rfl (by omega) ?_
    refine Rg.eqv (v' := .int .i64 ((2 * i + 1 : Nat) : Int)) (congrArg _ (by omega)) ?_
    refine Rg.assign rfl rfl ?_
    refine Rg.nil ?_
    refine T.seq ?_
    refine T.seq ?_
    refine T.region ?_ -- region 3
    refine Rg.move rfl rfl ?_
    refine Rg.move rfl rfl ?_
    refine Rg.ige rfl rfl rfl ?_
    refine Rg.move rfl rfl ?_
    refine Rg.gsplitp (g := 18) rfl (fun g3_3 => ?_) (fun g3_3 => ?_)
    · -- g3_3 True
      refine Rg.gno rfl rfl rfl rfl ?_
      refine Rg.gno rfl rfl rfl rfl ?_
      refine Rg.pickt rfl rfl rfl ?_
      refine Rg.nil ?_
      refine T.ift rfl ?_
      refine T.exit ?_
      refine T.seq ?_
      refine T.region ?_ -- region 11
      refine Rg.move rfl rfl ?_
      refine Rg.move rfl rfl ?_
      refine Rg.igt rfl rfl rfl ?_
      refine Rg.assign rfl rfl ?_
      refine Rg.nil ?_
      refine T.ret ?_
      first
      | exact Kret1 rfl rfl ⟨xs, h, hd.leaf (by omega), hp, hk, S⟩
      | exact Kret1 rfl rfl ⟨xs, h, hd.stay hj12 hmn (by omega), hp, hk, S⟩
    · -- g3_3 False
      refine Rg.gyes rfl rfl ?_
      refine Rg.move rfl rfl ?_
      refine Rg.gyes rfl rfl ?_
      refine Rg.ilt rfl rfl rfl ?_
      refine Rg.pickf rfl rfl rfl ?_
      refine Rg.nil ?_
      refine T.iffp rfl ((by omega)) ?_
      refine T.skip ?_
      refine T.seq ?_
      refine T.region ?_ -- region 4
      refine Rg.move rfl rfl ?_
      refine Rg.assign rfl rfl ?_
      refine Rg.nil ?_
      refine T.seq ?_
      refine T.seq ?_
      refine T.region ?_ -- region 5
      refine Rg.move rfl rfl ?_
      refine Rg.iadd rfl rfl rfl (by omega) ?_
      refine Rg.eqv (v' := .int .i64 ((2 * i + 2 : Nat) : Int)) (congrArg _ (by omega)) ?_
      refine Rg.assign rfl rfl ?_
      refine Rg.nil ?_
      refine T.seq ?_
      refine T.region ?_ -- region 6
      refine Rg.move rfl rfl ?_
      refine Rg.move rfl rfl ?_
      refine Rg.ilt rfl rfl rfl ?_
      refine Rg.move rfl rfl ?_
      refine Rg.gsplitp (g := 28) rfl (fun g6_3 => ?_) (fun g6_3 => ?_)
      · -- g6_3 True
        refine Rg.gyes rfl rfl ?_
        refine Rg.move rfl rfl ?_
        refine Rg.gyes rfl rfl ?_
        refine Rg.move rfl rfl ?_
        refine Rg.gyes rfl rfl ?_
        refine Rg.move rfl rfl ?_
        refine Rg.gyes rfl rfl ?_
        refine Rg.invoke rfl rfl rfl (mLess.load Try.underlying37 Try.underlying39 rfl h.h rfl) E47 (Less_spec (i := 2 * i + 2) (j := 2 * i + 1) (h.view (by omega)) (by omega) (by omega)) (fun r w2 hq => ?_)
        obtain ⟨rfl, sq⟩ := hq
        have h := h.step0 (sq.any M)
        replace S := S.trans0 (sq.any M)
        refine Rg.pickt rfl rfl rfl ?_
        refine Rg.nil ?_
        refine T.ifp rfl (fun c6 => ?_) (fun c6 => ?_)
        · -- c6 True
          obtain ⟨j, hj⟩ : ∃ j : Nat, j = 2 * i + 2 := ⟨_, rfl⟩
          have hj12 : j = 2 * i + 1 ∨ j = 2 * i + 2 := by omega
          have hjn : j < n := by omega
          have hmn : ∀ k, (k = 2 * i + 1 ∨ k = 2 * i + 2) → k < n → hn xs j ≤ hn xs k := fun k hk hkn => by
            rcases hk with e | e
            · rw [e, hj]; omega
            · rw [e, hj]; exact Int.le_refl _
          refine T.region ?_ -- region 7
          refine Rg.move rfl rfl ?_
          refine Rg.assign rfl rfl ?_
          refine Rg.nil ?_
          refine T.seq ?_
          refine T.seq ?_
          refine T.region ?_ -- region 8
          refine Rg.move rfl rfl ?_
          refine Rg.move rfl rfl ?_
          refine Rg.eqv (v' := .int .i64 (j : Int)) (congrArg _ (by omega)) ?_
          refine Rg.move rfl rfl ?_
          refine Rg.invoke rfl rfl rfl (mLess.load Try.underlying37 Try.underlying39 rfl h.h rfl) E47 (Less_spec (i := j) (j := i) (h.view (by omega)) (by omega) (by omega)) (fun r w3 hq => ?_)
          obtain ⟨rfl, sq⟩ := hq
          have h := h.step0 (sq.any M)
          replace S := S.trans0 (sq.any M)
          refine Rg.not rfl rfl ?_
          refine Rg.eqv (v' := .bool (decide (¬ (hn xs j < hn xs i)))) (by rw [decide_not]) ?_
          refine Rg.nil ?_
          refine T.ifp rfl (fun c8 => ?_) (fun c8 => ?_)
          · -- c8 True
            refine T.exit ?_
            refine T.seq ?_
            refine T.region ?_ -- region 11
            refine Rg.move rfl rfl ?_
            refine Rg.move rfl rfl ?_
            refine Rg.igt rfl rfl rfl ?_
            refine Rg.assign rfl rfl ?_
            refine Rg.nil ?_
            refine T.ret ?_
            first
            | exact Kret1 rfl rfl ⟨xs, h, hd.leaf (by omega), hp, hk, S⟩
            | exact Kret1 rfl rfl ⟨xs, h, hd.stay hj12 hmn (by omega), hp, hk, S⟩
          · -- c8 False
            have hlt := Decidable.not_not.1 c8
            refine T.skip ?_
            refine T.seq ?_
            refine T.region ?_ -- region 9
            refine Rg.move rfl rfl ?_
            refine Rg.move rfl rfl ?_
            refine Rg.move rfl rfl ?_
            refine Rg.eqv (v' := .int .i64 (j : Int)) (congrArg _ (by omega)) ?_
            refine Rg.invoke rfl rfl rfl (mSwap.load Try.underlying37 Try.underlying39 rfl h.h rfl) E50 (Swap_spec (i := i) (j := j) h.o h.nn (by omega) (by omega)) (fun r w4 hq => ?_)
            obtain ⟨ho, sq⟩ := hq
            have h2 := h.wrote sq ho
            have S2 := S.trans sq (fun _ _ h => h)
            refine Rg.nil ?_
            refine T.region ?_ -- region 10
            refine Rg.move rfl rfl ?_
            refine Rg.eqv (v' := .int .i64 (j : Int)) (congrArg _ (by omega)) ?_
            refine Rg.assign rfl rfl ?_
            refine Rg.nil ?_
            refine ⟨rfl, (j, swp xs i j), (.cons rfl (.cons rfl (.cons rfl (.cons rfl .nil)))), ?_, ?_⟩
            · refine ⟨h2, hd.swap (by omega) hjn hj12 hmn hlt, by simp only; omega, by simp only; rw [swp_len]; exact hxl, (swp_perm (by omega) (by omega)).trans hp, fun k hkn => ?_, S2⟩
              simp only
              rw [swp_getD (by omega) (by omega), if_neg (by omega), if_neg (by omega)]
              exact hk k hkn
            · simp only; omega
        · -- c6 False
          obtain ⟨j, hj⟩ : ∃ j : Nat, j = 2 * i + 1 := ⟨_, rfl⟩
          have hj12 : j = 2 * i + 1 ∨ j = 2 * i + 2 := by omega
          have hjn : j < n := by omega
          have hmn : ∀ k, (k = 2 * i + 1 ∨ k = 2 * i + 2) → k < n → hn xs j ≤ hn xs k := fun k hk hkn => by
            rcases hk with e | e
            · rw [e, hj]; exact Int.le_refl _
            · rw [e, hj]; exact Int.not_lt.1 c6
          refine T.skip ?_
          refine T.seq ?_
          refine T.seq ?_
          refine T.region ?_ -- region 8
          refine Rg.move rfl rfl ?_
          refine Rg.move rfl rfl ?_
          refine Rg.eqv (v' := .int .i64 (j : Int)) (congrArg _ (by omega)) ?_
          refine Rg.move rfl rfl ?_
          refine Rg.invoke rfl rfl rfl (mLess.load Try.underlying37 Try.underlying39 rfl h.h rfl) E47 (Less_spec (i := j) (j := i) (h.view (by omega)) (by omega) (by omega)) (fun r w3 hq => ?_)
          obtain ⟨rfl, sq⟩ := hq
          have h := h.step0 (sq.any M)
          replace S := S.trans0 (sq.any M)
          refine Rg.not rfl rfl ?_
          refine Rg.eqv (v' := .bool (decide (¬ (hn xs j < hn xs i)))) (by rw [decide_not]) ?_
          refine Rg.nil ?_
          refine T.ifp rfl (fun c8 => ?_) (fun c8 => ?_)
          · -- c8 True
            refine T.exit ?_
            refine T.seq ?_
            refine T.region ?_ -- region 11
            refine Rg.move rfl rfl ?_
            refine Rg.move rfl rfl ?_
            refine Rg.igt rfl rfl rfl ?_
            refine Rg.assign rfl rfl ?_
            refine Rg.nil ?_
            refine T.ret ?_
            first
            | exact Kret1 rfl rfl ⟨xs, h, hd.leaf (by omega), hp, hk, S⟩
            | exact Kret1 rfl rfl ⟨xs, h, hd.stay hj12 hmn (by omega), hp, hk, S⟩
          · -- c8 False
            have hlt := Decidable.not_not.1 c8
            refine T.skip ?_
            refine T.seq ?_
            refine T.region ?_ -- region 9
            refine Rg.move rfl rfl ?_
            refine Rg.move rfl rfl ?_
            refine Rg.move rfl rfl ?_
            refine Rg.eqv (v' := .int .i64 (j : Int)) (congrArg _ (by omega)) ?_
            refine Rg.invoke rfl rfl rfl (mSwap.load Try.underlying37 Try.underlying39 rfl h.h rfl) E50 (Swap_spec (i := i) (j := j) h.o h.nn (by omega) (by omega)) (fun r w4 hq => ?_)
            obtain ⟨ho, sq⟩ := hq
            have h2 := h.wrote sq ho
            have S2 := S.trans sq (fun _ _ h => h)
            refine Rg.nil ?_
            refine T.region ?_ -- region 10
            refine Rg.move rfl rfl ?_
            refine Rg.eqv (v' := .int .i64 (j : Int)) (congrArg _ (by omega)) ?_
            refine Rg.assign rfl rfl ?_
            refine Rg.nil ?_
            refine ⟨rfl, (j, swp xs i j), (.cons rfl (.cons rfl (.cons rfl (.cons rfl .nil)))), ?_, ?_⟩
            · refine ⟨h2, hd.swap (by omega) hjn hj12 hmn hlt, by simp only; omega, by simp only; rw [swp_len]; exact hxl, (swp_perm (by omega) (by omega)).trans hp, fun k hkn => ?_, S2⟩
              simp only
              rw [swp_getD (by omega) (by omega), if_neg (by omega), if_neg (by omega)]
              exact hk k hkn
            · simp only; omega
      · -- g6_3 False
        obtain ⟨j, hj⟩ : ∃ j : Nat, j = 2 * i + 1 := ⟨_, rfl⟩
        have hj12 : j = 2 * i + 1 ∨ j = 2 * i + 2 := by omega
        have hjn : j < n := by omega
        have hmn : ∀ k, (k = 2 * i + 1 ∨ k = 2 * i + 2) → k < n → hn xs j ≤ hn xs k := fun k hk hkn => by
          rcases hk with e | e
          · rw [e, hj]; exact Int.le_refl _
          · omega
        refine Rg.gno rfl rfl rfl rfl ?_
        refine Rg.gno rfl rfl rfl rfl ?_
        refine Rg.gno rfl rfl rfl rfl ?_
        refine Rg.gno rfl rfl rfl rfl ?_
        refine Rg.pickf rfl rfl rfl ?_
        refine Rg.nil ?_
        refine T.iff rfl ?_
        refine T.skip ?_
        refine T.seq ?_
        refine T.seq ?_
        refine T.region ?_ -- region 8
        refine Rg.move rfl rfl ?_
        refine Rg.move rfl rfl ?_
        refine Rg.eqv (v' := .int .i64 (j : Int)) (congrArg _ (by omega)) ?_
        refine Rg.move rfl rfl ?_
        refine Rg.invoke rfl rfl rfl (mLess.load Try.underlying37 Try.underlying39 rfl h.h rfl) E47 (Less_spec (i := j) (j := i) (h.view (by omega)) (by omega) (by omega)) (fun r w3 hq => ?_)
        obtain ⟨rfl, sq⟩ := hq
        have h := h.step0 (sq.any M)
        replace S := S.trans0 (sq.any M)
        refine Rg.not rfl rfl ?_
        refine Rg.eqv (v' := .bool (decide (¬ (hn xs j < hn xs i)))) (by rw [decide_not]) ?_
        refine Rg.nil ?_
        refine T.ifp rfl (fun c8 => ?_) (fun c8 => ?_)
        · -- c8 True
          refine T.exit ?_
          refine T.seq ?_
          refine T.region ?_ -- region 11
          refine Rg.move rfl rfl ?_
          refine Rg.move rfl rfl ?_
          refine Rg.igt rfl rfl rfl ?_
          refine Rg.assign rfl rfl ?_
          refine Rg.nil ?_
          refine T.ret ?_
          first
          | exact Kret1 rfl rfl ⟨xs, h, hd.leaf (by omega), hp, hk, S⟩
          | exact Kret1 rfl rfl ⟨xs, h, hd.stay hj12 hmn (by omega), hp, hk, S⟩
        · -- c8 False
          have hlt := Decidable.not_not.1 c8
          refine T.skip ?_
          refine T.seq ?_
          refine T.region ?_ -- region 9
          refine Rg.move rfl rfl ?_
          refine Rg.move rfl rfl ?_
          refine Rg.move rfl rfl ?_
          refine Rg.eqv (v' := .int .i64 (j : Int)) (congrArg _ (by omega)) ?_
          refine Rg.invoke rfl rfl rfl (mSwap.load Try.underlying37 Try.underlying39 rfl h.h rfl) E50 (Swap_spec (i := i) (j := j) h.o h.nn (by omega) (by omega)) (fun r w4 hq => ?_)
          obtain ⟨ho, sq⟩ := hq
          have h2 := h.wrote sq ho
          have S2 := S.trans sq (fun _ _ h => h)
          refine Rg.nil ?_
          refine T.region ?_ -- region 10
          refine Rg.move rfl rfl ?_
          refine Rg.eqv (v' := .int .i64 (j : Int)) (congrArg _ (by omega)) ?_
          refine Rg.assign rfl rfl ?_
          refine Rg.nil ?_
          refine ⟨rfl, (j, swp xs i j), (.cons rfl (.cons rfl (.cons rfl (.cons rfl .nil)))), ?_, ?_⟩
          · refine ⟨h2, hd.swap (by omega) hjn hj12 hmn hlt, by simp only; omega, by simp only; rw [swp_len]; exact hxl, (swp_perm (by omega) (by omega)).trans hp, fun k hkn => ?_, S2⟩
            simp only
            rw [swp_getD (by omega) (by omega), if_neg (by omega), if_neg (by omega)]
            exact hk k hkn
          · simp only; omega

/-- 'container/heap.Push' -/
theorem Push_spec {M : PSet} {w0 : World} {bh base : Nat} {v : Value} {hs : List Hd} {a b c : Int} (hM : Lt M w0) (h : HpS 39 42 M w0 bh base v hs) (hh : IsHp hs) (ra : i64r a) (rb : i64r b) (rc : i64r c) (hl : hs.length ≤ 1099511627776) :
    Spec Try.prog 14 #[.iface 37 (.pointer (some ⟨bh, 0, none⟩)), .iface 42 (.agg #[.int .i64 a, .int .i64 b, .int .i64 c])] w0 (fun v' w' => ∃ M' v2 hs', HpS 39 42 M' w' bh base v2 hs' ∧ IsHp hs' ∧ hs'.Perm (hs ++ [(a, b, c)]) ∧ Lt M' w' ∧ Step M w0 M' w' (NB 42 M w0 bh base)) := by
  refine spec_of (args := [_, _]) (fn := Try.f14) Try.func14 rfl (n := 12) Try.ntmps14 ?_
  refine T.seq ?_
  refine T.region ?_ -- region 0
  refine Rg.move rfl rfl ?_
  refine Rg.move rfl rfl ?_
  refine Rg.invoke rfl rfl rfl (mPush.ptr Try.underlying37 _) E49 (hPush_spec hM h ra rb rc hl) (fun r w1 hq => ?_)
  obtain ⟨M1, v1, h1, hM1, s1⟩ := hq
  refine Rg.nil ?_
  refine T.region ?_ -- region 1
  refine Rg.move rfl rfl ?_
  refine Rg.move rfl rfl ?_
  refine Rg.invoke rfl rfl rfl (mLen.load Try.underlying37 Try.underlying39 rfl h1.h rfl) E15 (Len_spec h1.o) (fun r w2 hq => ?_)
  obtain ⟨rfl, rfl⟩ := hq
  have hll : (hs ++ [(a, b, c)]).length = hs.length + 1 := by simp
  refine Rg.isub rfl rfl rfl (by omega) ?_
  refine Rg.eqv (v' := .int .i64 (hs.length : Int)) (congrArg _ (by omega)) ?_
  refine Rg.call rfl rfl E24 (up_spec h1 (UpI.push hh _) (by omega) (by omega)) (fun r2 w3 h => ?_)
  obtain ⟨hs', h2, hh2, hp2, s2⟩ := h
  refine Rg.nil ?_
  first | refine EndP.nil ?_ | simp +decide only [Kseq, Kblock, if_true, if_false] | skip
  exact Kret0n rfl ⟨M1, v1, hs', h2, hh2, hp2, s2.lt hM1, s1.nb (s2.nbw h1)⟩

/-- 'container/heap.Pop' -/
theorem Pop_spec {M : PSet} {w0 : World} {bh base : Nat} {v : Value} {hs : List Hd} (hM : Lt M w0) (h : HpS 39 42 M w0 bh base v hs) (hh : IsHp hs) (hpos : 0 < hs.length) (hl : hs.length ≤ 1099511627776) :
    Spec Try.prog 16 #[.iface 37 (.pointer (some ⟨bh, 0, none⟩))] w0 (fun v' w' => ∃ a b c M' v2 hs', v' = .iface 42 (.agg #[.int .i64 a, .int .i64 b, .int .i64 c]) ∧ (i64r a ∧ i64r b ∧ i64r c) ∧ HpS 39 42 M' w' bh base v2 hs' ∧ IsHp hs' ∧ ((a, b, c) :: hs').Perm hs ∧ (∀ x ∈ hs, a ≤ x.1) ∧ Lt M' w' ∧ Step M w0 M' w' (NB 42 M w0 bh base)) := by
  refine spec_of (args := [_]) (fn := Try.f16) Try.func16 rfl (n := 15) Try.ntmps16 ?_
  refine T.seq ?_
  refine T.region ?_ -- region 0
  refine Rg.assign rfl rfl ?_
  refine Rg.nil ?_
  refine T.seq ?_
  refine T.region ?_ -- region 1
  refine Rg.move rfl rfl ?_
  refine Rg.invoke rfl rfl rfl (mLen.load Try.underlying37 Try.underlying39 rfl h.h rfl) E15 (Len_spec h.o) (fun r w1 hq => ?_)
  obtain ⟨rfl, rfl⟩ := hq
  refine Rg.isub rfl rfl rfl (by omega) ?_
  refine Rg.eqv (v' := .int .i64 ((hs.length - 1 : Nat) : Int)) (congrArg _ (by omega)) ?_
  refine Rg.assign rfl rfl ?_
  refine Rg.nil ?_
  refine T.seq ?_
  refine T.region ?_ -- region 2
  refine Rg.move rfl rfl ?_
  refine Rg.move rfl rfl ?_
  refine Rg.invoke rfl rfl rfl (mSwap.load Try.underlying37 Try.underlying39 rfl h.h rfl) E50 (Swap_spec (i := 0) (j := hs.length - 1) h.o h.nn (by omega) (by omega)) (fun r w2 hq => ?_)
  obtain ⟨ho2, s2⟩ := hq
  have h2 := h.wrote s2 ho2
  have hsl := swp_len hs 0 (hs.length - 1)
  refine Rg.nil ?_
  refine T.seq ?_
  refine T.region ?_ -- region 3
  refine Rg.move rfl rfl ?_
  refine Rg.move rfl rfl ?_
  refine Rg.call rfl rfl E25 (down_spec h2 (DnI.pop hh hpos) (by omega) (by omega)) (fun r3 w3 h => ?_)
  obtain ⟨ys, h3, hdn, hp3, hk3, s3⟩ := h
  have hpp := hp3.trans (swp_perm (xs := hs) (i := 0) (j := hs.length - 1) (by omega) (by omega))
  have hyl := hpp.length_eq
  have hlast : ys.getD (hs.length - 1) (0, 0, 0) = hs.getD 0 (0, 0, 0) := by rw [hk3 _ (Nat.le_refl _), swp_getD (by omega) (by omega), if_pos rfl]
  obtain ⟨⟨a, b, c⟩, hx3⟩ : ∃ x, ys[ys.length - 1]? = some x := ⟨_, List.getElem?_eq_getElem (by omega)⟩
  obtain ⟨x, hxe, hpx⟩ := pop_end hpos hpp hlast
  have hxe2 : x = (a, b, c) := by rw [← hxe, List.getD_eq_getElem?_getD, ← hyl, hx3]; rfl
  subst hxe2
  obtain ⟨vx, hvx⟩ := h3.o.val hx3
  obtain ⟨_, ra, rb, rc⟩ := hd_val hvx
  refine Rg.nil ?_
  refine T.seq ?_
  refine T.region ?_ -- region 4
  refine Rg.move rfl rfl ?_
  refine Rg.invoke rfl rfl rfl (mPop.ptr Try.underlying37 _) E48 (hPop_spec (s3.lt (s2.lt hM)) h3 hx3) (fun r w4 hq => ?_)
  obtain ⟨rfl, M4, v4, h4, hM4, s4⟩ := hq
  refine Rg.assign rfl rfl ?_
  refine Rg.nil ?_
  refine T.ret ?_
  rw [hyl] at h4
  have hmin : ∀ x ∈ hs, a ≤ x.1 := fun x hx => by
    obtain ⟨k, hk, _, hk2⟩ := hn_mem hx
    have := hh.min k hk
    have e0 : hn hs 0 = a := by unfold hn; rw [← hlast, hxe]
    omega
  have sS := ((s2.trans s3 (fun _ _ h => h)).nbw h).nb s4
  exact Kret1 rfl rfl ⟨a, b, c, M4, v4, _, rfl, ⟨ra, rb, rc⟩, h4, IsHp.take (by omega) hdn, hpx, hmin, hM4, sS⟩

end Go.K

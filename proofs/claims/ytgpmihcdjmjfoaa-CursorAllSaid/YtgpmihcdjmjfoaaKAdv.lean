/- The walks of Go functions, operation by operation. -/
import Derived.Test.YtgpmihcdjmjfoaaKTypes
import Derived.Test.YtgpmihcdjmjfoaaKNum
import Derived.Test.YtgpmihcdjmjfoaaKPost
import Derived.Test.YtgpmihcdjmjfoaaKPtr
import Derived.Test.YtgpmihcdjmjfoaaKCur
import Derived.Test.YtgpmihcdjmjfoaaKDraw
import Derived.Test.YtgpmihcdjmjfoaaKPosting
import Derived.Test.YtgpmihcdjmjfoaaKCursor
import Derived.Test.YtgpmihcdjmjfoaaKIdx
import Derived.Test.YtgpmihcdjmjfoaaProg
import Derived.KernelRfl
namespace Go.K
open Go.Proofs
namespace TKAdv
theorem I28 : TI Try.prog 28 (.slice none 0 0) 1 24 := by unfold TI; kernel_rfl -- []api.Posting
theorem I30 : TI Try.prog 30 (.pointer none) 1 8 := by unfold TI; kernel_rfl -- *posting.List
theorem I37 : TI Try.prog 37 (.agg #[(.int .i64 0), (.slice none 0 0)]) 2 32 := by unfold TI; kernel_rfl -- api.Posting
theorem E20 : Enters Try.prog 20 := enters Try.func20 rfl (by decide) -- (*concordance/posting.List).Blocks
theorem E21 : Enters Try.prog 21 := enters Try.func21 rfl (by decide) -- (*concordance/posting.List).Block
theorem E22 : Enters Try.prog 22 := enters Try.func22 rfl (by decide) -- (*concordance/posting.List).Last
theorem E39 : Enters Try.prog 39 := enters Try.func39 rfl (by decide) -- (*concordance/cursor.Cursor).Advance
theorem E67 : Enters Try.prog 67 := enters Try.func67 rfl (by decide) -- slices.IndexFunc[[]concordance/api.Posting,concordance/api.Posting]
end TKAdv
open TKAdv
set_option linter.unusedVariables false
set_option linter.unusedSimpArgs false
set_option maxRecDepth 10000

set_option maxHeartbeats 2000000 in
/-- '(*concordance/cursor.Cursor).Advance' -/
theorem Advance_spec {M : PSet} {w0 : World} {bc : Nat} {l : List Po} {i to : Int} (h : Cu 92 l i M w0 bc) (hM : Lt M w0) (hm : mayPo (-1) l = true) (hps : ∀ p ∈ l, p.2.length ≤ 1099511627776) (hbl : (putPo (-1) l).length ≤ 1099511627776) (hll : l.length ≤ 1099511627776) (hto : -9223372036854775808 ≤ to ∧ to ≤ 9223372036854775807) :
    Spec Try.prog 39 #[.pointer (some ⟨bc, 0, none⟩), .int .i64 to] w0 (fun v' w' => v' = .int .i64 (docAt l (advI l i to)) ∧ Step M w0 M w' (fun b => b = bc) ∧ Cu 92 l (advI l i to) M w' bc) := by
  obtain ⟨p, u, k, cnt, hMb, hb, hp, hu, hi, hk, hk0, hk1⟩ := id h
  have hnb : (mkLi l).2.1.length = (l.length + 7) / 8 := by simp [mkLi, blks]
  have hNb : ∀ b : Nat, b = bc → M b := fun b hb => by rw [hb]; exact hMb
  have hdr := docAt_rng hm i
  refine spec_of (args := [.pointer (some ⟨bc, 0, none⟩), .int .i64 to]) (fn := Try.f39) Try.func39 rfl (n := 107) Try.ntmps39 ?_
  refine T.seq ?_
  refine T.region ?_ -- region 0
  refine Rg.box M rfl rfl (fun bt w1 ht ht' hT s1 => ?_)
  change w1.heap[bt]? = some (.cells #[.int .i64 to] _ _) at hT
  have hbt : bt ≠ bc := by have := lt_of_get hb; omega
  have hb1 := s1.same0 hb
  generalize hM1e : ins M bt = M1 at s1
  have hM1 := s1.lt hM
  have hp1 := hp.le (by decide) s1.le
  have hu1 := hu.le s1.le
  have hMb1 := (s1.mem bc (lt_of_get hb)).2 hMb
  have hcM : ∀ b : Nat, b = bc → M1 b := fun b h => by rw [h]; exact hMb1
  refine Rg.assign rfl rfl ?_
  refine Rg.nil ?_
  refine T.seq ?_
  refine T.seq ?_
  apply T.draw (M := M1) mixed [Asr.eq _, Asr.eq _, Asr.eq _, Asr.eq _, Asr.eq _, Asr.eq _] -- region 1
  · rfl
  · -- its operations
    refine Obls.cons ?_ ?_
    · intro wD E sD -- 0
      refine Rg.loadc Try.underlying3 rfl rfl rfl (Step.same0 sD (by assumption)) rfl ?_
      exact Rg.nil ⟨rfl, rfl, _, rfl, rfl, Step.refl _ _⟩
    refine Obls.cons ?_ ?_
    · intro wD E sD -- 1
      refine Rg.move rfl rfl ?_
      exact Rg.nil ⟨rfl, rfl, _, rfl, rfl, Step.refl _ _⟩
    refine Obls.cons ?_ ?_
    · intro wD E sD -- 2
      intro x_ hx_; have hx_ : x_ = _ := hx_; subst x_
      refine Rg.nilCheck rfl ⟨_, rfl⟩ rfl ?_
      exact Rg.nil ⟨rfl, rfl, _, rfl, rfl, Step.refl _ _⟩
    refine Obls.cons ?_ ?_
    · intro wD E sD -- 3
      intro x_ hx_; have hx_ : x_ = _ := hx_; subst x_
      refine Rg.fieldc Try.underlying92 rfl rfl I3 (by decide) rfl rfl ?_
      exact Rg.nil ⟨rfl, rfl, _, rfl, rfl, Step.refl _ _⟩
    refine Obls.cons ?_ ?_
    · intro wD E sD -- 4
      intro x_ hx_; have hx_ : x_ = _ := hx_; subst x_
      refine Rg.loadc Try.underlying3 rfl rfl rfl (Step.same0 sD (by assumption)) rfl ?_
      exact Rg.nil ⟨rfl, rfl, _, rfl, rfl, Step.refl _ _⟩
    refine Obls.cons ?_ ?_
    · intro wD E sD -- 5
      intro x_ hx_; have hx_ : x_ = _ := hx_; subst x_
      intro x_ hx_; have hx_ : x_ = _ := hx_; subst x_
      refine Rg.ile rfl rfl rfl ?_
      exact Rg.nil ⟨rfl, rfl, _, rfl, rfl, Step.refl _ _⟩
    exact Obls.nil
  · -- behind it
    intro wD1 sD1
    intro x_ hx_; have hx_ : x_ = _ := hx_; subst x_
    intro x_ hx_; have hx_ : x_ = _ := hx_; subst x_
    intro x_ hx_; have hx_ : x_ = _ := hx_; subst x_
    intro x_ hx_; have hx_ : x_ = _ := hx_; subst x_
    intro x_ hx_; have hx_ : x_ = _ := hx_; subst x_
    intro x_ hx_; have hx_ : x_ = _ := hx_; subst x_
    have hb2 := sD1.same0 hb1
    refine T.ifp rfl (fun c1 => ?_) (fun c1 => ?_)
    · -- c1 True
      refine T.seq ?_
      refine T.region ?_ -- region 2
      refine Rg.move rfl rfl ?_
      refine Rg.nilCheck rfl ⟨_, rfl⟩ rfl ?_
      refine Rg.fieldc Try.underlying92 rfl rfl I3 (by decide) rfl rfl ?_
      refine Rg.loadc Try.underlying3 rfl rfl rfl (by assumption) rfl ?_
      refine Rg.assign rfl rfl ?_
      refine Rg.nil ?_
      refine T.ret ?_
      have he : advI l i to = i := by unfold advI; rw [if_pos c1]
      rw [he]
      have S := s1.trans0 sD1
      exact Kret1 rfl rfl ⟨rfl, S.back.widen (fun _ h => h.elim) hNb, h.step S.back (fun h => h)⟩
    · -- c1 False
      refine T.skip ?_
      refine T.seq ?_
      refine T.region ?_ -- region 3
      refine Rg.move rfl rfl ?_
      refine Rg.nilCheck rfl ⟨_, rfl⟩ rfl ?_
      refine Rg.fieldc Try.underlying92 rfl rfl I3 (by decide) rfl rfl ?_
      refine Rg.loadc Try.underlying3 rfl rfl rfl (by assumption) rfl ?_
      refine Rg.max2 rfl rfl rfl ?_
      refine Rg.assign rfl rfl ?_
      refine Rg.nil ?_
      refine T.seq ?_
      refine T.block ?_
      refine T.loop (σ := Nat) (fun s => [(0, .pointer (some ⟨bc, 0, none⟩)), (3, .pointer (some ⟨bt, 0, none⟩)), (5, .int .i64 s)]) (fun s w => s ≤ (l.length + 7) / 8 ∧ lastPo (-1) (l.take (8 * s)) < to ∧ Step M1 w1 M1 w none') (fun s => (l.length + 7) / 8 - s) (max k 0).toNat (.cons rfl (.cons rfl (.cons (by rw [show (((max k 0).toNat : Nat) : Int) = max k 0 from by omega]; rfl) .nil))) ?_ ?_ -- loop 0
      · exact ⟨by omega, adv_start hm hi hk hk0 hk1 (by omega), sD1⟩
      · rintro n w4 ⟨hn, hlo, S4⟩
        have hb4 := S4.same0 hb1
        have hT4 := S4.same0 hT
        have hp4 := hp1.le (by decide) S4.le
        refine T.seq ?_
        refine T.seq ?_
        by_cases g4_7 : (n : Int) < (((l.length + 7) / 8 : Nat) : Int)
        · -- g4_7 True
          apply T.draw (M := M1) mixed [Asr.eq _, Asr.eq _, Asr.eq _, Asr.eq _, Asr.eq _, Asr.eq _, Asr.eq _, Asr.eq (.bool true), Asr.eq _, Asr.eq _, Asr.eq _, Asr.eq _, Asr.eq _, Asr.eq _, Asr.eq _, Asr.eq _, Asr.eq _] -- region 4
          · rfl
          · -- its operations
            refine Obls.cons ?_ ?_
            · intro wD E sD -- 0
              refine Rg.move rfl rfl ?_
              exact Rg.nil ⟨rfl, rfl, _, rfl, rfl, Step.refl _ _⟩
            refine Obls.cons ?_ ?_
            · intro wD E sD -- 1
              refine Rg.move rfl rfl ?_
              exact Rg.nil ⟨rfl, rfl, _, rfl, rfl, Step.refl _ _⟩
            refine Obls.cons ?_ ?_
            · intro wD E sD -- 2
              intro x_ hx_; have hx_ : x_ = _ := hx_; subst x_
              refine Rg.nilCheck rfl ⟨_, rfl⟩ rfl ?_
              exact Rg.nil ⟨rfl, rfl, _, rfl, rfl, Step.refl _ _⟩
            refine Obls.cons ?_ ?_
            · intro wD E sD -- 3
              intro x_ hx_; have hx_ : x_ = _ := hx_; subst x_
              refine Rg.fieldc Try.underlying92 rfl rfl I30 (by decide) rfl rfl ?_
              exact Rg.nil ⟨rfl, rfl, _, rfl, rfl, Step.refl _ _⟩
            refine Obls.cons ?_ ?_
            · intro wD E sD -- 4
              intro x_ hx_; have hx_ : x_ = _ := hx_; subst x_
              refine Rg.loadc Try.underlying30 rfl rfl rfl (Step.same0 sD (by assumption)) rfl ?_
              exact Rg.nil ⟨rfl, rfl, _, rfl, rfl, Step.refl _ _⟩
            refine Obls.cons ?_ ?_
            · intro wD E sD -- 5
              intro x_ hx_; have hx_ : x_ = _ := hx_; subst x_
              refine Rg.call rfl rfl E20 (Blocks_spec (M := M1) (hp4.le (by decide) sD.le)) (fun r wc h => ?_)
              obtain ⟨rfl, rfl⟩ := h
              exact Rg.nil ⟨rfl, rfl, _, rfl, congrArg (fun n : Nat => Value.int .i64 n) hnb, Step.refl _ _⟩
            refine Obls.cons ?_ ?_
            · intro wD E sD -- 6
              intro x_ hx_; have hx_ : x_ = _ := hx_; subst x_
              intro x_ hx_; have hx_ : x_ = _ := hx_; subst x_
              refine Rg.ilt rfl rfl rfl ?_
              exact Rg.nil ⟨rfl, rfl, _, rfl, rfl, Step.refl _ _⟩
            refine Obls.cons ?_ ?_
            · intro wD E sD -- 7
              intro x_ hx_; have hx_ : x_ = _ := hx_; subst x_
              intro x_ hx_; have hx_ : x_ = _ := hx_; subst x_
              refine Rg.move rfl rfl ?_
              refine Rg.nil ⟨rfl, rfl, _, rfl, ?_, Step.refl _ _⟩
              exact congrArg Value.bool (decide_eq_true g4_7)
            refine Obls.cons ?_ ?_
            · intro wD E sD -- 8
              intro x_ hx_; have hx_ : x_ = _ := hx_; subst x_
              refine Rg.gyes rfl rfl ?_
              refine Rg.move rfl rfl ?_
              exact Rg.nil ⟨rfl, rfl, _, rfl, rfl, Step.refl _ _⟩
            refine Obls.cons ?_ ?_
            · intro wD E sD -- 9
              intro x_ hx_; have hx_ : x_ = _ := hx_; subst x_
              intro x_ hx_; have hx_ : x_ = _ := hx_; subst x_
              refine Rg.gyes rfl rfl ?_
              refine Rg.nilCheck rfl ⟨_, rfl⟩ rfl ?_
              exact Rg.nil ⟨rfl, rfl, _, rfl, rfl, Step.refl _ _⟩
            refine Obls.cons ?_ ?_
            · intro wD E sD -- 10
              intro x_ hx_; have hx_ : x_ = _ := hx_; subst x_
              intro x_ hx_; have hx_ : x_ = _ := hx_; subst x_
              refine Rg.gyes rfl rfl ?_
              refine Rg.fieldc Try.underlying92 rfl rfl I30 (by decide) rfl rfl ?_
              exact Rg.nil ⟨rfl, rfl, _, rfl, rfl, Step.refl _ _⟩
            refine Obls.cons ?_ ?_
            · intro wD E sD -- 11
              intro x_ hx_; have hx_ : x_ = _ := hx_; subst x_
              intro x_ hx_; have hx_ : x_ = _ := hx_; subst x_
              refine Rg.gyes rfl rfl ?_
              refine Rg.loadc Try.underlying30 rfl rfl rfl (Step.same0 sD (by assumption)) rfl ?_
              exact Rg.nil ⟨rfl, rfl, _, rfl, rfl, Step.refl _ _⟩
            refine Obls.cons ?_ ?_
            · intro wD E sD -- 12
              intro x_ hx_; have hx_ : x_ = _ := hx_; subst x_
              refine Rg.gyes rfl rfl ?_
              refine Rg.move rfl rfl ?_
              exact Rg.nil ⟨rfl, rfl, _, rfl, rfl, Step.refl _ _⟩
            refine Obls.cons ?_ ?_
            · intro wD E sD -- 13
              intro x_ hx_; have hx_ : x_ = _ := hx_; subst x_
              intro x_ hx_; have hx_ : x_ = _ := hx_; subst x_
              intro x_ hx_; have hx_ : x_ = _ := hx_; subst x_
              intro x_ hx_; have hx_ : x_ = _ := hx_; subst x_
              refine Rg.gyes rfl rfl ?_
              refine Rg.call rfl rfl E22 (Last_spec (k := n) (hp4.le (by decide) sD.le)) (fun r wc h => ?_)
              obtain ⟨rfl, rfl⟩ := h
              exact Rg.nil ⟨rfl, rfl, _, rfl, rfl, Step.refl _ _⟩
            refine Obls.cons ?_ ?_
            · intro wD E sD -- 14
              intro x_ hx_; have hx_ : x_ = _ := hx_; subst x_
              refine Rg.gyes rfl rfl ?_
              refine Rg.loadc Try.underlying3 rfl rfl rfl (Step.same0 sD (by assumption)) rfl ?_
              exact Rg.nil ⟨rfl, rfl, _, rfl, rfl, Step.refl _ _⟩
            refine Obls.cons ?_ ?_
            · intro wD E sD -- 15
              intro x_ hx_; have hx_ : x_ = _ := hx_; subst x_
              intro x_ hx_; have hx_ : x_ = _ := hx_; subst x_
              intro x_ hx_; have hx_ : x_ = _ := hx_; subst x_
              refine Rg.gyes rfl rfl ?_
              refine Rg.ilt rfl rfl rfl ?_
              exact Rg.nil ⟨rfl, rfl, _, rfl, rfl, Step.refl _ _⟩
            refine Obls.cons ?_ ?_
            · intro wD E sD -- 16
              intro x_ hx_; have hx_ : x_ = _ := hx_; subst x_
              intro x_ hx_; have hx_ : x_ = _ := hx_; subst x_
              refine Rg.pickt rfl rfl rfl ?_
              exact Rg.nil ⟨rfl, rfl, _, rfl, rfl, Step.refl _ _⟩
            exact Obls.nil
          · -- behind it
            intro wD4 sD4
            intro x_ hx_; have hx_ : x_ = _ := hx_; subst x_
            intro x_ hx_; have hx_ : x_ = _ := hx_; subst x_
            intro x_ hx_; have hx_ : x_ = _ := hx_; subst x_
            intro x_ hx_; have hx_ : x_ = _ := hx_; subst x_
            intro x_ hx_; have hx_ : x_ = _ := hx_; subst x_
            intro x_ hx_; have hx_ : x_ = _ := hx_; subst x_
            intro x_ hx_; have hx_ : x_ = _ := hx_; subst x_
            intro x_ hx_; have hx_ : x_ = _ := hx_; subst x_
            intro x_ hx_; have hx_ : x_ = _ := hx_; subst x_
            intro x_ hx_; have hx_ : x_ = _ := hx_; subst x_
            intro x_ hx_; have hx_ : x_ = _ := hx_; subst x_
            intro x_ hx_; have hx_ : x_ = _ := hx_; subst x_
            intro x_ hx_; have hx_ : x_ = _ := hx_; subst x_
            intro x_ hx_; have hx_ : x_ = _ := hx_; subst x_
            intro x_ hx_; have hx_ : x_ = _ := hx_; subst x_
            intro x_ hx_; have hx_ : x_ = _ := hx_; subst x_
            intro x_ hx_; have hx_ : x_ = _ := hx_; subst x_
            replace S4 := S4.trans0 sD4
            replace hb4 := sD4.same0 hb4
            replace hT4 := sD4.same0 hT4
            replace hp4 := hp4.le (by decide) sD4.le
            have hM4 := S4.lt hM1
            refine T.ifp rfl (fun c4 => ?_) (fun c4 => ?_)
            · -- c4 True
              refine T.skip ?_
              refine T.block ?_
              refine T.region ?_ -- region 5
              refine Rg.move rfl rfl ?_
              refine Rg.iadd rfl rfl rfl (by omega) ?_
              refine Rg.assign rfl rfl ?_
              refine Rg.nil ?_
              refine ⟨rfl, n + 1, (.cons rfl (.cons rfl (.cons rfl .nil))), ?_, ?_⟩
              · have hlm := lastB_mk (g := l) (k := n) (by omega)
                refine ⟨by omega, ?_, S4⟩
                rw [show 8 * (n + 1) = 8 * n + 8 from by omega, ← hlm]; exact c4
              · show _ - (n + 1) < _ - n; omega
            · -- c4 False
              refine T.exit ?_
              refine T.seq ?_
              refine T.seq ?_
              refine T.region ?_ -- region 6
              refine Rg.move rfl rfl ?_
              refine Rg.move rfl rfl ?_
              refine Rg.nilCheck rfl ⟨_, rfl⟩ rfl ?_
              refine Rg.fieldc Try.underlying92 rfl rfl I30 (by decide) rfl rfl ?_
              refine Rg.loadc Try.underlying30 rfl rfl rfl (by assumption) rfl ?_
              refine Rg.call rfl rfl E20 (Blocks_spec (M := M1) hp4) (fun r wc h => ?_)
              obtain ⟨rfl, rfl⟩ := h
              refine Rg.eqv (v' := .int .i64 (((l.length + 7) / 8 : Nat) : Int)) (congrArg (fun n : Nat => Value.int .i64 n) hnb) ?_
              refine Rg.ieq rfl rfl rfl ?_
              refine Rg.nil ?_
              refine T.ifp rfl (fun c6 => ?_) (fun c6 => ?_)
              · -- c6 True
                exfalso; omega
              · -- c6 False
                have hnk : n < (l.length + 7) / 8 := by omega
                have hhi : to ≤ lastPo (-1) (l.take (8 * n + 8)) := by
                  first
                  | (exfalso; omega)
                  | (have := lastB_mk (g := l) (k := n) (by omega); omega)
                refine T.skip ?_
                refine T.seq ?_
                refine T.seq ?_
                refine T.region ?_ -- region 9
                refine Rg.move rfl rfl ?_
                refine Rg.move rfl rfl ?_
                refine Rg.nilCheck rfl ⟨_, rfl⟩ rfl ?_
                refine Rg.fieldc Try.underlying92 rfl rfl I3 (by decide) rfl rfl ?_
                refine Rg.loadc Try.underlying3 rfl rfl rfl (by assumption) rfl ?_
                refine Rg.ine rfl rfl rfl ?_
                refine Rg.nil ?_
                refine T.ifp rfl (fun c9 => ?_) (fun c9 => ?_)
                · -- c9 True
                  refine T.seq ?_
                  refine T.region ?_ -- region 10
                  refine Rg.move rfl rfl ?_
                  refine Rg.move rfl rfl ?_
                  refine Rg.move rfl rfl ?_
                  refine Rg.move rfl rfl ?_
                  refine Rg.nilCheck rfl ⟨_, rfl⟩ rfl ?_
                  refine Rg.fieldc Try.underlying92 rfl rfl I30 (by decide) rfl rfl ?_
                  refine Rg.loadc Try.underlying30 rfl rfl rfl (by assumption) rfl ?_
                  refine Rg.move rfl rfl ?_
                  refine Rg.call rfl rfl E21 (Block_spec (M := M1) (k := n) hM4 hp4 hm hps hbl) (fun u10 w10 h => ?_)
                  obtain ⟨s10, h10⟩ := h
                  rw [if_pos (by unfold isB; simp; omega), Int.toNat_natCast] at h10
                  have hb10 := s10.same0 hb4
                  refine Rg.nilCheck rfl ⟨_, rfl⟩ rfl ?_
                  refine Rg.fieldc Try.underlying92 rfl rfl I3 (by decide) rfl rfl ?_
                  refine Rg.storec (M := M1) I3 rfl rfl hb10 rfl rfl hMb1 (fun w11 hb11 s11 => ?_)
                  change w11.heap[bc]? = some (.cells #[p, .int .i64 n, u, .int .i64 (docAt l i), .int .i64 cnt] 92 (0, 0)) at hb11
                  refine Rg.nilCheck rfl ⟨_, rfl⟩ rfl ?_
                  refine Rg.fieldc Try.underlying92 rfl rfl I28 (by decide) rfl rfl ?_
                  refine Rg.storec (M := M1) I28 rfl rfl hb11 rfl (V_one h10 rfl rfl) hMb1 (fun w12 hb12 s12 => ?_)
                  change w12.heap[bc]? = some (.cells #[p, .int .i64 n, u10, .int .i64 (docAt l i), .int .i64 cnt] 92 (0, 0)) at hb12
                  refine Rg.nil ?_
                  refine T.region ?_ -- region 11
                  refine Rg.move rfl rfl ?_
                  refine Rg.nilCheck rfl ⟨_, rfl⟩ rfl ?_
                  refine Rg.fieldc Try.underlying92 rfl rfl I3 (by decide) rfl rfl ?_
                  refine Rg.loadc Try.underlying3 rfl rfl rfl (by assumption) rfl ?_
                  refine Rg.addw rfl rfl rfl ?_
                  refine Rg.nilCheck rfl ⟨_, rfl⟩ rfl ?_
                  refine Rg.fieldc Try.underlying92 rfl rfl I3 (by decide) rfl rfl ?_
                  refine Rg.storec (M := M1) I3 rfl rfl hb12 rfl rfl hMb1 (fun w13 hb13 s13 => ?_)
                  change w13.heap[bc]? = some (.cells #[p, .int .i64 n, u10, .int .i64 (docAt l i), .int .i64 (IntKind.i64.wrap (cnt + 1))] 92 (0, 0)) at hb13
                  obtain ⟨lf, uX, cX, s, wX, hwX, hbX, hlV, hlf, hs1, hs2, hs3, hs4, hpX, hTX, SX⟩ : ∃ lf uX cX s wX, wX = w13 ∧ wX.heap[bc]? = some (.cells #[p, .int .i64 n, uX, .int .i64 (docAt l i), .int .i64 cX] 92 (0, 0)) ∧ ((RT.po).sl).V M1 wX lf uX ∧ lf = (l.drop s).take (8 * n + 8 - s) ∧ 8 * n ≤ s ∧ s < 8 * n + 8 ∧ s < l.length ∧ lastPo (-1) (l.take s) < to ∧ PtrTo RT.li M1 wX p (mkLi l) ∧ wX.heap[bt]? = some (.cells #[.int .i64 to] 3 (0, 0)) ∧ Step M1 w1 M1 wX (fun b => b = bc) := ⟨_, u10, _, 8 * n, w13, rfl, hb13, ((h10.le s11.le).le s12.le).le s13.le, by rw [show 8 * n + 8 - 8 * n = 8 from by omega], by omega, by omega, by omega, hlo, (((hp4.le (by decide) s10.le).le (by decide) s11.le).le (by decide) s12.le).le (by decide) s13.le, s13.keep (s12.keep (s11.keep (s10.same0 hT4) hbt) hbt) hbt, ((((S4.widen (fun _ h => h.elim) hcM).trans0 s10).trans s11 (fun _ _ h => h)).trans s12 (fun _ _ h => h)).trans s13 (fun _ _ h => h)⟩
                  subst hwX
                  clear hb13
                  refine Rg.nil ?_
                  refine T.seq ?_
                  obtain ⟨ha1, ha2, ha3, ha4, ha5⟩ := adv_block hm hs1 hs2 hs3 hs4 hhi hlf
                  have hMX := SX.lt hM1
                  obtain ⟨⟨d, ps⟩, hx⟩ : ∃ x, l[idx l to]? = some x := ⟨_, List.getElem?_eq_getElem ha3⟩
                  have hh := leftAt_head hx
                  have hhl := (List.getElem?_eq_some_iff.1 hh).1
                  apply T.drawT (M := M1) mixed [] [Asr.eq _, Asr.eq _, Asr.eq _, Asr.eq _, Asr.eq uX, Asr.eq _, Asr.eq _, Asr.eq _, Asr.eq uX, Asr.eq _, Asr.eq _, Asr.V ((RT.po).sl) (leftAt l (idx l to : Nat))] 12 -- region 12
                  · rfl
                  · rfl
                  · rfl
                  · rfl
                  · rfl
                  · exact fun p hp => by cases hp
                  · exact UOk.none
                  · -- its operations
                    refine OblsS.cons ?_ ?_
                    · intro wD E sD -- 0
                      refine Rg.move rfl rfl ?_
                      exact Rg.nil ⟨rfl, rfl, _, rfl, rfl, Step.refl _ _⟩
                    refine OblsS.cons ?_ ?_
                    · intro wD E sD -- 1
                      refine Rg.move rfl rfl ?_
                      exact Rg.nil ⟨rfl, rfl, _, rfl, rfl, Step.refl _ _⟩
                    refine OblsS.cons ?_ ?_
                    · intro wD E sD -- 2
                      intro x_ hx_; have hx_ : x_ = _ := hx_; subst x_
                      refine Rg.nilCheck rfl ⟨_, rfl⟩ rfl ?_
                      exact Rg.nil ⟨rfl, rfl, _, rfl, rfl, Step.refl _ _⟩
                    refine OblsS.cons ?_ ?_
                    · intro wD E sD -- 3
                      intro x_ hx_; have hx_ : x_ = _ := hx_; subst x_
                      refine Rg.fieldc Try.underlying92 rfl rfl I28 (by decide) rfl rfl ?_
                      exact Rg.nil ⟨rfl, rfl, _, rfl, rfl, Step.refl _ _⟩
                    refine OblsS.cons ?_ ?_
                    · intro wD E sD -- 4
                      intro x_ hx_; have hx_ : x_ = _ := hx_; subst x_
                      refine Rg.loadc Try.underlying28 rfl rfl rfl (Step.same0 sD (by assumption)) rfl ?_
                      exact Rg.nil ⟨rfl, rfl, _, rfl, rfl, Step.refl _ _⟩
                    refine OblsS.cons ?_ ?_
                    · intro wD E sD -- 5
                      refine Rg.move rfl rfl ?_
                      exact Rg.nil ⟨rfl, rfl, _, rfl, rfl, Step.refl _ _⟩
                    refine OblsS.cons ?_ ?_
                    · intro wD E sD -- 6
                      intro x_ hx_; have hx_ : x_ = _ := hx_; subst x_
                      refine Rg.nilCheck rfl ⟨_, rfl⟩ rfl ?_
                      exact Rg.nil ⟨rfl, rfl, _, rfl, rfl, Step.refl _ _⟩
                    refine OblsS.cons ?_ ?_
                    · intro wD E sD -- 7
                      intro x_ hx_; have hx_ : x_ = _ := hx_; subst x_
                      refine Rg.fieldc Try.underlying92 rfl rfl I28 (by decide) rfl rfl ?_
                      exact Rg.nil ⟨rfl, rfl, _, rfl, rfl, Step.refl _ _⟩
                    refine OblsS.cons ?_ ?_
                    · intro wD E sD -- 8
                      intro x_ hx_; have hx_ : x_ = _ := hx_; subst x_
                      refine Rg.loadc Try.underlying28 rfl rfl rfl (Step.same0 sD (by assumption)) rfl ?_
                      exact Rg.nil ⟨rfl, rfl, _, rfl, rfl, Step.refl _ _⟩
                    refine OblsS.cons ?_ ?_
                    · intro wD E sD -- 9
                      refine Rg.makeFunc (xs := []) (ys := [.tmp 3]) rfl rfl rfl ?_
                      exact Rg.nil ⟨rfl, rfl, _, rfl, rfl, Step.refl _ _⟩
                    refine OblsS.cons ?_ ?_
                    · intro wD E sD -- 10
                      intro x_ hx_; have hx_ : x_ = _ := hx_; subst x_
                      intro x_ hx_; have hx_ : x_ = _ := hx_; subst x_
                      refine Rg.call rfl rfl E67 (IndexPo_spec (M := M1) (sD.lt hMX) (hlV.le sD.le) (sD.same0 hTX)) (fun r wi h => ?_)
                      obtain ⟨rfl, s⟩ := h
                      refine Rg.eqv (v' := .int .i64 ((idx lf to : Nat) : Int)) (by rw [if_pos ha2]) ?_
                      exact Rg.nil ⟨rfl, rfl, _, rfl, rfl, s⟩
                    refine OblsS.cons ?_ ?_
                    · intro wD E sD -- 11
                      intro x_ hx_; have hx_ : x_ = _ := hx_; subst x_
                      intro x_ hx_; have hx_ : x_ = _ := hx_; subst x_
                      refine Rg.slice_l (A := RT.po) (hn := by decide) Try.underlying28 I37 rfl rfl rfl (hlV.le sD.le) (by omega) (fun u hu => ?_)
                      rw [Int.toNat_natCast, ha5] at hu
                      exact Rg.nil ⟨rfl, rfl, _, rfl, hu, Step.refl _ _⟩
                    exact OblsS.nil
                  · -- behind it
                    intro wD12 sD12
                    intro x_ hx_; have hx_ : x_ = _ := hx_; subst x_
                    intro x_ hx_; have hx_ : x_ = _ := hx_; subst x_
                    intro x_ hx_; have hx_ : x_ = _ := hx_; subst x_
                    intro x_ hx_; have hx_ : x_ = _ := hx_; subst x_
                    intro x_ hx_; have hx_ : x_ = _ := hx_; subst x_
                    intro x_ hx_; have hx_ : x_ = _ := hx_; subst x_
                    intro x_ hx_; have hx_ : x_ = _ := hx_; subst x_
                    intro x_ hx_; have hx_ : x_ = _ := hx_; subst x_
                    intro x_ hx_; have hx_ : x_ = _ := hx_; subst x_
                    intro x_ hx_; have hx_ : x_ = _ := hx_; subst x_
                    intro x_ hx_; have hx_ : x_ = _ := hx_; subst x_
                    intro v12_11 hv12_11
                    have hb14 := sD12.same0 hbX
                    have hvl : ((RT.po).sl).V M1 wD12 (leftAt l (idx l to : Nat)) v12_11 := hv12_11
                    have S14 := SX.trans0 sD12
                    refine Rg.nilCheck rfl ⟨_, rfl⟩ rfl ?_
                    refine Rg.fieldc Try.underlying92 rfl rfl I28 (by decide) rfl rfl ?_
                    refine Rg.storec (M := M1) I28 rfl rfl hb14 rfl (V_one hvl rfl rfl) hMb1 (fun w15 hb15 s15 => ?_)
                    change w15.heap[bc]? = some (.cells #[p, .int .i64 n, v12_11, .int .i64 (docAt l i), .int .i64 cX] 92 (0, 0)) at hb15
                    replace hvl := hvl.le s15.le
                    refine Rg.nil ?_
                    refine T.seq ?_
                    refine T.region ?_ -- region 13
                    refine Rg.move rfl rfl ?_
                    refine Rg.move rfl rfl ?_
                    refine Rg.nilCheck rfl ⟨_, rfl⟩ rfl ?_
                    refine Rg.fieldc Try.underlying92 rfl rfl I28 (by decide) rfl rfl ?_
                    refine Rg.loadc Try.underlying28 rfl rfl rfl (by assumption) rfl ?_

                    refine Rg.idx (M := M1) Try.underlying28 I37 rfl rfl rfl (hvl) (Le.refl _ _) (by omega) (fun u13_5 a13_5 hg13_5 hu13_5 => ?_)
                    obtain rfl : (d, ps) = a13_5 := Eq.symm (Option.some.inj (hg13_5.symm.trans (by simpa using hh)))
                    refine Rg.fieldAddr (M := M1) (A := RT.po) (B := RT.int .i64) Try.underlying37 rfl rfl I3 (by decide) (po0) rfl rfl (by decide) (by assumption) (by repeat (first | exact Le.refl _ _ | refine Le.trans (Step.le (by assumption)) ?_)) (fun u13_6 hu13_6 => ?_)
                    refine Rg.loadi64 (M := M1) Try.underlying3 rfl rfl (by assumption) (by repeat (first | exact Le.refl _ _ | refine Le.trans (Step.le (by assumption)) ?_)) (fun in13_7 => ?_)
                    refine Rg.eqv (v' := .int .i64 d) rfl ?_
                    replace in13_7 : -9223372036854775808 ≤ (d : Int) ∧ d ≤ 9223372036854775807 := in13_7
                    refine Rg.nilCheck rfl ⟨_, rfl⟩ rfl ?_
                    refine Rg.fieldc Try.underlying92 rfl rfl I3 (by decide) rfl rfl ?_
                    refine Rg.storec (M := M1) I3 rfl rfl hb15 rfl rfl hMb1 (fun w16 hb16 s16 => ?_)
                    change w16.heap[bc]? = some (.cells #[p, .int .i64 n, v12_11, .int .i64 d, .int .i64 cX] 92 (0, 0)) at hb16
                    replace hvl := hvl.le s16.le
                    refine Rg.nil ?_
                    refine T.seq ?_
                    refine T.region ?_ -- region 14
                    refine Rg.move rfl rfl ?_
                    refine Rg.nilCheck rfl ⟨_, rfl⟩ rfl ?_
                    refine Rg.fieldc Try.underlying92 rfl rfl I3 (by decide) rfl rfl ?_
                    refine Rg.loadc Try.underlying3 rfl rfl rfl (by assumption) rfl ?_
                    refine Rg.assign rfl rfl ?_
                    refine Rg.nil ?_
                    refine T.ret ?_
                    have he : advI l i to = (idx l to : Int) := by unfold advI; rw [if_neg c1]
                    rw [he]
                    have S7 := ((s1.widen (fun _ h => h.elim) hNb).trans ((S14.trans s15 (fun _ _ h => h)).trans s16 (fun _ _ h => h)) (fun _ _ h => h))
                    exact Kret1 rfl rfl ⟨by rw [docAt_get hx]; rfl, S7.back, p, v12_11, n, cX, hMb, by rw [docAt_get hx]; exact hb16, (hp.le (by decide) S7.back.le), hvl.le (Le.close hM S7), by omega, by omega, fun h => by omega, fun _ h => by omega⟩
                · -- c9 False
                  have hl31 := (lastPo_rng l (-1) hm (by decide) (8 * n + 8)).2
                  obtain ⟨hi0, hi1⟩ : 0 ≤ i ∧ i < l.length := by
                    rcases docAt_cases l i with ⟨h0, _⟩ | ⟨j, d, ps, rfl, hx, _⟩ | ⟨h0, h1, _⟩
                    · have := hk0 h0; omega
                    · have := (List.getElem?_eq_some_iff.1 hx).1; omega
                    · omega
                  have hkk := hk1 hi0 hi1
                  obtain ⟨j, hij⟩ : ∃ j : Nat, i = j := ⟨i.toNat, by omega⟩
                  obtain ⟨⟨dj, pj⟩, hxj⟩ : ∃ x, l[j]? = some x := ⟨_, List.getElem?_eq_getElem (by omega)⟩
                  have hdj := docAt_get hxj
                  rw [← hij] at hdj
                  have hlj := (may_at hm hxj).1
                  obtain rfl : (n : Int) = k := by omega
                  have hu4 := hu1.le S4.le
                  obtain ⟨lf, uX, cX, s, wX, hwX, hbX, hlV, hlf, hs1, hs2, hs3, hs4, hpX, hTX, SX⟩ : ∃ lf uX cX s wX, wX = _ ∧ wX.heap[bc]? = some (.cells #[p, .int .i64 n, uX, .int .i64 (docAt l i), .int .i64 cX] 92 (0, 0)) ∧ ((RT.po).sl).V M1 wX lf uX ∧ lf = (l.drop s).take (8 * n + 8 - s) ∧ 8 * n ≤ s ∧ s < 8 * n + 8 ∧ s < l.length ∧ lastPo (-1) (l.take s) < to ∧ PtrTo RT.li M1 wX p (mkLi l) ∧ wX.heap[bt]? = some (.cells #[.int .i64 to] 3 (0, 0)) ∧ Step M1 w1 M1 wX (fun b => b = bc) := ⟨_, u, cnt, j, _, rfl, hb4, hu4, by rw [hij]; unfold leftAt; rw [if_neg (by omega), Int.toNat_natCast, show 8 * n + 8 - j = 8 - j % 8 from by omega], by omega, by omega, by omega, by omega, hp4, hT4, S4.widen (fun _ h => h.elim) hcM⟩
                  subst hwX
                  clear hb4
                  refine T.skip ?_
                  refine T.seq ?_
                  obtain ⟨ha1, ha2, ha3, ha4, ha5⟩ := adv_block hm hs1 hs2 hs3 hs4 hhi hlf
                  have hMX := SX.lt hM1
                  obtain ⟨⟨d, ps⟩, hx⟩ : ∃ x, l[idx l to]? = some x := ⟨_, List.getElem?_eq_getElem ha3⟩
                  have hh := leftAt_head hx
                  have hhl := (List.getElem?_eq_some_iff.1 hh).1
                  apply T.drawT (M := M1) mixed [] [Asr.eq _, Asr.eq _, Asr.eq _, Asr.eq _, Asr.eq uX, Asr.eq _, Asr.eq _, Asr.eq _, Asr.eq uX, Asr.eq _, Asr.eq _, Asr.V ((RT.po).sl) (leftAt l (idx l to : Nat))] 12 -- region 12
                  · rfl
                  · rfl
                  · rfl
                  · rfl
                  · rfl
                  · exact fun p hp => by cases hp
                  · exact UOk.none
                  · -- its operations
                    refine OblsS.cons ?_ ?_
                    · intro wD E sD -- 0
                      refine Rg.move rfl rfl ?_
                      exact Rg.nil ⟨rfl, rfl, _, rfl, rfl, Step.refl _ _⟩
                    refine OblsS.cons ?_ ?_
                    · intro wD E sD -- 1
                      refine Rg.move rfl rfl ?_
                      exact Rg.nil ⟨rfl, rfl, _, rfl, rfl, Step.refl _ _⟩
                    refine OblsS.cons ?_ ?_
                    · intro wD E sD -- 2
                      intro x_ hx_; have hx_ : x_ = _ := hx_; subst x_
                      refine Rg.nilCheck rfl ⟨_, rfl⟩ rfl ?_
                      exact Rg.nil ⟨rfl, rfl, _, rfl, rfl, Step.refl _ _⟩
                    refine OblsS.cons ?_ ?_
                    · intro wD E sD -- 3
                      intro x_ hx_; have hx_ : x_ = _ := hx_; subst x_
                      refine Rg.fieldc Try.underlying92 rfl rfl I28 (by decide) rfl rfl ?_
                      exact Rg.nil ⟨rfl, rfl, _, rfl, rfl, Step.refl _ _⟩
                    refine OblsS.cons ?_ ?_
                    · intro wD E sD -- 4
                      intro x_ hx_; have hx_ : x_ = _ := hx_; subst x_
                      refine Rg.loadc Try.underlying28 rfl rfl rfl (Step.same0 sD (by assumption)) rfl ?_
                      exact Rg.nil ⟨rfl, rfl, _, rfl, rfl, Step.refl _ _⟩
                    refine OblsS.cons ?_ ?_
                    · intro wD E sD -- 5
                      refine Rg.move rfl rfl ?_
                      exact Rg.nil ⟨rfl, rfl, _, rfl, rfl, Step.refl _ _⟩
                    refine OblsS.cons ?_ ?_
                    · intro wD E sD -- 6
                      intro x_ hx_; have hx_ : x_ = _ := hx_; subst x_
                      refine Rg.nilCheck rfl ⟨_, rfl⟩ rfl ?_
                      exact Rg.nil ⟨rfl, rfl, _, rfl, rfl, Step.refl _ _⟩
                    refine OblsS.cons ?_ ?_
                    · intro wD E sD -- 7
                      intro x_ hx_; have hx_ : x_ = _ := hx_; subst x_
                      refine Rg.fieldc Try.underlying92 rfl rfl I28 (by decide) rfl rfl ?_
                      exact Rg.nil ⟨rfl, rfl, _, rfl, rfl, Step.refl _ _⟩
                    refine OblsS.cons ?_ ?_
                    · intro wD E sD -- 8
                      intro x_ hx_; have hx_ : x_ = _ := hx_; subst x_
                      refine Rg.loadc Try.underlying28 rfl rfl rfl (Step.same0 sD (by assumption)) rfl ?_
                      exact Rg.nil ⟨rfl, rfl, _, rfl, rfl, Step.refl _ _⟩
                    refine OblsS.cons ?_ ?_
                    · intro wD E sD -- 9
                      refine Rg.makeFunc (xs := []) (ys := [.tmp 3]) rfl rfl rfl ?_
                      exact Rg.nil ⟨rfl, rfl, _, rfl, rfl, Step.refl _ _⟩
                    refine OblsS.cons ?_ ?_
                    · intro wD E sD -- 10
                      intro x_ hx_; have hx_ : x_ = _ := hx_; subst x_
                      intro x_ hx_; have hx_ : x_ = _ := hx_; subst x_
                      refine Rg.call rfl rfl E67 (IndexPo_spec (M := M1) (sD.lt hMX) (hlV.le sD.le) (sD.same0 hTX)) (fun r wi h => ?_)
                      obtain ⟨rfl, s⟩ := h
                      refine Rg.eqv (v' := .int .i64 ((idx lf to : Nat) : Int)) (by rw [if_pos ha2]) ?_
                      exact Rg.nil ⟨rfl, rfl, _, rfl, rfl, s⟩
                    refine OblsS.cons ?_ ?_
                    · intro wD E sD -- 11
                      intro x_ hx_; have hx_ : x_ = _ := hx_; subst x_
                      intro x_ hx_; have hx_ : x_ = _ := hx_; subst x_
                      refine Rg.slice_l (A := RT.po) (hn := by decide) Try.underlying28 I37 rfl rfl rfl (hlV.le sD.le) (by omega) (fun u hu => ?_)
                      rw [Int.toNat_natCast, ha5] at hu
                      exact Rg.nil ⟨rfl, rfl, _, rfl, hu, Step.refl _ _⟩
                    exact OblsS.nil
                  · -- behind it
                    intro wD12 sD12
                    intro x_ hx_; have hx_ : x_ = _ := hx_; subst x_
                    intro x_ hx_; have hx_ : x_ = _ := hx_; subst x_
                    intro x_ hx_; have hx_ : x_ = _ := hx_; subst x_
                    intro x_ hx_; have hx_ : x_ = _ := hx_; subst x_
                    intro x_ hx_; have hx_ : x_ = _ := hx_; subst x_
                    intro x_ hx_; have hx_ : x_ = _ := hx_; subst x_
                    intro x_ hx_; have hx_ : x_ = _ := hx_; subst x_
                    intro x_ hx_; have hx_ : x_ = _ := hx_; subst x_
                    intro x_ hx_; have hx_ : x_ = _ := hx_; subst x_
                    intro x_ hx_; have hx_ : x_ = _ := hx_; subst x_
                    intro x_ hx_; have hx_ : x_ = _ := hx_; subst x_
                    intro v12_11 hv12_11
                    have hb14 := sD12.same0 hbX
                    have hvl : ((RT.po).sl).V M1 wD12 (leftAt l (idx l to : Nat)) v12_11 := hv12_11
                    have S14 := SX.trans0 sD12
                    refine Rg.nilCheck rfl ⟨_, rfl⟩ rfl ?_
                    refine Rg.fieldc Try.underlying92 rfl rfl I28 (by decide) rfl rfl ?_
                    refine Rg.storec (M := M1) I28 rfl rfl hb14 rfl (V_one hvl rfl rfl) hMb1 (fun w15 hb15 s15 => ?_)
                    change w15.heap[bc]? = some (.cells #[p, .int .i64 n, v12_11, .int .i64 (docAt l i), .int .i64 cX] 92 (0, 0)) at hb15
                    replace hvl := hvl.le s15.le
                    refine Rg.nil ?_
                    refine T.seq ?_
                    refine T.region ?_ -- region 13
                    refine Rg.move rfl rfl ?_
                    refine Rg.move rfl rfl ?_
                    refine Rg.nilCheck rfl ⟨_, rfl⟩ rfl ?_
                    refine Rg.fieldc Try.underlying92 rfl rfl I28 (by decide) rfl rfl ?_
                    refine Rg.loadc Try.underlying28 rfl rfl rfl (by assumption) rfl ?_

                    refine Rg.idx (M := M1) Try.underlying28 I37 rfl rfl rfl (hvl) (Le.refl _ _) (by omega) (fun u13_5 a13_5 hg13_5 hu13_5 => ?_)
                    obtain rfl : (d, ps) = a13_5 := Eq.symm (Option.some.inj (hg13_5.symm.trans (by simpa using hh)))
                    refine Rg.fieldAddr (M := M1) (A := RT.po) (B := RT.int .i64) Try.underlying37 rfl rfl I3 (by decide) (po0) rfl rfl (by decide) (by assumption) (by repeat (first | exact Le.refl _ _ | refine Le.trans (Step.le (by assumption)) ?_)) (fun u13_6 hu13_6 => ?_)
                    refine Rg.loadi64 (M := M1) Try.underlying3 rfl rfl (by assumption) (by repeat (first | exact Le.refl _ _ | refine Le.trans (Step.le (by assumption)) ?_)) (fun in13_7 => ?_)
                    refine Rg.eqv (v' := .int .i64 d) rfl ?_
                    replace in13_7 : -9223372036854775808 ≤ (d : Int) ∧ d ≤ 9223372036854775807 := in13_7
                    refine Rg.nilCheck rfl ⟨_, rfl⟩ rfl ?_
                    refine Rg.fieldc Try.underlying92 rfl rfl I3 (by decide) rfl rfl ?_
                    refine Rg.storec (M := M1) I3 rfl rfl hb15 rfl rfl hMb1 (fun w16 hb16 s16 => ?_)
                    change w16.heap[bc]? = some (.cells #[p, .int .i64 n, v12_11, .int .i64 d, .int .i64 cX] 92 (0, 0)) at hb16
                    replace hvl := hvl.le s16.le
                    refine Rg.nil ?_
                    refine T.seq ?_
                    refine T.region ?_ -- region 14
                    refine Rg.move rfl rfl ?_
                    refine Rg.nilCheck rfl ⟨_, rfl⟩ rfl ?_
                    refine Rg.fieldc Try.underlying92 rfl rfl I3 (by decide) rfl rfl ?_
                    refine Rg.loadc Try.underlying3 rfl rfl rfl (by assumption) rfl ?_
                    refine Rg.assign rfl rfl ?_
                    refine Rg.nil ?_
                    refine T.ret ?_
                    have he : advI l i to = (idx l to : Int) := by unfold advI; rw [if_neg c1]
                    rw [he]
                    have S7 := ((s1.widen (fun _ h => h.elim) hNb).trans ((S14.trans s15 (fun _ _ h => h)).trans s16 (fun _ _ h => h)) (fun _ _ h => h))
                    exact Kret1 rfl rfl ⟨by rw [docAt_get hx]; rfl, S7.back, p, v12_11, n, cX, hMb, by rw [docAt_get hx]; exact hb16, (hp.le (by decide) S7.back.le), hvl.le (Le.close hM S7), by omega, by omega, fun h => by omega, fun _ h => by omega⟩
        · -- g4_7 False
          apply T.draw (M := M1) mixed [Asr.eq _, Asr.eq _, Asr.eq _, Asr.eq _, Asr.eq _, Asr.eq _, Asr.eq _, Asr.eq (.bool false), Asr.eq undef, Asr.eq undef, Asr.eq undef, Asr.eq undef, Asr.eq undef, Asr.eq undef, Asr.eq undef, Asr.eq undef, Asr.eq _] -- region 4
          · rfl
          · -- its operations
            refine Obls.cons ?_ ?_
            · intro wD E sD -- 0
              refine Rg.move rfl rfl ?_
              exact Rg.nil ⟨rfl, rfl, _, rfl, rfl, Step.refl _ _⟩
            refine Obls.cons ?_ ?_
            · intro wD E sD -- 1
              refine Rg.move rfl rfl ?_
              exact Rg.nil ⟨rfl, rfl, _, rfl, rfl, Step.refl _ _⟩
            refine Obls.cons ?_ ?_
            · intro wD E sD -- 2
              intro x_ hx_; have hx_ : x_ = _ := hx_; subst x_
              refine Rg.nilCheck rfl ⟨_, rfl⟩ rfl ?_
              exact Rg.nil ⟨rfl, rfl, _, rfl, rfl, Step.refl _ _⟩
            refine Obls.cons ?_ ?_
            · intro wD E sD -- 3
              intro x_ hx_; have hx_ : x_ = _ := hx_; subst x_
              refine Rg.fieldc Try.underlying92 rfl rfl I30 (by decide) rfl rfl ?_
              exact Rg.nil ⟨rfl, rfl, _, rfl, rfl, Step.refl _ _⟩
            refine Obls.cons ?_ ?_
            · intro wD E sD -- 4
              intro x_ hx_; have hx_ : x_ = _ := hx_; subst x_
              refine Rg.loadc Try.underlying30 rfl rfl rfl (Step.same0 sD (by assumption)) rfl ?_
              exact Rg.nil ⟨rfl, rfl, _, rfl, rfl, Step.refl _ _⟩
            refine Obls.cons ?_ ?_
            · intro wD E sD -- 5
              intro x_ hx_; have hx_ : x_ = _ := hx_; subst x_
              refine Rg.call rfl rfl E20 (Blocks_spec (M := M1) (hp4.le (by decide) sD.le)) (fun r wc h => ?_)
              obtain ⟨rfl, rfl⟩ := h
              exact Rg.nil ⟨rfl, rfl, _, rfl, congrArg (fun n : Nat => Value.int .i64 n) hnb, Step.refl _ _⟩
            refine Obls.cons ?_ ?_
            · intro wD E sD -- 6
              intro x_ hx_; have hx_ : x_ = _ := hx_; subst x_
              intro x_ hx_; have hx_ : x_ = _ := hx_; subst x_
              refine Rg.ilt rfl rfl rfl ?_
              exact Rg.nil ⟨rfl, rfl, _, rfl, rfl, Step.refl _ _⟩
            refine Obls.cons ?_ ?_
            · intro wD E sD -- 7
              intro x_ hx_; have hx_ : x_ = _ := hx_; subst x_
              intro x_ hx_; have hx_ : x_ = _ := hx_; subst x_
              refine Rg.move rfl rfl ?_
              refine Rg.nil ⟨rfl, rfl, _, rfl, ?_, Step.refl _ _⟩
              exact congrArg Value.bool (decide_eq_false g4_7)
            refine Obls.cons ?_ ?_
            · intro wD E sD -- 8
              intro x_ hx_; have hx_ : x_ = _ := hx_; subst x_
              exact Rg.gno rfl rfl rfl rfl (Rg.nil ⟨rfl, rfl, _, rfl, rfl, Step.refl _ _⟩)
            refine Obls.cons ?_ ?_
            · intro wD E sD -- 9
              intro x_ hx_; have hx_ : x_ = _ := hx_; subst x_
              intro x_ hx_; have hx_ : x_ = _ := hx_; subst x_
              exact Rg.gno rfl rfl rfl rfl (Rg.nil ⟨rfl, rfl, _, rfl, rfl, Step.refl _ _⟩)
            refine Obls.cons ?_ ?_
            · intro wD E sD -- 10
              intro x_ hx_; have hx_ : x_ = _ := hx_; subst x_
              intro x_ hx_; have hx_ : x_ = _ := hx_; subst x_
              exact Rg.gno rfl rfl rfl rfl (Rg.nil ⟨rfl, rfl, _, rfl, rfl, Step.refl _ _⟩)
            refine Obls.cons ?_ ?_
            · intro wD E sD -- 11
              intro x_ hx_; have hx_ : x_ = _ := hx_; subst x_
              intro x_ hx_; have hx_ : x_ = _ := hx_; subst x_
              exact Rg.gno rfl rfl rfl rfl (Rg.nil ⟨rfl, rfl, _, rfl, rfl, Step.refl _ _⟩)
            refine Obls.cons ?_ ?_
            · intro wD E sD -- 12
              intro x_ hx_; have hx_ : x_ = _ := hx_; subst x_
              exact Rg.gno rfl rfl rfl rfl (Rg.nil ⟨rfl, rfl, _, rfl, rfl, Step.refl _ _⟩)
            refine Obls.cons ?_ ?_
            · intro wD E sD -- 13
              intro x_ hx_; have hx_ : x_ = _ := hx_; subst x_
              intro x_ hx_; have hx_ : x_ = _ := hx_; subst x_
              intro x_ hx_; have hx_ : x_ = _ := hx_; subst x_
              intro x_ hx_; have hx_ : x_ = _ := hx_; subst x_
              exact Rg.gno rfl rfl rfl rfl (Rg.nil ⟨rfl, rfl, _, rfl, rfl, Step.refl _ _⟩)
            refine Obls.cons ?_ ?_
            · intro wD E sD -- 14
              intro x_ hx_; have hx_ : x_ = _ := hx_; subst x_
              exact Rg.gno rfl rfl rfl rfl (Rg.nil ⟨rfl, rfl, _, rfl, rfl, Step.refl _ _⟩)
            refine Obls.cons ?_ ?_
            · intro wD E sD -- 15
              intro x_ hx_; have hx_ : x_ = _ := hx_; subst x_
              intro x_ hx_; have hx_ : x_ = _ := hx_; subst x_
              intro x_ hx_; have hx_ : x_ = _ := hx_; subst x_
              exact Rg.gno rfl rfl rfl rfl (Rg.nil ⟨rfl, rfl, _, rfl, rfl, Step.refl _ _⟩)
            refine Obls.cons ?_ ?_
            · intro wD E sD -- 16
              intro x_ hx_; have hx_ : x_ = _ := hx_; subst x_
              intro x_ hx_; have hx_ : x_ = _ := hx_; subst x_
              refine Rg.pickf rfl rfl rfl ?_
              exact Rg.nil ⟨rfl, rfl, _, rfl, rfl, Step.refl _ _⟩
            exact Obls.nil
          · -- behind it
            intro wD4 sD4
            intro x_ hx_; have hx_ : x_ = _ := hx_; subst x_
            intro x_ hx_; have hx_ : x_ = _ := hx_; subst x_
            intro x_ hx_; have hx_ : x_ = _ := hx_; subst x_
            intro x_ hx_; have hx_ : x_ = _ := hx_; subst x_
            intro x_ hx_; have hx_ : x_ = _ := hx_; subst x_
            intro x_ hx_; have hx_ : x_ = _ := hx_; subst x_
            intro x_ hx_; have hx_ : x_ = _ := hx_; subst x_
            intro x_ hx_; have hx_ : x_ = _ := hx_; subst x_
            intro x_ hx_; have hx_ : x_ = _ := hx_; subst x_
            intro x_ hx_; have hx_ : x_ = _ := hx_; subst x_
            intro x_ hx_; have hx_ : x_ = _ := hx_; subst x_
            intro x_ hx_; have hx_ : x_ = _ := hx_; subst x_
            intro x_ hx_; have hx_ : x_ = _ := hx_; subst x_
            intro x_ hx_; have hx_ : x_ = _ := hx_; subst x_
            intro x_ hx_; have hx_ : x_ = _ := hx_; subst x_
            intro x_ hx_; have hx_ : x_ = _ := hx_; subst x_
            intro x_ hx_; have hx_ : x_ = _ := hx_; subst x_
            replace S4 := S4.trans0 sD4
            replace hb4 := sD4.same0 hb4
            replace hT4 := sD4.same0 hT4
            replace hp4 := hp4.le (by decide) sD4.le
            have hM4 := S4.lt hM1
            refine T.iff rfl ?_
            refine T.exit ?_
            refine T.seq ?_
            refine T.seq ?_
            refine T.region ?_ -- region 6
            refine Rg.move rfl rfl ?_
            refine Rg.move rfl rfl ?_
            refine Rg.nilCheck rfl ⟨_, rfl⟩ rfl ?_
            refine Rg.fieldc Try.underlying92 rfl rfl I30 (by decide) rfl rfl ?_
            refine Rg.loadc Try.underlying30 rfl rfl rfl (by assumption) rfl ?_
            refine Rg.call rfl rfl E20 (Blocks_spec (M := M1) hp4) (fun r wc h => ?_)
            obtain ⟨rfl, rfl⟩ := h
            refine Rg.eqv (v' := .int .i64 (((l.length + 7) / 8 : Nat) : Int)) (congrArg (fun n : Nat => Value.int .i64 n) hnb) ?_
            refine Rg.ieq rfl rfl rfl ?_
            refine Rg.nil ?_
            refine T.ifp rfl (fun c6 => ?_) (fun c6 => ?_)
            · -- c6 True
              refine T.seq ?_
              refine T.region ?_ -- region 7
              refine Rg.move rfl rfl ?_
              refine Rg.move rfl rfl ?_
              refine Rg.nilCheck rfl ⟨_, rfl⟩ rfl ?_
              refine Rg.fieldc Try.underlying92 rfl rfl I28 (by decide) rfl rfl ?_
              refine Rg.storec (M := M1) I28 rfl rfl hb4 rfl rfl hMb1 (fun w7 hb7 s7 => ?_)
              change w7.heap[bc]? = some (.cells #[p, .int .i64 k, .slice none 0 0, .int .i64 (docAt l i), .int .i64 cnt] 92 (0, 0)) at hb7
              refine Rg.nilCheck rfl ⟨_, rfl⟩ rfl ?_
              refine Rg.fieldc Try.underlying92 rfl rfl I3 (by decide) rfl rfl ?_
              refine Rg.storec (M := M1) I3 rfl rfl hb7 rfl rfl hMb1 (fun w8 hb8 s8 => ?_)
              change w8.heap[bc]? = some (.cells #[p, .int .i64 k, .slice none 0 0, .int .i64 2147483648, .int .i64 cnt] 92 (0, 0)) at hb8
              refine Rg.nil ?_
              refine T.seq ?_
              refine T.region ?_ -- region 8
              refine Rg.assign rfl rfl ?_
              refine Rg.nil ?_
              refine T.ret ?_
              have he : advI l i to = (l.length : Int) := by unfold advI; rw [if_neg c1, adv_end hm (n := 8 * n) (by omega) hlo]
              rw [he]
              have S7 := ((s1.trans0 S4).widen (fun _ h => h.elim) hNb).trans ((s7.trans s8 (fun _ _ h => h))) (fun _ _ h => h)
              exact Kret1 rfl rfl ⟨by rw [docAt_end (Int.le_refl _)], S7.back, p, .slice none 0 0, k, cnt, hMb, by rw [docAt_end (Int.le_refl _)]; exact hb8, (hp.le (by decide) S7.back.le), by rw [leftAt_end (Int.le_refl _)]; exact V_nil, by omega, hk, fun h => by omega, fun _ h => by omega⟩
            · -- c6 False
              exfalso; omega

/-- '(*concordance/cursor.Cursor).Next' -/
theorem Next_spec {M : PSet} {w0 : World} {bc : Nat} {l : List Po} {i : Int} (h : Cu 92 l i M w0 bc) (hM : Lt M w0) (hm : mayPo (-1) l = true) (hps : ∀ p ∈ l, p.2.length ≤ 1099511627776) (hbl : (putPo (-1) l).length ≤ 1099511627776) (hll : l.length ≤ 1099511627776) :
    Spec Try.prog 38 #[.pointer (some ⟨bc, 0, none⟩)] w0 (fun v' w' => v' = .int .i64 (docAt l (nextI l i)) ∧ Step M w0 M w' (fun b => b = bc) ∧ Cu 92 l (nextI l i) M w' bc) := by
  obtain ⟨p, u, k, cnt, hMb, hb, hp, hu, hi, hk, hk0, hk1⟩ := id h
  have hdr := docAt_rng hm i
  refine spec_of (args := [.pointer (some ⟨bc, 0, none⟩)]) (fn := Try.f38) Try.func38 rfl (n := 11) Try.ntmps38 ?_
  refine T.seq ?_
  refine T.region ?_ -- region 0
  refine Rg.assign rfl rfl ?_
  refine Rg.nil ?_
  refine T.seq ?_
  refine T.region ?_ -- region 1
  refine Rg.move rfl rfl ?_
  refine Rg.move rfl rfl ?_
  refine Rg.nilCheck rfl ⟨_, rfl⟩ rfl ?_
  refine Rg.fieldc Try.underlying92 rfl rfl I3 (by decide) rfl rfl ?_
  refine Rg.loadc Try.underlying3 rfl rfl rfl (by assumption) rfl ?_
  refine Rg.iadd rfl rfl rfl (by omega) ?_
  refine Rg.min2 rfl rfl rfl ?_
  have hn : advI l i (min (docAt l i + 1) 2147483648) = nextI l i := next_adv hm hi
  refine Rg.call rfl rfl E39 (Advance_spec (to := min (docAt l i + 1) 2147483648) h hM hm hps hbl hll (by omega)) (fun r w1 h1 => ?_)
  rw [hn] at h1
  obtain ⟨rfl, s1, h1⟩ := h1
  refine Rg.assign rfl rfl ?_
  refine Rg.nil ?_
  refine T.ret ?_
  exact Kret1 rfl rfl ⟨rfl, s1, h1⟩

end Go.K

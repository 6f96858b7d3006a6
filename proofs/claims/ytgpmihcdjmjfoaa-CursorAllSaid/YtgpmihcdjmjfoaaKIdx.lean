/- The walks of Go functions, operation by operation. -/
import Derived.Test.YtgpmihcdjmjfoaaKTypes
import Derived.Test.YtgpmihcdjmjfoaaKNum
import Derived.Test.YtgpmihcdjmjfoaaKPost
import Derived.Test.YtgpmihcdjmjfoaaKPtr
import Derived.Test.YtgpmihcdjmjfoaaKCur
import Derived.Test.YtgpmihcdjmjfoaaKDraw
import Derived.Test.YtgpmihcdjmjfoaaKPosting
import Derived.Test.YtgpmihcdjmjfoaaKCursor
import Derived.Test.YtgpmihcdjmjfoaaProg
import Derived.KernelRfl
namespace Go.K
open Go.Proofs
namespace TKIdx
theorem I37 : TI Try.prog 37 (.agg #[(.int .i64 0), (.slice none 0 0)]) 2 32 := by unfold TI; kernel_rfl -- api.Posting
theorem E68 : Enters Try.prog 68 := enters Try.func68 rfl (by decide) -- (*concordance/cursor.Cursor).Advance$1
end TKIdx
open TKIdx
set_option linter.unusedVariables false
set_option linter.unusedSimpArgs false
set_option maxRecDepth 10000

/-- '(*concordance/cursor.Cursor).Advance$1' -/
theorem Adv1_spec {M : PSet} {w0 : World} {x : Value} {d to : Int} {bt : Nat} (hM : Lt M w0) (hb : w0.heap[bt]? = some (.cells #[.int .i64 to] 3 (0, 0))) :
    Spec Try.prog 68 #[.agg #[.int .i64 d, x], .pointer (some ⟨bt, 0, none⟩)] w0 (fun v' w' => v' = .bool (decide (to ≤ d)) ∧ Step M w0 M w' none') := by
  refine spec_of (args := [.agg #[.int .i64 d, x], .pointer (some ⟨bt, 0, none⟩)]) (fn := Try.f68) Try.func68 rfl (n := 8) Try.ntmps68 ?_
  refine T.seq ?_
  refine T.region ?_ -- region 0
  refine Rg.box M rfl rfl (fun bx w1 h1 h1' hS s1 => ?_)
  change w1.heap[bx]? = some (.cells #[.int .i64 d, x] _ _) at hS
  have hb1 := s1.same0 hb
  refine Rg.assign rfl rfl ?_
  refine Rg.nil ?_
  refine T.seq ?_
  refine T.region ?_ -- region 1
  refine Rg.fieldc Try.underlying37 rfl rfl I3 (by decide) rfl rfl ?_
  refine Rg.loadc Try.underlying3 rfl rfl rfl (by assumption) rfl ?_
  refine Rg.loadc Try.underlying3 rfl rfl rfl (by assumption) rfl ?_
  refine Rg.ige rfl rfl rfl ?_
  refine Rg.assign rfl rfl ?_
  refine Rg.nil ?_
  refine T.ret ?_
  exact Kret1 rfl rfl ⟨rfl, s1.back⟩

set_option maxHeartbeats 2000000 in
/-- 'slices.IndexFunc[[]concordance/api.Posting,concordance/api.Posting]' -/
theorem IndexPo_spec {M : PSet} {w0 : World} {v : Value} {lf : List Po} {to : Int} {bt : Nat} (hM : Lt M w0) (hv : ((RT.po).sl).V M w0 lf v) (hb : w0.heap[bt]? = some (.cells #[.int .i64 to] 3 (0, 0))) :
    Spec Try.prog 67 #[v, .func (.func 68) #[] #[.pointer (some ⟨bt, 0, none⟩)]] w0 (fun v' w' => v' = .int .i64 (if idx lf to < lf.length then (idx lf to : Int) else -1) ∧ Step M w0 M w' none') := by
  have hlen := V_sl_len hv
  refine spec_of (args := [v, .func (.func 68) #[] #[.pointer (some ⟨bt, 0, none⟩)]]) (fn := Try.f67) Try.func67 rfl (n := 19) Try.ntmps67 ?_
  refine T.seq ?_
  refine T.region ?_ -- region 0
  refine Rg.assign rfl rfl ?_
  refine Rg.nil ?_
  refine T.seq ?_
  refine T.seq ?_
  refine T.region ?_ -- region 1
  refine Rg.move rfl rfl ?_
  refine Rg.lensl Try.underlying28 rfl hv rfl ?_
  refine Rg.move rfl rfl ?_
  refine Rg.nil ?_
  refine T.block ?_
  refine T.loop (σ := Nat) (fun s => [(0, v), (1, .func (.func 68) #[] #[.pointer (some ⟨bt, 0, none⟩)]), (7, .int .i64 lf.length), (8, .int .i64 s)]) (fun s w => s ≤ lf.length ∧ Step M w0 M w none' ∧ ∀ j, j < s → ∀ p, lf[j]? = some p → p.1 < to) (fun s => lf.length - s) 0 (.cons rfl (.cons rfl (.cons rfl (.cons rfl .nil)))) ?_ ?_ -- loop 0
  · exact ⟨Nat.zero_le _, Step.refl _ _, fun j hj => absurd hj (Nat.not_lt_zero _)⟩
  · rintro k w1 ⟨hk, S, hlt⟩
    refine T.seq ?_
    refine T.region ?_ -- region 2
    refine Rg.ilt rfl rfl rfl ?_
    refine Rg.nil ?_
    refine T.seq ?_
    refine T.ifp rfl (fun c2 => ?_) (fun c2 => ?_)
    · -- c2 True
      refine T.skip ?_
      refine T.seq ?_
      refine T.block ?_
      refine T.seq ?_
      refine T.region ?_ -- region 3
      refine Rg.move rfl rfl ?_
      refine Rg.assign rfl rfl ?_
      refine Rg.nil ?_
      refine T.seq ?_
      refine T.region ?_ -- region 4
      refine Rg.move rfl rfl ?_
      refine Rg.move rfl rfl ?_
      refine Rg.move rfl rfl ?_
      obtain ⟨⟨d, ps⟩, hx⟩ : ∃ x, (lf)[k]? = some x := ⟨_, List.getElem?_eq_getElem (by omega)⟩
      refine Rg.idx (M := M) Try.underlying28 I37 rfl rfl rfl (hv.le S.le) (Le.refl _ _) (by omega) (fun u4_3 a4_3 hg4_3 hu4_3 => ?_)
      obtain rfl : (d, ps) = a4_3 := Eq.symm (Option.some.inj (hg4_3.symm.trans (by simpa using hx)))
      refine Rg.loadagg (M := M) (A := RT.po) Try.underlying37 rfl I37 (by decide) rfl rfl rfl (by assumption) (by repeat (first | exact Le.refl _ _ | refine Le.trans (Step.le (by assumption)) ?_)) (fun v4_4 hv4_4 => ?_)
      obtain ⟨x4, rfl, _, _⟩ := po_val hv4_4
      refine Rg.callv (first := []) (captured := [.pointer (some ⟨bt, 0, none⟩)]) (xs := [.tmp 15]) rfl rfl rfl E68 (Adv1_spec (M := M) (d := d) (x := x4) (S.lt hM) (S.same0 hb)) (fun r w2 h2 => ?_)
      obtain ⟨rfl, s2⟩ := h2
      refine Rg.nil ?_
      refine T.ifp rfl (fun c4 => ?_) (fun c4 => ?_)
      · -- c4 True
        refine T.seq ?_
        refine T.region ?_ -- region 5
        refine Rg.move rfl rfl ?_
        refine Rg.assign rfl rfl ?_
        refine Rg.nil ?_
        refine T.ret ?_
        have he : idx lf to = k := idx_eq hlt (fun p hp => by rw [hx] at hp; cases hp; exact c4) hk
        exact Kret1 rfl rfl ⟨by rw [he, if_pos (by omega)], S.trans0 s2⟩
      · -- c4 False
        refine T.skip ?_
        refine T.region ?_ -- region 6
        refine Rg.iadd rfl rfl rfl (by omega) ?_
        refine Rg.move rfl rfl ?_
        refine Rg.nil ?_
        refine ⟨rfl, k + 1, (.cons rfl (.cons rfl (.cons rfl (.cons rfl .nil)))), ?_, ?_⟩
        · refine ⟨by omega, S.trans0 s2, fun j hj p hp => ?_⟩
          rcases Nat.lt_or_ge j k with hjk | hjk
          · exact hlt j hjk p hp
          · rw [show j = k from by omega, hx] at hp; cases hp; simp only; omega
        · show _ - (k + 1) < _ - k; omega
    · -- c2 False
      refine T.exit ?_
      refine T.seq ?_
      refine T.region ?_ -- region 7
      refine Rg.assign rfl rfl ?_
      refine Rg.nil ?_
      refine T.ret ?_
      have he : idx lf to = lf.length := by
        obtain rfl : k = lf.length := by omega
        exact idx_eq hlt (fun p hp => by simp at hp) (Nat.le_refl _)
      exact Kret1 rfl rfl ⟨by rw [he, if_neg (by omega)], S⟩

end Go.K

/- The walks of Go functions, operation by operation. -/
import Derived.Test.YtgpmihcdjmjfoaaKTypes
import Derived.Test.YtgpmihcdjmjfoaaKNum
import Derived.Test.YtgpmihcdjmjfoaaKPost
import Derived.Test.YtgpmihcdjmjfoaaKDraw
import Derived.Test.YtgpmihcdjmjfoaaKRange
import Derived.Test.YtgpmihcdjmjfoaaKVint
import Derived.Test.YtgpmihcdjmjfoaaKPosting
import Derived.Test.YtgpmihcdjmjfoaaProg
import Derived.KernelRfl
namespace Go.K
open Go.Proofs
namespace TKMake
theorem I23 : TI Try.prog 23 (.slice none 0 0) 1 24 := by unfold TI; kernel_rfl -- []int
theorem I37 : TI Try.prog 37 (.agg #[(.int .i64 0), (.slice none 0 0)]) 2 32 := by unfold TI; kernel_rfl -- api.Posting
theorem E57 : Enters Try.prog 57 := enters Try.func57 rfl (by decide) -- concordance/posting.rises
end TKMake
open TKMake
set_option linter.unusedVariables false
set_option linter.unusedSimpArgs false
set_option maxRecDepth 10000

/-- 'concordance/posting.rises' -/
theorem prises_spec {M : PSet} {w0 : World} {v : Value} {l : List Int} (hv : ((RT.int .i64).sl).V M w0 l v) :
    Spec Try.prog 57 #[v] w0 (fun v' w' => v' = .bool (risesB l) ∧ w0 = w') := by
  have hlen := V_sl_len hv
  refine spec_of (args := [v]) (fn := Try.f57) Try.func57 rfl (n := 32) Try.ntmps57 ?_
  refine T.seq ?_
  refine T.region ?_ -- region 0
  refine Rg.assign rfl rfl ?_
  refine Rg.nil ?_
  refine T.seq ?_
  refine T.seq ?_
  refine T.region ?_ -- region 1
  refine Rg.move rfl rfl ?_
  first | refine Rg.lensl Try.underlying23 rfl (by assumption) rfl ?_ | refine Rg.lenown Try.underlying23 rfl (by assumption) rfl ?_
  refine Rg.move rfl rfl ?_
  refine Rg.nil ?_
  refine T.block ?_
  refine T.loop (σ := Nat × Int) (fun s => [(0, v), (5, v), (6, .int .i64 l.length), (7, .int .i64 s.1)]) (fun s w => w0 = w ∧ s.1 ≤ l.length ∧ risesB l = (rises s.2 (l.drop s.1) && (l.drop s.1).all (fun n => decide (n < 2147483648))) ∧ -1 ≤ s.2 ∧ (s.1 = 0 → s.2 = -1) ∧ (0 < s.1 → l[s.1 - 1]? = some s.2)) (fun s => l.length - s.1) (0, -1) (.cons rfl (.cons rfl (.cons rfl (.cons rfl .nil)))) ?_ ?_ -- loop 0
  · exact ⟨rfl, Nat.zero_le _, rfl, by decide, fun _ => rfl, fun h => absurd h (Nat.lt_irrefl 0)⟩
  · rintro ⟨k, last⟩ w1 ⟨rfl, hk, hr, hl0, h0, h1⟩
    dsimp only at hk hr hl0 h0 h1 ⊢
    refine T.seq ?_
    refine T.region ?_ -- region 2
    refine Rg.ilt rfl rfl rfl ?_
    refine Rg.nil ?_
    refine T.seq ?_
    refine T.ifp rfl (fun c2 => ?_) (fun c2 => ?_)
    · -- c2 True
      refine T.skip ?_
      refine T.seq ?_
      refine T.block ?_
      refine T.seq ?_
      refine T.region ?_ -- region 3
      refine Rg.move rfl rfl ?_
      obtain ⟨x, hx⟩ : ∃ x, l[k]? = some x := ⟨_, List.getElem?_eq_getElem (by omega)⟩
      refine Rg.idx (M := M) Try.underlying23 I3 rfl rfl rfl hv (Le.refl _ _) (by omega) (fun u3_1 a3_1 hg3_1 hu3_1 => ?_)
      obtain rfl : x = a3_1 := Eq.symm (Option.some.inj (hg3_1.symm.trans (by simpa using hx)))
      refine Rg.loadi64 (M := M) Try.underlying3 rfl rfl (by assumption) (by repeat (first | exact Le.refl _ _ | refine Le.trans (Step.le (by assumption)) ?_)) (fun in3_2 => ?_)
      refine Rg.assign rfl rfl ?_
      refine Rg.assign rfl rfl ?_
      refine Rg.nil ?_
      refine T.seq ?_
      refine T.region ?_ -- region 4
      refine Rg.move rfl rfl ?_
      refine Rg.ilt rfl rfl rfl ?_
      refine Rg.move rfl rfl ?_
      refine Rg.gsplitp (g := 14) rfl (fun g4_2 => ?_) (fun g4_2 => ?_)
      · -- g4_2 True
        refine Rg.gno rfl rfl rfl rfl ?_
        refine Rg.gno rfl rfl rfl rfl ?_
        refine Rg.pickt rfl rfl rfl ?_
        refine Rg.move rfl rfl ?_
        refine Rg.gno rfl rfl rfl rfl ?_
        refine Rg.gno rfl rfl rfl rfl ?_
        refine Rg.gno rfl rfl rfl rfl ?_
        refine Rg.gnox rfl rfl rfl ?_
        refine Rg.gnox rfl rfl rfl ?_
        refine Rg.gnox rfl rfl rfl ?_
        refine Rg.gnox rfl rfl rfl ?_
        refine Rg.gnox rfl rfl rfl ?_
        refine Rg.gnox rfl rfl rfl ?_
        refine Rg.gnox rfl rfl rfl ?_
        refine Rg.gno rfl rfl rfl rfl ?_
        refine Rg.pickt rfl rfl rfl ?_
        refine Rg.nil ?_
        refine T.ift rfl ?_
        refine T.seq ?_
        refine T.region ?_ -- region 5
        refine Rg.assign rfl rfl ?_
        refine Rg.nil ?_
        refine T.ret ?_
        refine Kret1 rfl rfl ⟨congrArg Value.bool (Eq.symm ?_), rfl⟩
        rw [hr, rises_drop hx, all_drop _ hx]
        by_cases h7 : last < x
        · have h2 : ¬ x < 2147483648 := by omega
          simp [h2]
        · simp [h7]
      · -- g4_2 False
        refine Rg.gyes rfl rfl ?_
        refine Rg.move rfl rfl ?_
        refine Rg.gyes rfl rfl ?_
        refine Rg.ige rfl rfl rfl ?_
        refine Rg.pickf rfl rfl rfl ?_
        refine Rg.move rfl rfl ?_
        refine Rg.gsplitp (g := 18) rfl (fun g4_6 => ?_) (fun g4_6 => ?_)
        · -- g4_6 True
          refine Rg.gno rfl rfl rfl rfl ?_
          refine Rg.gno rfl rfl rfl rfl ?_
          refine Rg.gno rfl rfl rfl rfl ?_
          refine Rg.gnox rfl rfl rfl ?_
          refine Rg.gnox rfl rfl rfl ?_
          refine Rg.gnox rfl rfl rfl ?_
          refine Rg.gnox rfl rfl rfl ?_
          refine Rg.gnox rfl rfl rfl ?_
          refine Rg.gnox rfl rfl rfl ?_
          refine Rg.gnox rfl rfl rfl ?_
          refine Rg.gno rfl rfl rfl rfl ?_
          refine Rg.pickt rfl rfl rfl ?_
          refine Rg.nil ?_
          refine T.ift rfl ?_
          refine T.seq ?_
          refine T.region ?_ -- region 5
          refine Rg.assign rfl rfl ?_
          refine Rg.nil ?_
          refine T.ret ?_
          refine Kret1 rfl rfl ⟨congrArg Value.bool (Eq.symm ?_), rfl⟩
          rw [hr, rises_drop hx, all_drop _ hx]
          by_cases h7 : last < x
          · have h2 : ¬ x < 2147483648 := by omega
            simp [h2]
          · simp [h7]
        · -- g4_6 False
          refine Rg.gyes rfl rfl ?_
          refine Rg.move rfl rfl ?_
          refine Rg.gyes rfl rfl ?_
          refine Rg.igt rfl rfl rfl ?_
          refine Rg.gyes rfl rfl ?_
          refine Rg.move rfl rfl ?_
          refine Rg.gsplitp (g := 21) rfl (fun g4_9 => ?_) (fun g4_9 => ?_)
          · -- g4_9 True
            refine Rg.gyes rfl rfl ?_
            refine Rg.move rfl rfl ?_
            refine Rg.gyes rfl rfl ?_
            refine Rg.move rfl rfl ?_
            refine Rg.gyes rfl rfl ?_
            refine Rg.move rfl rfl ?_
            refine Rg.gyes rfl rfl ?_
            refine Rg.isub rfl rfl rfl (by omega) ?_
            refine Rg.gyes rfl rfl ?_
            refine Rg.idx (M := M) Try.underlying23 I3 rfl rfl rfl hv (Le.refl _ _) (by omega) (fun u4_14 a4_14 hg4_14 hu4_14 => ?_)
            obtain rfl : last = a4_14 := Eq.symm (Option.some.inj (hg4_14.symm.trans (by rw [show ((k : Int) - 1).toNat = k - 1 from by omega]; exact h1 (by omega))))
            refine Rg.gyes rfl rfl ?_
            refine Rg.loadi64 (M := M) Try.underlying3 rfl rfl (by assumption) (by repeat (first | exact Le.refl _ _ | refine Le.trans (Step.le (by assumption)) ?_)) (fun in4_15 => ?_)
            refine Rg.gyes rfl rfl ?_
            refine Rg.ile rfl rfl rfl ?_
            refine Rg.gyes rfl rfl ?_
            refine Rg.pickt rfl rfl rfl ?_
            refine Rg.pickf rfl rfl rfl ?_
            refine Rg.nil ?_
            refine T.ifp rfl (fun c4 => ?_) (fun c4 => ?_)
            · -- c4 True
              refine T.seq ?_
              refine T.region ?_ -- region 5
              refine Rg.assign rfl rfl ?_
              refine Rg.nil ?_
              refine T.ret ?_
              refine Kret1 rfl rfl ⟨congrArg Value.bool (Eq.symm ?_), rfl⟩
              rw [hr, rises_drop hx, all_drop _ hx]
              by_cases h7 : last < x
              · have h2 : ¬ x < 2147483648 := by omega
                simp [h2]
              · simp [h7]
            · -- c4 False
              refine T.skip ?_
              refine T.region ?_ -- region 6
              refine Rg.iadd rfl rfl rfl (by omega) ?_
              refine Rg.move rfl rfl ?_
              refine Rg.nil ?_
              refine ⟨rfl, (k + 1, x), (.cons rfl (.cons rfl (.cons rfl (.cons rfl .nil)))), ?_, ?_⟩
              · refine ⟨rfl, by simp only; omega, ?_, by simp only; omega, fun h => by simp at h, fun _ => by simpa using hx⟩
                rw [hr, rises_drop hx, all_drop _ hx, decide_eq_true (show last < x by omega), decide_eq_true (show x < 2147483648 by omega), Bool.true_and, Bool.true_and]
              · simp only; omega
          · -- g4_9 False
            refine Rg.gno rfl rfl rfl rfl ?_
            refine Rg.gno rfl rfl rfl rfl ?_
            refine Rg.gno rfl rfl rfl rfl ?_
            refine Rg.gno rfl rfl rfl rfl ?_
            refine Rg.gno rfl rfl rfl rfl ?_
            refine Rg.gno rfl rfl rfl rfl ?_
            refine Rg.gno rfl rfl rfl rfl ?_
            refine Rg.gyes rfl rfl ?_
            refine Rg.pickf rfl rfl rfl ?_
            refine Rg.pickf rfl rfl rfl ?_
            refine Rg.nil ?_
            refine T.iff rfl ?_
            refine T.skip ?_
            refine T.region ?_ -- region 6
            refine Rg.iadd rfl rfl rfl (by omega) ?_
            refine Rg.move rfl rfl ?_
            refine Rg.nil ?_
            refine ⟨rfl, (k + 1, x), (.cons rfl (.cons rfl (.cons rfl (.cons rfl .nil)))), ?_, ?_⟩
            · refine ⟨rfl, by simp only; omega, ?_, by simp only; omega, fun h => by simp at h, fun _ => by simpa using hx⟩
              rw [hr, rises_drop hx, all_drop _ hx, decide_eq_true (show last < x by omega), decide_eq_true (show x < 2147483648 by omega), Bool.true_and, Bool.true_and]
            · simp only; omega
    · -- c2 False
      refine T.exit ?_
      refine T.seq ?_
      refine T.region ?_ -- region 7
      refine Rg.assign rfl rfl ?_
      refine Rg.nil ?_
      refine T.ret ?_
      refine Kret1 rfl rfl ⟨congrArg Value.bool (Eq.symm ?_), rfl⟩
      rw [hr, List.drop_eq_nil_of_le (by omega)]; rfl

/-- 'concordance/posting.May' -/
theorem pMay_spec {M : PSet} {w0 : World} {v : Value} {l : List Po} (hM : Lt M w0) (hv : ((RT.po).sl).V M w0 l v) :
    Spec Try.prog 28 #[v] w0 (fun v' w' => v' = .bool (mayPo (-1) l) ∧ Step M w0 M w' none') := by
  have hlen := V_sl_len hv
  refine spec_of (args := [v]) (fn := Try.f28) Try.func28 rfl (n := 36) Try.ntmps28 ?_
  refine T.seq ?_
  refine T.region ?_ -- region 0
  refine Rg.assign rfl rfl ?_
  refine Rg.nil ?_
  refine T.seq ?_
  refine T.region ?_ -- region 1
  refine Rg.assign rfl rfl ?_
  refine Rg.nil ?_
  refine T.seq ?_
  refine T.seq ?_
  refine T.region ?_ -- region 2
  refine Rg.move rfl rfl ?_
  first | refine Rg.lensl Try.underlying28 rfl (by assumption) rfl ?_ | refine Rg.lenown Try.underlying28 rfl (by assumption) rfl ?_
  refine Rg.move rfl rfl ?_
  refine Rg.nil ?_
  refine T.block ?_
  refine T.loop (σ := Nat × Int) (fun s => [(6, v), (7, .int .i64 l.length), (8, .int .i64 s.1), (3, .int .i64 s.2)]) (fun s w => Step M w0 M w none' ∧ s.1 ≤ l.length ∧ mayPo (-1) l = mayPo s.2 (l.drop s.1)) (fun s => l.length - s.1) (0, -1) (.cons rfl (.cons rfl (.cons rfl (.cons rfl .nil)))) ?_ ?_ -- loop 0
  · exact ⟨Step.refl _ _, Nat.zero_le _, rfl⟩
  · rintro ⟨k, last⟩ w1 ⟨S, hk, hr⟩
    dsimp only at hk hr ⊢
    have hMw := S.lt hM
    refine T.seq ?_
    refine T.region ?_ -- region 3
    refine Rg.ilt rfl rfl rfl ?_
    refine Rg.nil ?_
    refine T.seq ?_
    refine T.ifp rfl (fun c3 => ?_) (fun c3 => ?_)
    · -- c3 True
      refine T.skip ?_
      refine T.seq ?_
      refine T.block ?_
      refine T.seq ?_
      refine T.region ?_ -- region 4
      obtain ⟨⟨d, ps⟩, hx⟩ : ∃ x, l[k]? = some x := ⟨_, List.getElem?_eq_getElem (by omega)⟩
      refine Rg.idx (M := M) Try.underlying28 I37 rfl rfl rfl (hv.le S.le) (Le.refl _ _) (by omega) (fun u4_0 a4_0 hg4_0 hu4_0 => ?_)
      obtain rfl : a4_0 = (d, ps) := Option.some.inj (hg4_0.symm.trans (by simpa using hx))
      refine Rg.loadagg (M := M) (A := RT.po) Try.underlying37 rfl I37 (by decide) rfl rfl rfl (by assumption) (by repeat (first | exact Le.refl _ _ | refine Le.trans (Step.le (by assumption)) ?_)) (fun v4_1 hv4_1 => ?_)
      refine Rg.newagg (A := RT.po) (M := M) I37 rfl rfl rfl rfl rfl (by assumption) (by repeat (first | exact Le.refl _ _ | refine Le.trans (Step.le (by assumption)) ?_)) (by first | assumption | exact Step.lt (by assumption) (by assumption) | exact Step.lt (by assumption) (Step.lt (by assumption) (by assumption))) (fun u4_2 w4_2 hu4_2 s4_2 z4_2 => ?_)
      refine Rg.nil ?_
      refine T.seq ?_
      refine T.seq ?_
      refine T.region ?_ -- region 5
      refine Rg.fieldAddr (M := M) (A := RT.po) (B := RT.int .i64) Try.underlying37 rfl rfl I3 (by decide) (po0) rfl rfl (by decide) (by assumption) (by repeat (first | exact Le.refl _ _ | refine Le.trans (Step.le (by assumption)) ?_)) (fun u5_0 hu5_0 => ?_)
      refine Rg.loadi64 (M := M) Try.underlying3 rfl rfl hu5_0 (Le.refl _ _) (fun in5_1 => ?_)
      refine Rg.eqv (v' := .int .i64 d) rfl ?_
      simp only at in5_1
      refine Rg.move rfl rfl ?_
      refine Rg.ile rfl rfl rfl ?_
      refine Rg.move rfl rfl ?_
      refine Rg.gsplitp (g := 16) rfl (fun g5_4 => ?_) (fun g5_4 => ?_)
      · -- g5_4 True
        refine Rg.gno rfl rfl rfl rfl ?_
        refine Rg.gno rfl rfl rfl rfl ?_
        refine Rg.gno rfl rfl rfl rfl ?_
        refine Rg.pickt rfl rfl rfl ?_
        refine Rg.move rfl rfl ?_
        refine Rg.gno rfl rfl rfl rfl ?_
        refine Rg.gno rfl rfl rfl rfl ?_
        refine Rg.gno rfl rfl rfl rfl ?_
        refine Rg.gno rfl rfl rfl rfl ?_
        refine Rg.pickt rfl rfl rfl ?_
        refine Rg.move rfl rfl ?_
        refine Rg.gno rfl rfl rfl rfl ?_
        refine Rg.gno rfl rfl rfl rfl ?_
        refine Rg.gno rfl rfl rfl rfl ?_
        refine Rg.gno rfl rfl rfl rfl ?_
        refine Rg.pickt rfl rfl rfl ?_
        refine Rg.nil ?_
        refine T.ift rfl ?_
        refine T.seq ?_
        refine T.region ?_ -- region 6
        refine Rg.assign rfl rfl ?_
        refine Rg.nil ?_
        refine T.ret ?_
        refine Kret1 rfl rfl ⟨congrArg Value.bool (Eq.symm ?_), S.trans0 s4_2⟩
        rw [hr, mayPo_drop hx]
        first
        | (rw [decide_eq_false (show ¬ last < d by omega)]; simp; done)
        | (rw [decide_eq_false (show ¬ d < 2147483648 by omega)]; simp; done)
        | (rw [show ps = [] from List.length_eq_zero_iff.1 (by omega)]; simp; done)
        | (simp [c5]; done)
      · -- g5_4 False
        refine Rg.gyes rfl rfl ?_
        refine Rg.fieldAddr (M := M) (A := RT.po) (B := RT.int .i64) Try.underlying37 rfl rfl I3 (by decide) (po0) rfl rfl (by decide) (by assumption) (by repeat (first | exact Le.refl _ _ | refine Le.trans (Step.le (by assumption)) ?_)) (fun u5_5 hu5_5 => ?_)
        refine Rg.gyes rfl rfl ?_
        refine Rg.loadi64 (M := M) Try.underlying3 rfl rfl hu5_5 (Le.refl _ _) (fun in5_6 => ?_)
        refine Rg.eqv (v' := .int .i64 d) rfl ?_
        refine Rg.gyes rfl rfl ?_
        refine Rg.ige rfl rfl rfl ?_
        refine Rg.pickf rfl rfl rfl ?_
        refine Rg.move rfl rfl ?_
        refine Rg.gsplitp (g := 21) rfl (fun g5_9 => ?_) (fun g5_9 => ?_)
        · -- g5_9 True
          refine Rg.gno rfl rfl rfl rfl ?_
          refine Rg.gno rfl rfl rfl rfl ?_
          refine Rg.gno rfl rfl rfl rfl ?_
          refine Rg.gno rfl rfl rfl rfl ?_
          refine Rg.pickt rfl rfl rfl ?_
          refine Rg.move rfl rfl ?_
          refine Rg.gno rfl rfl rfl rfl ?_
          refine Rg.gno rfl rfl rfl rfl ?_
          refine Rg.gno rfl rfl rfl rfl ?_
          refine Rg.gno rfl rfl rfl rfl ?_
          refine Rg.pickt rfl rfl rfl ?_
          refine Rg.nil ?_
          refine T.ift rfl ?_
          refine T.seq ?_
          refine T.region ?_ -- region 6
          refine Rg.assign rfl rfl ?_
          refine Rg.nil ?_
          refine T.ret ?_
          refine Kret1 rfl rfl ⟨congrArg Value.bool (Eq.symm ?_), S.trans0 s4_2⟩
          rw [hr, mayPo_drop hx]
          first
          | (rw [decide_eq_false (show ¬ last < d by omega)]; simp; done)
          | (rw [decide_eq_false (show ¬ d < 2147483648 by omega)]; simp; done)
          | (rw [show ps = [] from List.length_eq_zero_iff.1 (by omega)]; simp; done)
          | (simp [c5]; done)
        · -- g5_9 False
          refine Rg.gyes rfl rfl ?_
          refine Rg.fieldAddr (M := M) (A := RT.po) (B := (RT.int .i64).sl) Try.underlying37 rfl rfl I23 (by decide) (po1) rfl rfl (by decide) (by assumption) (by repeat (first | exact Le.refl _ _ | refine Le.trans (Step.le (by assumption)) ?_)) (fun u5_10 hu5_10 => ?_)
          refine Rg.gyes rfl rfl ?_
          refine Rg.load (M := M) Try.underlying23 rfl rfl rfl rfl rfl (by assumption) (by repeat (first | exact Le.refl _ _ | refine Le.trans (Step.le (by assumption)) ?_)) (fun v5_11 hv5_11 => ?_)
          refine Rg.gyes rfl rfl ?_
          refine Rg.lensl Try.underlying23 rfl hv5_11 rfl ?_
          refine Rg.eqv (v' := .int .i64 ps.length) rfl ?_
          refine Rg.gyes rfl rfl ?_
          refine Rg.ieq rfl rfl rfl ?_
          refine Rg.pickf rfl rfl rfl ?_
          refine Rg.move rfl rfl ?_
          refine Rg.gsplitp (g := 27) rfl (fun g5_15 => ?_) (fun g5_15 => ?_)
          · -- g5_15 True
            refine Rg.gno rfl rfl rfl rfl ?_
            refine Rg.gno rfl rfl rfl rfl ?_
            refine Rg.gno rfl rfl rfl rfl ?_
            refine Rg.gno rfl rfl rfl rfl ?_
            refine Rg.pickt rfl rfl rfl ?_
            refine Rg.nil ?_
            refine T.ift rfl ?_
            refine T.seq ?_
            refine T.region ?_ -- region 6
            refine Rg.assign rfl rfl ?_
            refine Rg.nil ?_
            refine T.ret ?_
            refine Kret1 rfl rfl ⟨congrArg Value.bool (Eq.symm ?_), S.trans0 s4_2⟩
            rw [hr, mayPo_drop hx]
            first
            | (rw [decide_eq_false (show ¬ last < d by omega)]; simp; done)
            | (rw [decide_eq_false (show ¬ d < 2147483648 by omega)]; simp; done)
            | (rw [show ps = [] from List.length_eq_zero_iff.1 (by omega)]; simp; done)
            | (simp [c5]; done)
          · -- g5_15 False
            refine Rg.gyes rfl rfl ?_
            refine Rg.fieldAddr (M := M) (A := RT.po) (B := (RT.int .i64).sl) Try.underlying37 rfl rfl I23 (by decide) (po1) rfl rfl (by decide) (by assumption) (by repeat (first | exact Le.refl _ _ | refine Le.trans (Step.le (by assumption)) ?_)) (fun u5_16 hu5_16 => ?_)
            refine Rg.gyes rfl rfl ?_
            refine Rg.load (M := M) Try.underlying23 rfl rfl rfl rfl rfl (by assumption) (by repeat (first | exact Le.refl _ _ | refine Le.trans (Step.le (by assumption)) ?_)) (fun v5_17 hv5_17 => ?_)
            refine Rg.gyes rfl rfl ?_
            refine Rg.call rfl rfl E57 (prises_spec hv5_17) (fun r5 w5 h5 => ?_)
            obtain ⟨rfl, rfl⟩ := h5
            refine Rg.gyes rfl rfl ?_
            refine Rg.not rfl rfl ?_
            refine Rg.eqv (v' := .bool (decide (¬ risesB ps = true))) (by simp) ?_
            refine Rg.pickf rfl rfl rfl ?_
            refine Rg.nil ?_
            refine T.ifp rfl (fun c5 => ?_) (fun c5 => ?_)
            · -- c5 True
              refine T.seq ?_
              refine T.region ?_ -- region 6
              refine Rg.assign rfl rfl ?_
              refine Rg.nil ?_
              refine T.ret ?_
              refine Kret1 rfl rfl ⟨congrArg Value.bool (Eq.symm ?_), S.trans0 s4_2⟩
              rw [hr, mayPo_drop hx]
              first
              | (rw [decide_eq_false (show ¬ last < d by omega)]; simp; done)
              | (rw [decide_eq_false (show ¬ d < 2147483648 by omega)]; simp; done)
              | (rw [show ps = [] from List.length_eq_zero_iff.1 (by omega)]; simp; done)
              | (simp [c5]; done)
            · -- c5 False
              refine T.skip ?_
              refine T.region ?_ -- region 7
              refine Rg.fieldAddr (M := M) (A := RT.po) (B := RT.int .i64) Try.underlying37 rfl rfl I3 (by decide) (po0) rfl rfl (by decide) (by assumption) (by repeat (first | exact Le.refl _ _ | refine Le.trans (Step.le (by assumption)) ?_)) (fun u7_0 hu7_0 => ?_)
              refine Rg.loadi64 (M := M) Try.underlying3 rfl rfl hu7_0 (Le.refl _ _) (fun in7_1 => ?_)
              refine Rg.eqv (v' := .int .i64 d) rfl ?_
              refine Rg.assign rfl rfl ?_
              refine Rg.nil ?_
              refine T.region ?_ -- region 8
              refine Rg.iadd rfl rfl rfl (by omega) ?_
              refine Rg.move rfl rfl ?_
              refine Rg.nil ?_
              refine ⟨rfl, (k + 1, d), (.cons rfl (.cons rfl (.cons rfl (.cons rfl .nil)))), ?_, ?_⟩
              · refine ⟨S.trans0 s4_2, by simp only; omega, ?_⟩
                have hne : ps.isEmpty = false := by cases ps with
                  | nil => simp at g5_15
                  | cons a t => rfl
                rw [hr, mayPo_drop hx, decide_eq_true (show last < d by omega), decide_eq_true (show d < 2147483648 by omega), hne, Decidable.not_not.1 c5]; rfl
              · simp only; omega
    · -- c3 False
      refine T.exit ?_
      refine T.seq ?_
      refine T.region ?_ -- region 9
      refine Rg.assign rfl rfl ?_
      refine Rg.nil ?_
      refine T.ret ?_
      refine Kret1 rfl rfl ⟨congrArg Value.bool (Eq.symm ?_), S⟩
      rw [hr, List.drop_eq_nil_of_le (by omega)]; rfl

/-- 'slices.Chunk[[]concordance/api.Posting,concordance/api.Posting]' -/
theorem Chunk_spec {M : PSet} {w0 : World} {v : Value} {l : List Po} (hM : Lt M w0) (hv : ((RT.po).sl).V M w0 l v) :
    Spec Try.prog 50 #[v, .int .i64 8] w0 (fun v' w' => ∃ bs bn, v' = .func (.func 77) [].toArray [.pointer (some ⟨bs, 0, none⟩), .pointer (some ⟨bn, 0, none⟩)].toArray ∧ w'.heap[bs]? = some (.cells #[v] 28 (0, 0)) ∧ w'.heap[bn]? = some (.cells #[.int .i64 8] 3 (0, 0)) ∧ w0.heap.size ≤ bs ∧ w0.heap.size ≤ bn ∧ Step M w0 M w' none') := by
  refine spec_of (args := [v, .int .i64 8]) (fn := Try.f50) Try.func50 rfl (n := 9) Try.ntmps50 ?_
  refine T.seq ?_
  refine T.region ?_ -- region 0
  refine Rg.box M rfl rfl (fun bs w1 h1 h1' hS s1 => ?_)
  rw [V_cells hv] at hS
  refine Rg.box (ins M bs) rfl rfl (fun bn w2 h2 h2' hN s2 => ?_)
  have hS2 := s2.same0 hS
  have hz1 := s1.size
  refine Rg.assign rfl rfl ?_
  refine Rg.nil ?_
  refine T.seq ?_
  refine T.seq ?_
  refine T.region ?_ -- region 1
  refine Rg.loadc Try.underlying3 rfl rfl rfl hN rfl ?_
  refine Rg.ilt rfl rfl rfl ?_
  refine Rg.nil ?_
  refine T.iffp rfl ((by decide)) ?_
  refine T.skip ?_
  refine T.seq ?_
  refine T.region ?_ -- region 3
  refine Rg.makeFunc (xs := []) (ys := [.tmp 2, .tmp 3]) rfl rfl rfl ?_
  refine Rg.assign rfl rfl ?_
  refine Rg.nil ?_
  refine T.ret ?_
  exact Kret1 rfl rfl ⟨bs, bn, rfl, hS2, hN, h1, by omega, (s1.trans0 s2).back⟩

/-- 'slices.Chunk[[]concordance/api.Posting,concordance/api.Posting]$1' -/
theorem Chunk1_spec {w0 : World} {bs bn yl : Nat} {v : Value} {l : List Po} {M : PSet} {wv : World} {J : Nat → World → Prop} {Jx : World → Prop} (hv : ((RT.po).sl).V M wv l v) (hst : ∀ i w w', J i w → Step none' w none' w' none' → J i w') (hbx : ∀ i w, J i w → w.heap[bs]? = some (.cells #[v] 28 (0, 0)) ∧ w.heap[bn]? = some (.cells #[.int .i64 8] 3 (0, 0))) (hy : ∀ (i : Nat) (w : World) (u : Value), J i w → i < l.length → ((RT.po).sl).V M wv ((l.drop i).take 8) u → Yield Try.prog yl [u].toArray w (fun r w' => ∃ b, r = .bool b ∧ (b = true → J (min (i + 8) l.length) w') ∧ (b = false → Jx w'))) (h0 : J 0 w0) :
    Spec Try.prog 77 #[.func (.yield yl) #[] #[], .pointer (some ⟨bs, 0, none⟩), .pointer (some ⟨bn, 0, none⟩)] w0 (fun _ w' => J l.length w' ∨ Jx w') := by
  have hlen := V_sl_len hv
  refine spec_of (args := [.func (.yield yl) #[] #[], .pointer (some ⟨bs, 0, none⟩), .pointer (some ⟨bn, 0, none⟩)]) (fn := Try.f77) Try.func77 rfl (n := 31) Try.ntmps77 ?_
  refine T.seq ?_
  refine T.region ?_ -- region 0
  refine Rg.assign rfl rfl ?_
  refine Rg.nil ?_
  refine T.block ?_
  refine T.loop (σ := Nat) (fun s => [(0, .func (.yield yl) #[] #[]), (1, .pointer (some ⟨bs, 0, none⟩)), (2, .pointer (some ⟨bn, 0, none⟩)), (4, .int .i64 s)]) (fun s w => J (min s l.length) w ∧ s ≤ l.length + 8) (fun s => l.length + 8 - s) 0 (.cons rfl (.cons rfl (.cons rfl (.cons rfl .nil)))) ?_ ?_ -- loop 0
  · exact ⟨by rw [Nat.zero_min]; exact h0, Nat.zero_le _⟩
  · rintro k w1 ⟨hJ, hk⟩
    obtain ⟨hb1, hb2⟩ := hbx _ _ hJ
    refine T.seq ?_
    refine T.seq ?_
    refine T.region ?_ -- region 1
    refine Rg.move rfl rfl ?_
    refine Rg.loadc Try.underlying28 rfl rfl rfl hb1 rfl ?_
    first | refine Rg.lensl Try.underlying28 rfl (by assumption) rfl ?_ | refine Rg.lenown Try.underlying28 rfl (by assumption) rfl ?_
    refine Rg.ilt rfl rfl rfl ?_
    refine Rg.nil ?_
    refine T.ifp rfl (fun c1 => ?_) (fun c1 => ?_)
    · -- c1 True
      refine T.skip ?_
      refine T.seq ?_
      refine T.block ?_
      refine T.seq ?_
      apply T.draw (M := none') mixed [Asr.eq _, Asr.eq _, Asr.eq _, Asr.pure (fun v => ((RT.po).sl).V M wv (l.drop k) v), Asr.eq _, Asr.eq _, Asr.eq _] -- region 3
      · rfl
      · -- its operations
        refine Obls.cons ?_ ?_
        · intro wD E sD -- 0
          refine Rg.loadc Try.underlying3 rfl rfl rfl (Step.same0 sD hb2) rfl ?_
          exact Rg.nil ⟨rfl, rfl, _, rfl, rfl, Step.refl _ _⟩
        refine Obls.cons ?_ ?_
        · intro wD E sD -- 1
          refine Rg.loadc Try.underlying28 rfl rfl rfl (Step.same0 sD hb1) rfl ?_
          exact Rg.nil ⟨rfl, rfl, _, rfl, rfl, Step.refl _ _⟩
        refine Obls.cons ?_ ?_
        · intro wD E sD -- 2
          refine Rg.move rfl rfl ?_
          exact Rg.nil ⟨rfl, rfl, _, rfl, rfl, Step.refl _ _⟩
        refine Obls.cons ?_ ?_
        · intro wD E sD -- 3
          intro x_ hx_; have hx_ : x_ = _ := hx_; subst x_
          intro x_ hx_; have hx_ : x_ = _ := hx_; subst x_
          refine Rg.slice_l (A := RT.po) (hn := by decide) Try.underlying28 I37 rfl rfl rfl hv (by omega) (fun u hu => ?_)
          rw [Int.toNat_natCast] at hu
          exact Rg.nil ⟨rfl, rfl, _, rfl, hu, Step.refl _ _⟩
        refine Obls.cons ?_ ?_
        · intro wD E sD -- 4
          intro v3 hv3
          have hv3' : ((RT.po).sl).V M wv (l.drop k) v3 := hv3
          refine Rg.lensl Try.underlying28 rfl hv3' rfl ?_
          exact Rg.nil ⟨rfl, rfl, _, rfl, rfl, Step.refl _ _⟩
        refine Obls.cons ?_ ?_
        · intro wD E sD -- 5
          intro x_ hx_; have hx_ : x_ = _ := hx_; subst x_
          intro x_ hx_; have hx_ : x_ = _ := hx_; subst x_
          refine Rg.min2 rfl rfl rfl ?_
          exact Rg.nil ⟨rfl, rfl, _, rfl, rfl, Step.refl _ _⟩
        refine Obls.cons ?_ ?_
        · intro wD E sD -- 6
          intro x_ hx_; have hx_ : x_ = _ := hx_; subst x_
          intro x_ hx_; have hx_ : x_ = _ := hx_; subst x_
          intro x_ hx_; have hx_ : x_ = _ := hx_; subst x_
          intro x_ hx_; have hx_ : x_ = _ := hx_; subst x_
          intro v3 hv3
          intro x_ hx_; have hx_ : x_ = _ := hx_; subst x_
          intro x_ hx_; have hx_ : x_ = _ := hx_; subst x_
          refine Rg.assign rfl rfl ?_
          exact Rg.nil ⟨rfl, rfl, _, rfl, rfl, Step.refl _ _⟩
        exact Obls.nil
      · -- behind it
        intro wD3 sD3
        intro x_ hx_; have hx_ : x_ = _ := hx_; subst x_
        intro x_ hx_; have hx_ : x_ = _ := hx_; subst x_
        intro x_ hx_; have hx_ : x_ = _ := hx_; subst x_
        intro v3_3 hv3_3
        intro x_ hx_; have hx_ : x_ = _ := hx_; subst x_
        intro x_ hx_; have hx_ : x_ = _ := hx_; subst x_
        intro x_ hx_; have hx_ : x_ = _ := hx_; subst x_
        rw [show min k l.length = k from by omega] at hJ
        have hJ3 := hst _ _ _ hJ sD3
        obtain ⟨hb3, hb4⟩ := hbx _ _ hJ3
        refine T.seq ?_
        refine T.region ?_ -- region 4
        refine Rg.move rfl rfl ?_
        refine Rg.loadc Try.underlying28 rfl rfl rfl hb3 rfl ?_
        refine Rg.move rfl rfl ?_
        refine Rg.move rfl rfl ?_
        refine Rg.move rfl rfl ?_
        refine Rg.iadd rfl rfl rfl (by omega) ?_
        refine Rg.move rfl rfl ?_
        refine Rg.move rfl rfl ?_
        refine Rg.iadd rfl rfl rfl (by omega) ?_
        refine Rg.slice_lhm (A := RT.po) (hn := by decide) Try.underlying28 I37 rfl rfl rfl rfl rfl hv (by rw [List.length_drop]; omega) (fun u hu => ?_)
        have he : (l.take ((k : Int) + min 8 ((l.drop k).length : Int)).toNat).drop (k : Int).toNat = (l.drop k).take 8 := by
          rw [Int.toNat_natCast, List.drop_take, List.length_drop, show ((k : Int) + min 8 ((l.length - k : Nat) : Int)).toNat - k = min 8 (l.length - k) from by omega, List.take_eq_take_iff, List.length_drop]; omega
        rw [he] at hu
        refine Rg.yield rfl (vs := [u]) rfl rfl (hy k _ u hJ3 (by omega) hu) (fun r4 w4 h4 => ?_)
        obtain ⟨b, rfl, hb5, hb6⟩ := h4
        refine Rg.not rfl rfl ?_
        refine Rg.eqv (v' := .bool (decide (¬ b = true))) (by simp) ?_
        refine Rg.nil ?_
        refine T.ifp rfl (fun c4 => ?_) (fun c4 => ?_)
        · -- c4 True
          refine T.ret ?_
          exact Kret0 rfl (.inr (hb6 (by simpa using c4)))
        · -- c4 False
          refine T.skip ?_
          refine T.region ?_ -- region 2
          refine Rg.move rfl rfl ?_
          have hJ5 := hb5 (Decidable.not_not.1 c4)
          refine Rg.loadc Try.underlying3 rfl rfl rfl (hbx _ _ hJ5).2 rfl ?_
          refine Rg.iadd rfl rfl rfl (by omega) ?_
          refine Rg.assign rfl rfl ?_
          refine Rg.nil ?_
          refine ⟨rfl, k + 8, (.cons rfl (.cons rfl (.cons rfl (.cons rfl .nil)))), ?_, ?_⟩
          · exact ⟨hJ5, by omega⟩
          · show l.length + 8 - (k + 8) < l.length + 8 - k; omega
    · -- c1 False
      refine T.exit ?_
      rw [show min k l.length = l.length from by omega] at hJ
      change Kret Try.prog Try.f77 (fun _ w' => J l.length w' ∨ Jx w') .normal _ [] _
      exact Kret0n rfl (.inl hJ)

end Go.K

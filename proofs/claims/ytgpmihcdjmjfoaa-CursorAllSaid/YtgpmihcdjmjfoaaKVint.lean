/- The walks of Go functions, operation by operation. -/
import Derived.Test.YtgpmihcdjmjfoaaKTypes
import Derived.Test.YtgpmihcdjmjfoaaKNum
import Derived.Test.YtgpmihcdjmjfoaaKPure04
import Derived.Test.YtgpmihcdjmjfoaaKDraw
import Derived.Test.YtgpmihcdjmjfoaaProg
namespace Go.K
open Go.Proofs
set_option linter.unusedVariables false
set_option linter.unusedSimpArgs false
set_option maxRecDepth 10000

/-- 'concordance/vint.Put' -/
theorem Put_own {M : PSet} {w0 : World} {v : Value} {b : List UInt8} {n : Nat} (hM : Lt M w0) (hv : (RT.u8.sl).V M w0 b v) (hb : b.length ≤ 70368744177664) (hn : n ≤ 9223372036854775807) :
    Spec Try.prog 51 #[v, .int .i64 n] w0 (fun v' w' => ∃ M', Step M w0 M' w' none' ∧ Own RT.u8 5 M' w' w0.heap.size v' (b ++ put n)) := by
  have h9 := put_len9 hn
  refine spec_of (args := [v, .int .i64 n]) (fn := Try.f51) Try.func51 rfl (n := 26) Try.ntmps51 ?_
  refine T.seq ?_
  refine T.region ?_ -- region 0
  refine Rg.assign rfl rfl ?_
  refine Rg.nil ?_
  refine T.seq ?_
  refine T.region ?_ -- region 1
  refine Rg.move rfl rfl ?_
  refine Rg.move rfl rfl ?_
  first | refine Rg.lensl Try.underlying48 rfl (by assumption) rfl ?_ | refine Rg.lenown Try.underlying48 rfl (by assumption) rfl ?_
  refine Rg.move rfl rfl ?_
  first | refine Rg.lensl Try.underlying48 rfl (by assumption) rfl ?_ | refine Rg.lenown Try.underlying48 rfl (by assumption) rfl ?_
  refine Rg.slice_clip Try.underlying48 I5 rfl rfl rfl rfl hv ⟨rfl, rfl⟩ (fun a hva hnone => ?_)
  refine Rg.assign rfl rfl ?_
  refine Rg.nil ?_
  refine T.seq ?_
  refine T.block ?_
  refine T.loop (σ := Nat × Value × List UInt8) (fun s => [(0, s.2.1), (1, .int .i64 s.1)]) (fun s w => s.2.2 ++ put s.1 = b ++ put n ∧ ∃ M1, Lt M1 w ∧ Step M w0 M1 w none' ∧ Grow RT.u8 (by decide) 5 M1 w w0.heap.size s.2.1 s.2.2) (fun s => s.1) (n, _, b) (.cons rfl (.cons rfl .nil)) ?_ ?_ -- loop 0
  · exact ⟨rfl, M, hM, Step.refl _ _, .inr ⟨a, rfl, hnone, hva⟩⟩
  · rintro ⟨k, u0, acc⟩ w1 ⟨hacc, M1, hM1, s1, hg⟩
    dsimp only at hacc hg ⊢
    have hlen := congrArg List.length hacc
    have hpos := put_pos k
    simp only [List.length_append] at hlen
    refine T.seq ?_
    refine T.seq ?_
    refine T.region ?_ -- region 2
    refine Rg.move rfl rfl ?_
    refine Rg.ige rfl rfl rfl ?_
    refine Rg.nil ?_
    refine T.ifp rfl (fun c2 => ?_) (fun c2 => ?_)
    · -- c2 True
      refine T.skip ?_
      refine T.block ?_
      refine T.seq ?_
      refine T.region ?_ -- region 3
      refine Rg.move rfl rfl ?_
      refine Rg.move rfl rfl ?_
      refine Rg.conv Try.underlying3 Try.underlying5 rfl rfl ?_
      refine Rg.or rfl rfl rfl ?_
      refine Rg.eqv (congrArg _ (byte_or _)) ?_
      refine Rg.sl1 (A := RT.u8) (hn := by decide) (M := M1) Try.underlying48 I5 (by decide) rfl rfl hM1 (V_u8.2 rfl) (.inr ⟨rfl, rfl⟩) (fun u w2 hu s2 => ?_)
      refine Rg.appendg (M := M1) (base := w0.heap.size) Try.underlying48 I5 rfl rfl rfl rfl (hg.le s2) hu (Le.refl _ _) (by simp) (by simp; omega) (by simp; omega) (Nat.le_trans s1.size s2.size) (fun v3 M3 w3 ho3 s3 => ?_)
      refine Rg.assign rfl rfl ?_
      refine Rg.nil ?_
      refine T.region ?_ -- region 4
      refine Rg.move rfl rfl ?_
      refine Rg.shr rfl rfl rfl (by omega) ?_
      refine Rg.eqv (congrArg _ (shr7 _)) ?_
      refine Rg.assign rfl rfl ?_
      refine Rg.nil ?_
      refine ⟨rfl, (k / 128, v3, acc ++ [UInt8.ofNat (128 + k % 128)]), (.cons rfl (.cons rfl .nil)), ?_, ?_⟩
      · exact ⟨by rw [← hacc, put_ge (n := k) (by omega)]; simp, M3, s3.lt (s2.lt hM1), (s1.trans0 s2).transOwn s3 (Nat.le_refl _), .inl ho3⟩
      · show k / 128 < k; omega
    · -- c2 False
      refine T.exit ?_
      refine T.seq ?_
      refine T.region ?_ -- region 5
      refine Rg.move rfl rfl ?_
      refine Rg.move rfl rfl ?_
      refine Rg.conv Try.underlying3 Try.underlying5 rfl rfl ?_
      refine Rg.eqv (congrArg _ (byte_small _)) ?_
      refine Rg.sl1 (A := RT.u8) (hn := by decide) (M := M1) Try.underlying48 I5 (by decide) rfl rfl hM1 (V_u8.2 rfl) (.inr ⟨rfl, rfl⟩) (fun u w2 hu s2 => ?_)
      refine Rg.appendg (M := M1) (base := w0.heap.size) Try.underlying48 I5 rfl rfl rfl rfl (hg.le s2) hu (Le.refl _ _) (by simp) (by simp; omega) (by simp; omega) (Nat.le_trans s1.size s2.size) (fun v3 M3 w3 ho3 s3 => ?_)
      refine Rg.assign rfl rfl ?_
      refine Rg.nil ?_
      refine T.ret ?_
      refine Kret1 rfl rfl ⟨M3, (s1.trans0 s2).transOwn s3 (Nat.le_refl _), ?_⟩
      rw [← hacc, put_lt (n := k) (by omega)]
      exact ho3

theorem Put_spec {M : PSet} {w0 : World} {v : Value} {b : List UInt8} {n : Nat} (hM : Lt M w0) (hv : (RT.u8.sl).V M w0 b v) (hb : b.length ≤ 70368744177664) (hn : n ≤ 9223372036854775807) :
    Spec Try.prog 51 #[v, .int .i64 n] w0 (fun v' w' => Step M w0 M w' none' ∧ (RT.u8.sl).V M w' (b ++ put n) v') :=
  (Put_own hM hv hb hn).mono fun _ _ ⟨_, s, ho⟩ => ⟨s.back, Own.close hM s ho (by have := put_len9 hn; simp; omega)⟩

/-- 'concordance/vint.Get' -/
theorem Get_spec {M : PSet} {w0 : World} {v : Value} {b : List UInt8} {at_ : Int} (hv : (RT.u8.sl).V M w0 b v) (hat : -9223372036854775808 ≤ at_ ∧ at_ ≤ 9223372036854775807) :
    Spec Try.prog 78 #[v, .int .i64 at_] w0 (fun v' w' => v' = .tuple #[.int .i64 (get b at_).1, .int .i64 (get b at_).2.1, .int .i64 (get b at_).2.2] ∧ w0 = w') := by
  have hlen := V_sl_len hv
  refine spec_of (args := [v, .int .i64 at_]) (fn := Try.f78) Try.func78 rfl (n := 54) Try.ntmps78 ?_
  refine T.seq ?_
  refine T.region ?_ -- region 0
  refine Rg.assign rfl rfl ?_
  refine Rg.assign rfl rfl ?_
  refine Rg.assign rfl rfl ?_
  refine Rg.nil ?_
  refine T.seq ?_
  refine T.seq ?_
  refine T.region ?_ -- region 1
  refine Rg.move rfl rfl ?_
  refine Rg.ilt rfl rfl rfl ?_
  refine Rg.move rfl rfl ?_
  refine Rg.gsplitp (g := 12) rfl (fun g1_2 => ?_) (fun g1_2 => ?_)
  · -- g1_2 True
    obtain h17 : at_ < 0 ∨ (b.length : Int) < at_ := .inl g1_2
    refine Rg.gno rfl rfl rfl rfl ?_
    refine Rg.gno rfl rfl rfl rfl ?_
    refine Rg.gno rfl rfl rfl rfl ?_
    refine Rg.gno rfl rfl rfl rfl ?_
    refine Rg.pickt rfl rfl rfl ?_
    refine Rg.nil ?_
    refine T.ift rfl ?_
    refine T.seq ?_
    refine T.region ?_ -- region 2
    refine Rg.assign rfl rfl ?_
    refine Rg.assign rfl rfl ?_
    refine Rg.assign rfl rfl ?_
    refine Rg.nil ?_
    refine T.ret ?_
    have hget : get b at_ = (0, 0, 1) := by unfold get; rw [if_pos h17]
    exact Kret3 rfl rfl rfl rfl ⟨by rw [hget], rfl⟩
  · -- g1_2 False
    refine Rg.gyes rfl rfl ?_
    refine Rg.move rfl rfl ?_
    refine Rg.gyes rfl rfl ?_
    refine Rg.move rfl rfl ?_
    refine Rg.gyes rfl rfl ?_
    first | refine Rg.lensl Try.underlying48 rfl (by assumption) rfl ?_ | refine Rg.lenown Try.underlying48 rfl (by assumption) rfl ?_
    refine Rg.gyes rfl rfl ?_
    refine Rg.igt rfl rfl rfl ?_
    refine Rg.pickf rfl rfl rfl ?_
    refine Rg.nil ?_
    refine T.ifp rfl (fun c1 => ?_) (fun c1 => ?_)
    · -- c1 True
      obtain h17 : at_ < 0 ∨ (b.length : Int) < at_ := .inr c1
      refine T.seq ?_
      refine T.region ?_ -- region 2
      refine Rg.assign rfl rfl ?_
      refine Rg.assign rfl rfl ?_
      refine Rg.assign rfl rfl ?_
      refine Rg.nil ?_
      refine T.ret ?_
      have hget : get b at_ = (0, 0, 1) := by unfold get; rw [if_pos h17]
      exact Kret3 rfl rfl rfl rfl ⟨by rw [hget], rfl⟩
    · -- c1 False
      refine T.skip ?_
      refine T.seq ?_
      refine T.region ?_ -- region 3
      refine Rg.assign rfl rfl ?_
      refine Rg.nil ?_
      refine T.seq ?_
      refine T.seq ?_
      refine T.region ?_ -- region 4
      refine Rg.move rfl rfl ?_
      refine Rg.move rfl rfl ?_
      refine Rg.move rfl rfl ?_
      first | refine Rg.lensl Try.underlying48 rfl (by assumption) rfl ?_ | refine Rg.lenown Try.underlying48 rfl (by assumption) rfl ?_
      refine Rg.move rfl rfl ?_
      refine Rg.iadd rfl rfl rfl (by omega) ?_
      refine Rg.min2 rfl rfl rfl ?_
      refine Rg.slice_lh Try.underlying48 I5 rfl rfl rfl rfl hv (by omega) (fun u hu => ?_)
      rw [show (min (b.length : Int) (at_ + 9)).toNat = min b.length (at_.toNat + 9) from by omega, window] at hu
      have hget : get b at_ = match getL ((b.drop at_.toNat).take 9) 0 0 with | some (n, k) => ((n : Int), at_ + k, 0) | none => (0, 0, 2) := by unfold get; rw [if_neg (by omega)]; rfl
      have hbl : ((b.drop at_.toNat).take 9).length ≤ 9 := by rw [List.length_take]; omega
      generalize (b.drop at_.toNat).take 9 = bs at hu hget hbl
      first | refine Rg.lensl Try.underlying48 rfl (by assumption) rfl ?_ | refine Rg.lenown Try.underlying48 rfl (by assumption) rfl ?_
      refine Rg.move rfl rfl ?_
      refine Rg.nil ?_
      refine T.block ?_
      refine T.loop (σ := Nat × Nat) (fun s => [(1, .int .i64 at_), (25, u), (26, .int .i64 bs.length), (27, .int .i64 s.1), (7, .int .i64 s.2)]) (fun s w => w0 = w ∧ s.1 ≤ bs.length ∧ s.2 < 128 ^ s.1 ∧ getL (bs.drop s.1) s.1 s.2 = getL bs 0 0) (fun s => bs.length - s.1) (0, 0) (.cons rfl (.cons rfl (.cons rfl (.cons rfl (.cons rfl .nil))))) ?_ ?_ -- loop 0
      · exact ⟨rfl, Nat.zero_le _, by decide, rfl⟩
      · rintro ⟨k, m⟩ w1 ⟨rfl, hk, hm, hg⟩
        dsimp only at hk hm hg ⊢
        refine T.seq ?_
        refine T.region ?_ -- region 5
        refine Rg.ilt rfl rfl rfl ?_
        refine Rg.nil ?_
        refine T.seq ?_
        refine T.ifp rfl (fun c5 => ?_) (fun c5 => ?_)
        · -- c5 True
          refine T.skip ?_
          refine T.seq ?_
          refine T.block ?_
          refine T.seq ?_
          refine T.region ?_ -- region 6
          refine Rg.move rfl rfl ?_
          refine Rg.idx (M := M) Try.underlying48 I5 rfl rfl rfl (by assumption) (by repeat (first | exact Le.refl _ _ | refine Le.trans (Step.le (by assumption)) ?_)) (by omega) (fun u6_1 a6_1 hg6_1 hu6_1 => ?_)
          refine Rg.loadu8 (M := M) Try.underlying5 rfl rfl (by assumption) (by repeat (first | exact Le.refl _ _ | refine Le.trans (Step.le (by assumption)) ?_)) ?_
          refine Rg.assign rfl rfl ?_
          refine Rg.assign rfl rfl ?_
          refine Rg.nil ?_
          refine T.seq ?_
          refine T.region ?_ -- region 7
          refine Rg.move rfl rfl ?_
          refine Rg.move rfl rfl ?_
          refine Rg.andNot rfl rfl rfl ?_
          refine Rg.eqv (congrArg _ (byte_andNot _)) ?_
          refine Rg.conv64 Try.underlying5 Try.underlying3 rfl rfl (by omega) ?_
          refine Rg.move rfl rfl ?_
          refine Rg.imul rfl rfl rfl (by omega) ?_
          refine Rg.shl rfl rfl rfl (by omega) ?_
          refine Rg.or rfl rfl rfl ?_
          refine Rg.eqv (congrArg _ (or_digit k m _ (by omega) hm (by omega))) ?_
          refine Rg.assign rfl rfl ?_
          refine Rg.nil ?_
          refine T.seq ?_
          refine T.region ?_ -- region 8
          refine Rg.move rfl rfl ?_
          refine Rg.ilt rfl rfl rfl ?_
          refine Rg.nil ?_
          refine T.ifp rfl (fun c8 => ?_) (fun c8 => ?_)
          · -- c8 True
            refine T.seq ?_
            refine T.seq ?_
            refine T.region ?_ -- region 9
            refine Rg.move rfl rfl ?_
            refine Rg.ieq rfl rfl rfl ?_
            refine Rg.move rfl rfl ?_
            refine Rg.gsplitp (g := 44) rfl (fun g9_2 => ?_) (fun g9_2 => ?_)
            · -- g9_2 True
              refine Rg.gyes rfl rfl ?_
              refine Rg.move rfl rfl ?_
              refine Rg.gyes rfl rfl ?_
              refine Rg.igt rfl rfl rfl ?_
              refine Rg.pickt rfl rfl rfl ?_
              refine Rg.nil ?_
              refine T.ifp rfl (fun c9 => ?_) (fun c9 => ?_)
              · -- c9 True
                refine T.exit ?_
                refine T.seq ?_
                refine T.region ?_ -- region 12
                refine Rg.assign rfl rfl ?_
                refine Rg.assign rfl rfl ?_
                refine Rg.assign rfl rfl ?_
                refine Rg.nil ?_
                refine T.ret ?_
                have hr : getL bs 0 0 = none := by
                  rw [← hg]
                  first
                  | (rw [getL_drop (by simpa using hg6_1), if_pos (by omega), if_pos (by omega)])
                  | (rw [List.drop_eq_nil_of_le (by omega)]; rfl)
                exact Kret3 rfl rfl rfl rfl ⟨by rw [hget, hr], rfl⟩
              · -- c9 False
                refine T.skip ?_
                refine T.seq ?_
                refine T.region ?_ -- region 10
                refine Rg.move rfl rfl ?_
                refine Rg.move rfl rfl ?_
                refine Rg.move rfl rfl ?_
                refine Rg.iadd rfl rfl rfl (by omega) ?_
                refine Rg.iadd rfl rfl rfl (by omega) ?_
                refine Rg.assign rfl rfl ?_
                refine Rg.assign rfl rfl ?_
                refine Rg.assign rfl rfl ?_
                refine Rg.nil ?_
                refine T.ret ?_
                have hr : getL bs 0 0 = some (m + a6_1.toNat % 128 * 128 ^ k, k + 1) := by rw [← hg, getL_drop (by simpa using hg6_1), if_pos (by omega), if_neg (by omega)]
                exact Kret3 rfl rfl rfl rfl ⟨by rw [hget, hr]; simp; omega, rfl⟩
            · -- g9_2 False
              refine Rg.gno rfl rfl rfl rfl ?_
              refine Rg.gno rfl rfl rfl rfl ?_
              refine Rg.pickf rfl rfl rfl ?_
              refine Rg.nil ?_
              refine T.iff rfl ?_
              refine T.skip ?_
              refine T.seq ?_
              refine T.region ?_ -- region 10
              refine Rg.move rfl rfl ?_
              refine Rg.move rfl rfl ?_
              refine Rg.move rfl rfl ?_
              refine Rg.iadd rfl rfl rfl (by omega) ?_
              refine Rg.iadd rfl rfl rfl (by omega) ?_
              refine Rg.assign rfl rfl ?_
              refine Rg.assign rfl rfl ?_
              refine Rg.assign rfl rfl ?_
              refine Rg.nil ?_
              refine T.ret ?_
              have hr : getL bs 0 0 = some (m + a6_1.toNat % 128 * 128 ^ k, k + 1) := by rw [← hg, getL_drop (by simpa using hg6_1), if_pos (by omega), if_neg (by omega)]
              exact Kret3 rfl rfl rfl rfl ⟨by rw [hget, hr]; simp; omega, rfl⟩
          · -- c8 False
            refine T.skip ?_
            refine T.region ?_ -- region 11
            refine Rg.iadd rfl rfl rfl (by omega) ?_
            refine Rg.move rfl rfl ?_
            refine Rg.nil ?_
            refine ⟨rfl, (k + 1, m + a6_1.toNat % 128 * 128 ^ k), (.cons rfl (.cons rfl (.cons rfl (.cons rfl (.cons rfl .nil))))), ?_, ?_⟩
            · refine ⟨rfl, by simp only; omega, ?_, ?_⟩
              · have := Nat.mul_le_mul_right (128 ^ k) (show a6_1.toNat % 128 ≤ 127 from by omega)
                simp only [Nat.pow_succ]; omega
              · rw [getL_drop (by simpa using hg6_1), if_neg (by omega)] at hg; exact hg
            · simp only; omega
        · -- c5 False
          refine T.exit ?_
          refine T.seq ?_
          refine T.region ?_ -- region 12
          refine Rg.assign rfl rfl ?_
          refine Rg.assign rfl rfl ?_
          refine Rg.assign rfl rfl ?_
          refine Rg.nil ?_
          refine T.ret ?_
          have hr : getL bs 0 0 = none := by
            rw [← hg]
            first
            | (rw [getL_drop (by simpa using hg6_1), if_pos (by omega), if_pos (by omega)])
            | (rw [List.drop_eq_nil_of_le (by omega)]; rfl)
          exact Kret3 rfl rfl rfl rfl ⟨by rw [hget, hr], rfl⟩

/-- 'concordance/vint.PutRising' -/
theorem PutRising_own {M : PSet} {w0 : World} {v u : Value} {b : List UInt8} {l : List Int} (hM : Lt M w0) (hv : (RT.u8.sl).V M w0 b v) (hu : ((RT.int .i64).sl).V M w0 l u) (hb : b.length + 9 * (l.length + 1) ≤ 70368744177664) :
    Spec Try.prog 52 #[v, u] w0 (fun v' w' => ∃ M' x, Step M w0 M' w' none' ∧ v' = .tuple #[x, .int .i64 (if rises (-1) l then 0 else 1)] ∧ Own RT.u8 5 M' w' w0.heap.size x (if rises (-1) l then b ++ putRising l else [])) := by
  have hpl := put_len9 (n := l.length) (by omega)
  refine spec_of (args := [v, u]) (fn := Try.f52) Try.func52 rfl (n := 31) Try.ntmps52 ?_
  refine T.seq ?_
  refine T.region ?_ -- region 0
  refine Rg.assign rfl rfl ?_
  refine Rg.assign rfl rfl ?_
  refine Rg.nil ?_
  refine T.seq ?_
  refine T.region ?_ -- region 1
  refine Rg.move rfl rfl ?_
  refine Rg.move rfl rfl ?_
  refine Rg.lensl Try.underlying23 rfl hu rfl ?_
  refine Rg.call rfl rfl E51 (Put_own (M := M) hM hv (by omega) (by omega)) (fun ub wb hb2 => ?_)
  obtain ⟨Mb, sb, hob⟩ := hb2
  refine Rg.assign rfl rfl ?_
  refine Rg.nil ?_
  refine T.seq ?_
  refine T.region ?_ -- region 2
  refine Rg.assign rfl rfl ?_
  refine Rg.nil ?_
  refine T.seq ?_
  refine T.seq ?_
  refine T.region ?_ -- region 3
  refine Rg.move rfl rfl ?_
  refine Rg.lensl Try.underlying23 rfl hu rfl ?_
  refine Rg.move rfl rfl ?_
  refine Rg.nil ?_
  refine T.block ?_
  refine T.loop (σ := Nat × Int × Value × List UInt8) (fun s => [(0, s.2.2.1), (6, .int .i64 s.2.1), (13, u), (14, .int .i64 l.length), (15, .int .i64 s.1)]) (fun s w => rises (-1) l = rises s.2.1 (l.drop s.1) ∧ (rises (-1) l = true → s.2.2.2 ++ putR s.2.1 (l.drop s.1) = b ++ putRising l) ∧ s.1 ≤ l.length ∧ -1 ≤ s.2.1 ∧ s.2.2.2.length ≤ b.length + 9 * (s.1 + 1) ∧ ∃ M1, Lt M1 w ∧ Step M w0 M1 w none' ∧ Own RT.u8 5 M1 w w0.heap.size s.2.2.1 s.2.2.2) (fun s => l.length - s.1) (0, -1, _, b ++ put l.length) (.cons rfl (.cons rfl (.cons rfl (.cons rfl (.cons rfl .nil))))) ?_ ?_ -- loop 0
  · exact ⟨rfl, fun _ => by simp [putRising], Nat.zero_le _, by simp only; omega, by simp; omega, Mb, sb.lt hM, sb, hob⟩
  · rintro ⟨k, last, u0, acc⟩ w1 ⟨hr, hacc, hk, hl0, hal, M1, hM1, s1, ho⟩
    dsimp only at hr hacc hk hl0 hal ho ⊢
    refine T.seq ?_
    refine T.region ?_ -- region 4
    refine Rg.ilt rfl rfl rfl ?_
    refine Rg.nil ?_
    refine T.seq ?_
    refine T.ifp rfl (fun c4 => ?_) (fun c4 => ?_)
    · -- c4 True
      refine T.skip ?_
      refine T.seq ?_
      refine T.block ?_
      refine T.seq ?_
      refine T.region ?_ -- region 5
      obtain ⟨x, hx⟩ : ∃ x, l[k]? = some x := ⟨_, List.getElem?_eq_getElem (by omega)⟩
      have hxr := i64_of hu hx
      refine Rg.idx (M := M) Try.underlying23 I3 rfl rfl rfl (hu.le (s1.back).le) (Le.refl _ _) (by omega) (fun u5_0 a5_0 hg5_0 hu5_0 => ?_)
      obtain rfl : a5_0 = x := Option.some.inj (hg5_0.symm.trans (by simpa using hx))
      refine Rg.loadi64 (M := M) Try.underlying3 rfl rfl hu5_0 (Le.refl _ _) (fun _ => ?_)
      refine Rg.assign rfl rfl ?_
      refine Rg.nil ?_
      refine T.seq ?_
      refine T.seq ?_
      refine T.region ?_ -- region 6
      refine Rg.move rfl rfl ?_
      refine Rg.move rfl rfl ?_
      refine Rg.ile rfl rfl rfl ?_
      refine Rg.nil ?_
      refine T.ifp rfl (fun c6 => ?_) (fun c6 => ?_)
      · -- c6 True
        refine T.seq ?_
        refine T.region ?_ -- region 7
        refine Rg.assign rfl rfl ?_
        refine Rg.assign rfl rfl ?_
        refine Rg.nil ?_
        refine T.ret ?_
        have hrf : rises (-1) l = false := by rw [hr, rises_drop hx, decide_eq_false (by omega), Bool.false_and]
        exact Kret2 rfl rfl rfl ⟨M1, _, s1, by rw [hrf]; rfl, by rw [hrf]; exact Own.nil _ _ _ _ _⟩
      · -- c6 False
        refine T.skip ?_
        refine T.seq ?_
        refine T.region ?_ -- region 8
        refine Rg.move rfl rfl ?_
        refine Rg.move rfl rfl ?_
        refine Rg.move rfl rfl ?_
        refine Rg.subw rfl rfl rfl ?_
        refine Rg.subw rfl rfl rfl ?_
        have hpx := put_len9 (n := (a5_0 - last - 1).toNat) (by omega)
        refine Rg.eqv (v' := .int .i64 (((a5_0 - last - 1).toNat : Nat) : Int)) (by rw [IntKind.wrap_i64, IntKind.wrap_i64]; congr 1; omega) ?_
        have hfz := s1.freeze (v := u0) (fun b hb => (ho.base b hb).1)
        refine Rg.call rfl rfl E51 (Put_own (M := rm M1 u0) (hM1.rm u0) (ho.view (by omega)) (by omega) (by omega)) (fun ub wb hb2 => ?_)
        obtain ⟨Mb2, sb2, hob2⟩ := hb2
        refine Rg.assign rfl rfl ?_
        refine Rg.nil ?_
        refine T.region ?_ -- region 9
        refine Rg.move rfl rfl ?_
        refine Rg.assign rfl rfl ?_
        refine Rg.nil ?_
        refine T.region ?_ -- region 10
        refine Rg.iadd rfl rfl rfl (by omega) ?_
        refine Rg.move rfl rfl ?_
        refine Rg.nil ?_
        refine ⟨rfl, (k + 1, a5_0, ub, acc ++ put (a5_0 - last - 1).toNat), (.cons rfl (.cons rfl (.cons rfl (.cons rfl (.cons rfl .nil))))), ?_, ?_⟩
        · refine ⟨?_, fun h => ?_, by simp only; omega, by simp only; omega, by simp only [List.length_append]; omega, Mb2, sb2.lt (hM1.rm u0), hfz.trans0 sb2, hob2.rebase s1.size⟩
          · rw [hr, rises_drop hx, decide_eq_true (by omega), Bool.true_and]
          · rw [← hacc h, putR_drop hx]; simp
        · simp only; omega
    · -- c4 False
      refine T.exit ?_
      refine T.seq ?_
      refine T.region ?_ -- region 11
      refine Rg.move rfl rfl ?_
      refine Rg.assign rfl rfl ?_
      refine Rg.assign rfl rfl ?_
      refine Rg.nil ?_
      refine T.ret ?_
      have hrt : rises (-1) l = true := by rw [hr, List.drop_eq_nil_of_le (by omega)]; rfl
      have ha := hacc hrt
      rw [List.drop_eq_nil_of_le (by omega), putR, List.append_nil] at ha
      exact Kret2 rfl rfl rfl ⟨M1, _, s1, by rw [hrt]; rfl, by rw [hrt, ← ha]; exact ho⟩

theorem PutRising_spec {M : PSet} {w0 : World} {v u : Value} {b : List UInt8} {l : List Int} (hM : Lt M w0) (hv : (RT.u8.sl).V M w0 b v) (hu : ((RT.int .i64).sl).V M w0 l u) (hb : b.length + 9 * (l.length + 1) ≤ 70368744177664) :
    Spec Try.prog 52 #[v, u] w0 (fun v' w' => ∃ x, Step M w0 M w' none' ∧ v' = .tuple #[x, .int .i64 (if rises (-1) l then 0 else 1)] ∧ (RT.u8.sl).V M w' (if rises (-1) l then b ++ putRising l else []) x) :=
  (PutRising_own hM hv hu hb).mono fun _ _ ⟨_, x, s, h, ho⟩ => ⟨x, s.back, h, Own.close hM s ho (by
    split
    next hr =>
      have hpl := put_len9 (n := l.length) (by omega)
      have hall : ∀ x ∈ l, x ≤ 9223372036854775807 := fun x hx => by obtain ⟨i, hi⟩ := List.mem_iff_getElem?.1 hx; exact (i64_of hu hi).2
      have := putR_len l (-1) (by decide) hall hr
      simp only [putRising, List.length_append]; omega
    next => simp)⟩

/-- 'concordance/vint.GetRising$1' -/
theorem take_spec {M : PSet} {w0 : World} {be bb ba : Nat} {v : Value} {b : List UInt8} {at_ : Int} (he : w0.heap[be]? = some (.cells #[.int .i64 0] 31 (0, 0))) (hb : w0.heap[bb]? = some (.cells #[v] 48 (0, 0))) (ha : w0.heap[ba]? = some (.cells #[.int .i64 at_] 3 (0, 0))) (hne : be ≠ ba) (hMe : M be) (hMa : M ba) (hv : (RT.u8.sl).V M w0 b v) (hat : -9223372036854775808 ≤ at_ ∧ at_ ≤ 9223372036854775807) :
    Spec Try.prog 84 #[.pointer (some ⟨be, 0, none⟩), .pointer (some ⟨bb, 0, none⟩), .pointer (some ⟨ba, 0, none⟩)] w0 (fun v' w' => v' = .int .i64 (get b at_).1 ∧ w'.heap[be]? = some (.cells #[.int .i64 (get b at_).2.2] 31 (0, 0)) ∧ w'.heap[ba]? = some (.cells #[.int .i64 (get b at_).2.1] 3 (0, 0)) ∧ Step M w0 M w' (fun k => k = be ∨ k = ba)) := by
  refine spec_of (args := [.pointer (some ⟨be, 0, none⟩), .pointer (some ⟨bb, 0, none⟩), .pointer (some ⟨ba, 0, none⟩)]) (fn := Try.f84) Try.func84 rfl (n := 15) Try.ntmps84 ?_
  refine T.seq ?_
  refine T.region ?_ -- region 0
  refine Rg.assign rfl rfl ?_
  refine Rg.nil ?_
  refine T.seq ?_
  refine T.seq ?_
  refine T.region ?_ -- region 1
  refine Rg.loadc Try.underlying31 rfl rfl rfl (by assumption) rfl ?_
  refine Rg.ine rfl rfl rfl ?_
  refine Rg.nil ?_
  refine T.ifp rfl (fun c1 => ?_) (fun c1 => ?_)
  · -- c1 True
    exact absurd rfl c1
  · -- c1 False
    refine T.skip ?_
    refine T.seq ?_
    refine T.region ?_ -- region 3
    refine Rg.assign rfl rfl ?_
    refine Rg.nil ?_
    refine T.seq ?_
    refine T.region ?_ -- region 4
    refine Rg.loadc Try.underlying48 rfl rfl rfl (by assumption) rfl ?_
    refine Rg.loadc Try.underlying3 rfl rfl rfl (by assumption) rfl ?_
    refine Rg.call rfl rfl E78 (Get_spec hv hat) (fun r w1 h1 => ?_)
    obtain ⟨rfl, rfl⟩ := h1
    refine Rg.move rfl rfl ?_
    refine Rg.extract rfl rfl rfl ?_
    refine Rg.extract rfl rfl rfl ?_
    refine Rg.extract rfl rfl rfl ?_
    refine Rg.assign rfl rfl ?_
    refine Rg.storec (M := M) I3 rfl rfl ha rfl rfl hMa (fun w1 h1 s1 => ?_)
    refine Rg.storec (M := M) I31 rfl rfl (s1.keep he hne) rfl rfl hMe (fun w2 h2 s2 => ?_)
    refine Rg.nil ?_
    refine T.seq ?_
    refine T.region ?_ -- region 5
    refine Rg.move rfl rfl ?_
    refine Rg.assign rfl rfl ?_
    refine Rg.nil ?_
    refine T.ret ?_
    refine Kret1 rfl rfl ⟨rfl, h2, s2.keep h1 (Ne.symm hne), ?_⟩
    exact (s1.widen (fun b hb => .inr hb) (fun b hb => by rcases hb with rfl | rfl <;> assumption)).trans s2 (fun b _ hb => .inl hb)

/-- 'concordance/vint.GetRising' -/
theorem GetRising_spec {M : PSet} {w0 : World} {v : Value} {b : List UInt8} {at_ : Int} (hM : Lt M w0) (hv : (RT.u8.sl).V M w0 b v) (hat : -9223372036854775808 ≤ at_ ∧ at_ ≤ 9223372036854775807) (hbl : b.length ≤ 1099511627776) :
    Spec Try.prog 79 #[v, .int .i64 at_] w0 (fun v' w' => ∃ x, v' = .tuple #[x, .int .i64 (getRising b at_).2.2, .int .i64 (getRising b at_).1] ∧ ((RT.int .i64).sl).V M w' (getRising b at_).2.1 x ∧ Step M w0 M w' none') := by
  refine spec_of (args := [v, .int .i64 at_]) (fn := Try.f79) Try.func79 rfl (n := 48) Try.ntmps79 ?_
  refine T.seq ?_
  refine T.region ?_ -- region 0
  refine Rg.box M rfl rfl (fun bb w1 hbb hbb' hB s1 => ?_)
  rw [V_cells hv] at hB
  refine Rg.box (ins M bb) rfl rfl (fun ba w2 hba hba' hA s2 => ?_)
  refine Rg.assign rfl rfl ?_
  refine Rg.assign rfl rfl ?_
  refine Rg.assign rfl rfl ?_
  refine Rg.nil ?_
  refine T.seq ?_
  refine T.region ?_ -- region 1
  refine Rg.alloc (ins (ins M bb) ba) I31 rfl (fun be w3 hbe hbe' hE s3 => ?_)
  refine Rg.storec (M := ins (ins (ins M bb) ba) be) I31 rfl rfl hE rfl rfl (.inl rfl) (fun w4 hE4 s4 => ?_)
  have z1 := s1.size; have z2 := s2.size; have z3 := s3.size; have z4 := s4.size
  have S4 : Step M w0 (ins (ins (ins M bb) ba) be) w4 none' := ((s1.trans0 s2).trans0 s3).transNew s4 (fun k hk => by subst hk; omega)
  have hB4 := s4.keep (s3.same0 (s2.same0 hB)) (show bb ≠ be by omega)
  have hA4 := s4.keep (s3.same0 hA) (show ba ≠ be by omega)
  refine Rg.nil ?_
  refine T.seq ?_
  refine T.region ?_ -- region 2
  refine Rg.makeFunc (xs := []) rfl rfl rfl ?_
  refine Rg.assign rfl rfl ?_
  refine Rg.nil ?_
  refine T.seq ?_
  refine T.region ?_ -- region 3
  refine Rg.assign rfl rfl ?_
  refine Rg.nil ?_
  refine T.seq ?_
  refine T.region ?_ -- region 4
  refine Rg.assign rfl rfl ?_
  refine Rg.nil ?_
  refine T.seq ?_
  refine T.seq ?_
  refine T.region ?_ -- region 5
  refine Rg.move rfl rfl ?_
  refine Rg.callv (first := []) (xs := []) rfl rfl rfl E84 (take_spec (M := ins (ins (ins M bb) ba) be) hE4 hB4 hA4 (by omega) (.inl rfl) (.inr (.inl rfl)) (hv.le S4.le) hat) (fun r w5 h5 => ?_)
  obtain ⟨rfl, hE5, hA5, s5⟩ := h5
  have z5 := s5.size
  have S5 := S4.transNew s5 (fun k hk => by omega)
  have hB5 := s5.keep hB4 (by omega)
  obtain ⟨hn0, hn1, hn2, hn3⟩ := get_nonneg b at_
  refine Rg.eqv (v' := .int .i64 (((get b at_).1.toNat : Nat) : Int)) (by rw [Int.toNat_of_nonneg hn0]) ?_
  refine Rg.assign rfl rfl ?_
  refine Rg.nil ?_
  refine T.block ?_
  refine T.loop (σ := Nat × Int × Value × List Int × Int × Int) (fun s => [(7, .pointer (some ⟨be, 0, none⟩)), (3, .pointer (some ⟨ba, 0, none⟩)), (8, .func (.func 84) [].toArray [.pointer (some ⟨be, 0, none⟩), .pointer (some ⟨bb, 0, none⟩), .pointer (some ⟨ba, 0, none⟩)].toArray), (9, s.2.2.1), (10, .int .i64 s.2.1), (11, .int .i64 s.1)]) (fun s w => (s.1 : Int) ≤ 9223372036854775807 ∧ (s.2.2.2.2.1 = 0 → getRising b at_ = andThen s.2.2.2.1 (getRL b s.1 s.2.2.2.2.2 s.2.1)) ∧ (s.2.2.2.2.1 ≠ 0 → getRising b at_ = (s.2.2.2.2.1, [], 0)) ∧ (s.2.2.2.2.1 = 0 → -1 ≤ s.2.1 ∧ s.2.1 ≤ 4611686018427387904 ∧ (s.2.2.2.1.length : Int) ≤ s.2.2.2.2.2 ∧ s.2.2.2.2.2 ≤ b.length) ∧ s.2.2.2.1.length ≤ b.length + 1 ∧ ∃ M1, Lt M1 w ∧ Step M w0 M1 w none' ∧ w4.heap.size ≤ w.heap.size ∧ M1 be ∧ M1 ba ∧ Own (RT.int .i64) 3 M1 w w4.heap.size s.2.2.1 s.2.2.2.1 ∧ w.heap[be]? = some (.cells #[.int .i64 s.2.2.2.2.1] 31 (0, 0)) ∧ w.heap[ba]? = some (.cells #[.int .i64 s.2.2.2.2.2] 3 (0, 0)) ∧ w.heap[bb]? = some (.cells #[v] 48 (0, 0))) (fun s => s.1) ((get b at_).1.toNat, -1, _, [], (get b at_).2.2, (get b at_).2.1) (.cons rfl (.cons rfl (.cons rfl (.cons rfl (.cons rfl (.cons rfl .nil)))))) ?_ ?_ -- loop 0
  · refine ⟨by have := get_range b at_; simp only; omega, fun h => ?_, fun h => ?_, fun h => ?_, by simp, _, S5.lt hM, S5, z5, .inl rfl, .inr (.inl rfl), Own.nil _ _ _ _ _, hE5, hA5, hB5⟩
    · unfold getRising; rw [if_neg (by simpa using h)]; exact (andThen_nil _ (getRL_err b _ _ _)).symm
    · unfold getRising; rw [if_pos h]
    · have := get_ok h; simp only [List.length_nil]; omega
  · rintro ⟨many, last, u0, acc, e, a1⟩ wl ⟨hmb, hp1, hp2, hok, hal, M1, hM1, S, zl, hMe, hMa, ho, hE, hA, hB⟩
    dsimp only at hmb hp1 hp2 hok hal ho hE hA hB ⊢
    refine T.seq ?_
    refine T.seq ?_
    refine T.region ?_ -- region 6
    refine Rg.move rfl rfl ?_
    refine Rg.igt rfl rfl rfl ?_
    refine Rg.move rfl rfl ?_
    refine Rg.gsplitp (g := 18) rfl (fun g6_2 => ?_) (fun g6_2 => ?_)
    · -- g6_2 True
      refine Rg.gyes rfl rfl ?_
      refine Rg.loadc Try.underlying31 rfl rfl rfl (by assumption) rfl ?_
      refine Rg.gyes rfl rfl ?_
      refine Rg.ieq rfl rfl rfl ?_
      refine Rg.pickt rfl rfl rfl ?_
      refine Rg.nil ?_
      refine T.ifp rfl (fun c6 => ?_) (fun c6 => ?_)
      · -- c6 True
        refine T.skip ?_
        refine T.seq ?_
        refine T.block ?_
        refine T.seq ?_
        refine T.region ?_ -- region 8
        refine Rg.move rfl rfl ?_
        refine Rg.callv (first := []) (xs := []) rfl rfl rfl E84 (take_spec (M := M1) (by rw [c6] at hE; exact hE) hB hA (by omega) hMe hMa (hv.le S.le) (by have := hok c6; omega)) (fun r w6 h6 => ?_)
        obtain ⟨rfl, hE6, hA6, s6⟩ := h6
        have z6 := s6.size
        have S6 := S.transNew s6 (fun k hk => by omega)
        have hB6 := s6.keep hB (by omega)
        have ho6 := ho.step s6 (fun k hk h => by have := (ho.base k hk).1; omega)
        have hM6 := s6.lt hM1
        obtain ⟨hn0, hn1, hn2, hn3⟩ := get_nonneg b a1
        obtain ⟨hk1, hk2, hk3, hk4⟩ := hok c6
        refine Rg.assign rfl rfl ?_
        refine Rg.nil ?_
        refine T.seq ?_
        refine T.seq ?_
        refine T.region ?_ -- region 9
        refine Rg.loadc Try.underlying31 rfl rfl rfl (by assumption) rfl ?_
        refine Rg.ieq rfl rfl rfl ?_
        refine Rg.move rfl rfl ?_
        refine Rg.gsplitp (g := 28) rfl (fun g9_2 => ?_) (fun g9_2 => ?_)
        · -- g9_2 True
          refine Rg.gyes rfl rfl ?_
          refine Rg.move rfl rfl ?_
          refine Rg.gyes rfl rfl ?_
          refine Rg.move rfl rfl ?_
          refine Rg.gyes rfl rfl ?_
          refine Rg.isub rfl rfl rfl (by omega) ?_
          refine Rg.gyes rfl rfl ?_
          refine Rg.isub rfl rfl rfl (by omega) ?_
          refine Rg.gyes rfl rfl ?_
          refine Rg.igt rfl rfl rfl ?_
          refine Rg.pickt rfl rfl rfl ?_
          refine Rg.nil ?_
          refine T.ifp rfl (fun c9 => ?_) (fun c9 => ?_)
          · -- c9 True
            refine T.region ?_ -- region 10
            refine Rg.storec (M := M1) I31 rfl rfl hE6 rfl rfl hMe (fun w7 hE7 s7 => ?_)
            have z7 := s7.size
            replace S6 := S6.transNew s7 (fun k hk => by subst hk; omega)
            replace hB6 := s7.keep hB6 (show bb ≠ be by omega)
            replace hA6 := s7.keep hA6 (show ba ≠ be by omega)
            replace ho6 := ho6.step s7 (fun k hk h => by have := (ho.base k hk).1; omega)
            replace hM6 := s7.lt hM6
            replace hE6 := hE7
            refine Rg.nil ?_
            refine T.seq ?_
            refine T.region ?_ -- region 11
            refine Rg.move rfl rfl ?_
            refine Rg.move rfl rfl ?_
            refine Rg.addw rfl rfl rfl ?_
            refine Rg.addw rfl rfl rfl ?_
            refine Rg.assign rfl rfl ?_
            refine Rg.nil ?_
            refine T.region ?_ -- region 12
            refine Rg.move rfl rfl ?_
            refine Rg.move rfl rfl ?_
            refine Rg.sl1 (A := RT.int .i64) (hn := by decide) (M := M1) Try.underlying23 I3 (by decide) rfl rfl hM6 (V_i64 (wrap_range _)) (.inr ⟨rfl, rfl⟩) (fun u w8 hu s8 => ?_)
            refine Rg.append (M := M1) (base := w4.heap.size) Try.underlying23 I3 rfl rfl rfl rfl (ho6.step0 s8) hu (Le.refl _ _) (by simp; omega) (by simp; omega) (by have := s8.size; omega) (fun v9 M9 w9 ho9 s9 => ?_)
            have z8 := s8.size; have z9 := s9.size
            have hno : ∀ k, k < w4.heap.size → ¬ blk u0 k := fun k hk h => by have := (ho.base k h).1; omega
            have hE9 := s9.keep (s8.same0 hE6) (hno be (by omega))
            have hA9 := s9.keep (s8.same0 hA6) (hno ba (by omega))
            have hB9 := s9.keep (s8.same0 hB6) (hno bb (by omega))
            have S9 := (S6.trans0 s8).transBlk s9 (ho6.step0 s8) (by omega)
            have hM9 := s9.lt (s8.lt hM6)
            have hMe9 : M9 be := (s9.mem be (by omega)).2 hMe
            have hMa9 : M9 ba := (s9.mem ba (by omega)).2 hMa
            refine Rg.assign rfl rfl ?_
            refine Rg.nil ?_
            refine T.region ?_ -- region 7
            refine Rg.move rfl rfl ?_
            refine Rg.isub rfl rfl rfl (by omega) ?_
            refine Rg.assign rfl rfl ?_
            refine Rg.nil ?_
            refine ⟨rfl, (many - 1, (IntKind.i64.wrap (last + IntKind.i64.wrap ((get b a1).1 + 1))), v9, acc ++ [(IntKind.i64.wrap (last + IntKind.i64.wrap ((get b a1).1 + 1)))], (if (get b a1).2.2 = 0 ∧ 4611686018427387904 - last - 1 < (get b a1).1 then 2 else (get b a1).2.2), (get b a1).2.1), (.cons rfl (.cons rfl (.cons rfl (.cons rfl (.cons rfl (.cons (show some (Value.int .i64 ((many : Int) - 1)) = some (Value.int .i64 ((many - 1 : Nat) : Int)) from by congr 2; omega) .nil)))))), ?_, ?_⟩
            · have hx : (get b a1).2.2 = 0 → ¬ 4611686018427387904 - last - 1 < (get b a1).1 → (IntKind.i64.wrap (last + IntKind.i64.wrap ((get b a1).1 + 1))) = last + 1 + (get b a1).1 := fun h1 h2 => by rw [IntWalk.i64_in ((get b a1).1 + 1) (by omega), IntWalk.i64_in _ (by omega)]; omega
              have hm1 : many = (many - 1) + 1 := by omega
              have hp1' := hp1 c6
              rw [hm1] at hp1'
              refine ⟨by simp only; omega, fun h => ?_, fun h => ?_, fun h => ?_, by have := hok c6; simp only [List.length_append, List.length_cons, List.length_nil]; omega, M9, hM9, S9, by omega, hMe9, hMa9, ho9, ?_, hA9, hB9⟩
              · dsimp only at h ⊢
                have h3 : (get b a1).2.2 = 0 ∧ ¬ 4611686018427387904 - last - 1 < (get b a1).1 := by split at h <;> omega
                rw [hp1', andThen_next acc h3.1 h3.2, hx h3.1 h3.2]
              · dsimp only at h ⊢
                rw [hp1']
                split
                · rename_i h4; rw [getRL_big h4.1 h4.2]; rfl
                · rename_i h4
                  have h5 : (get b a1).2.2 ≠ 0 := by intro h6; rw [if_neg h4] at h; exact h h6
                  rw [getRL_fail h5]; unfold andThen; rw [if_pos h5]
              · dsimp only at h ⊢
                have h3 : (get b a1).2.2 = 0 ∧ ¬ 4611686018427387904 - last - 1 < (get b a1).1 := by split at h <;> omega
                have := get_ok h3.1
                rw [hx h3.1 h3.2]; simp only [List.length_append, List.length_cons, List.length_nil]; omega
              · dsimp only
                first
                | (rw [if_pos ⟨g9_2, c9⟩]; exact hE9)
                | (rw [if_neg (fun h => c9 h.2)]; exact hE9)
                | (rw [if_neg (fun h => g9_2 h.1)]; exact hE9)
            · simp only; omega
          · -- c9 False
            refine T.skip ?_
            refine T.seq ?_
            refine T.region ?_ -- region 11
            refine Rg.move rfl rfl ?_
            refine Rg.move rfl rfl ?_
            refine Rg.addw rfl rfl rfl ?_
            refine Rg.addw rfl rfl rfl ?_
            refine Rg.assign rfl rfl ?_
            refine Rg.nil ?_
            refine T.region ?_ -- region 12
            refine Rg.move rfl rfl ?_
            refine Rg.move rfl rfl ?_
            refine Rg.sl1 (A := RT.int .i64) (hn := by decide) (M := M1) Try.underlying23 I3 (by decide) rfl rfl hM6 (V_i64 (wrap_range _)) (.inr ⟨rfl, rfl⟩) (fun u w8 hu s8 => ?_)
            refine Rg.append (M := M1) (base := w4.heap.size) Try.underlying23 I3 rfl rfl rfl rfl (ho6.step0 s8) hu (Le.refl _ _) (by simp; omega) (by simp; omega) (by have := s8.size; omega) (fun v9 M9 w9 ho9 s9 => ?_)
            have z8 := s8.size; have z9 := s9.size
            have hno : ∀ k, k < w4.heap.size → ¬ blk u0 k := fun k hk h => by have := (ho.base k h).1; omega
            have hE9 := s9.keep (s8.same0 hE6) (hno be (by omega))
            have hA9 := s9.keep (s8.same0 hA6) (hno ba (by omega))
            have hB9 := s9.keep (s8.same0 hB6) (hno bb (by omega))
            have S9 := (S6.trans0 s8).transBlk s9 (ho6.step0 s8) (by omega)
            have hM9 := s9.lt (s8.lt hM6)
            have hMe9 : M9 be := (s9.mem be (by omega)).2 hMe
            have hMa9 : M9 ba := (s9.mem ba (by omega)).2 hMa
            refine Rg.assign rfl rfl ?_
            refine Rg.nil ?_
            refine T.region ?_ -- region 7
            refine Rg.move rfl rfl ?_
            refine Rg.isub rfl rfl rfl (by omega) ?_
            refine Rg.assign rfl rfl ?_
            refine Rg.nil ?_
            refine ⟨rfl, (many - 1, (IntKind.i64.wrap (last + IntKind.i64.wrap ((get b a1).1 + 1))), v9, acc ++ [(IntKind.i64.wrap (last + IntKind.i64.wrap ((get b a1).1 + 1)))], (if (get b a1).2.2 = 0 ∧ 4611686018427387904 - last - 1 < (get b a1).1 then 2 else (get b a1).2.2), (get b a1).2.1), (.cons rfl (.cons rfl (.cons rfl (.cons rfl (.cons rfl (.cons (show some (Value.int .i64 ((many : Int) - 1)) = some (Value.int .i64 ((many - 1 : Nat) : Int)) from by congr 2; omega) .nil)))))), ?_, ?_⟩
            · have hx : (get b a1).2.2 = 0 → ¬ 4611686018427387904 - last - 1 < (get b a1).1 → (IntKind.i64.wrap (last + IntKind.i64.wrap ((get b a1).1 + 1))) = last + 1 + (get b a1).1 := fun h1 h2 => by rw [IntWalk.i64_in ((get b a1).1 + 1) (by omega), IntWalk.i64_in _ (by omega)]; omega
              have hm1 : many = (many - 1) + 1 := by omega
              have hp1' := hp1 c6
              rw [hm1] at hp1'
              refine ⟨by simp only; omega, fun h => ?_, fun h => ?_, fun h => ?_, by have := hok c6; simp only [List.length_append, List.length_cons, List.length_nil]; omega, M9, hM9, S9, by omega, hMe9, hMa9, ho9, ?_, hA9, hB9⟩
              · dsimp only at h ⊢
                have h3 : (get b a1).2.2 = 0 ∧ ¬ 4611686018427387904 - last - 1 < (get b a1).1 := by split at h <;> omega
                rw [hp1', andThen_next acc h3.1 h3.2, hx h3.1 h3.2]
              · dsimp only at h ⊢
                rw [hp1']
                split
                · rename_i h4; rw [getRL_big h4.1 h4.2]; rfl
                · rename_i h4
                  have h5 : (get b a1).2.2 ≠ 0 := by intro h6; rw [if_neg h4] at h; exact h h6
                  rw [getRL_fail h5]; unfold andThen; rw [if_pos h5]
              · dsimp only at h ⊢
                have h3 : (get b a1).2.2 = 0 ∧ ¬ 4611686018427387904 - last - 1 < (get b a1).1 := by split at h <;> omega
                have := get_ok h3.1
                rw [hx h3.1 h3.2]; simp only [List.length_append, List.length_cons, List.length_nil]; omega
              · dsimp only
                first
                | (rw [if_pos ⟨g9_2, c9⟩]; exact hE9)
                | (rw [if_neg (fun h => c9 h.2)]; exact hE9)
                | (rw [if_neg (fun h => g9_2 h.1)]; exact hE9)
            · simp only; omega
        · -- g9_2 False
          refine Rg.gno rfl rfl rfl rfl ?_
          refine Rg.gno rfl rfl rfl rfl ?_
          refine Rg.gno rfl rfl rfl rfl ?_
          refine Rg.gno rfl rfl rfl rfl ?_
          refine Rg.gno rfl rfl rfl rfl ?_
          refine Rg.pickf rfl rfl rfl ?_
          refine Rg.nil ?_
          refine T.iff rfl ?_
          refine T.skip ?_
          refine T.seq ?_
          refine T.region ?_ -- region 11
          refine Rg.move rfl rfl ?_
          refine Rg.move rfl rfl ?_
          refine Rg.addw rfl rfl rfl ?_
          refine Rg.addw rfl rfl rfl ?_
          refine Rg.assign rfl rfl ?_
          refine Rg.nil ?_
          refine T.region ?_ -- region 12
          refine Rg.move rfl rfl ?_
          refine Rg.move rfl rfl ?_
          refine Rg.sl1 (A := RT.int .i64) (hn := by decide) (M := M1) Try.underlying23 I3 (by decide) rfl rfl hM6 (V_i64 (wrap_range _)) (.inr ⟨rfl, rfl⟩) (fun u w8 hu s8 => ?_)
          refine Rg.append (M := M1) (base := w4.heap.size) Try.underlying23 I3 rfl rfl rfl rfl (ho6.step0 s8) hu (Le.refl _ _) (by simp; omega) (by simp; omega) (by have := s8.size; omega) (fun v9 M9 w9 ho9 s9 => ?_)
          have z8 := s8.size; have z9 := s9.size
          have hno : ∀ k, k < w4.heap.size → ¬ blk u0 k := fun k hk h => by have := (ho.base k h).1; omega
          have hE9 := s9.keep (s8.same0 hE6) (hno be (by omega))
          have hA9 := s9.keep (s8.same0 hA6) (hno ba (by omega))
          have hB9 := s9.keep (s8.same0 hB6) (hno bb (by omega))
          have S9 := (S6.trans0 s8).transBlk s9 (ho6.step0 s8) (by omega)
          have hM9 := s9.lt (s8.lt hM6)
          have hMe9 : M9 be := (s9.mem be (by omega)).2 hMe
          have hMa9 : M9 ba := (s9.mem ba (by omega)).2 hMa
          refine Rg.assign rfl rfl ?_
          refine Rg.nil ?_
          refine T.region ?_ -- region 7
          refine Rg.move rfl rfl ?_
          refine Rg.isub rfl rfl rfl (by omega) ?_
          refine Rg.assign rfl rfl ?_
          refine Rg.nil ?_
          refine ⟨rfl, (many - 1, (IntKind.i64.wrap (last + IntKind.i64.wrap ((get b a1).1 + 1))), v9, acc ++ [(IntKind.i64.wrap (last + IntKind.i64.wrap ((get b a1).1 + 1)))], (if (get b a1).2.2 = 0 ∧ 4611686018427387904 - last - 1 < (get b a1).1 then 2 else (get b a1).2.2), (get b a1).2.1), (.cons rfl (.cons rfl (.cons rfl (.cons rfl (.cons rfl (.cons (show some (Value.int .i64 ((many : Int) - 1)) = some (Value.int .i64 ((many - 1 : Nat) : Int)) from by congr 2; omega) .nil)))))), ?_, ?_⟩
          · have hx : (get b a1).2.2 = 0 → ¬ 4611686018427387904 - last - 1 < (get b a1).1 → (IntKind.i64.wrap (last + IntKind.i64.wrap ((get b a1).1 + 1))) = last + 1 + (get b a1).1 := fun h1 h2 => by rw [IntWalk.i64_in ((get b a1).1 + 1) (by omega), IntWalk.i64_in _ (by omega)]; omega
            have hm1 : many = (many - 1) + 1 := by omega
            have hp1' := hp1 c6
            rw [hm1] at hp1'
            refine ⟨by simp only; omega, fun h => ?_, fun h => ?_, fun h => ?_, by have := hok c6; simp only [List.length_append, List.length_cons, List.length_nil]; omega, M9, hM9, S9, by omega, hMe9, hMa9, ho9, ?_, hA9, hB9⟩
            · dsimp only at h ⊢
              have h3 : (get b a1).2.2 = 0 ∧ ¬ 4611686018427387904 - last - 1 < (get b a1).1 := by split at h <;> omega
              rw [hp1', andThen_next acc h3.1 h3.2, hx h3.1 h3.2]
            · dsimp only at h ⊢
              rw [hp1']
              split
              · rename_i h4; rw [getRL_big h4.1 h4.2]; rfl
              · rename_i h4
                have h5 : (get b a1).2.2 ≠ 0 := by intro h6; rw [if_neg h4] at h; exact h h6
                rw [getRL_fail h5]; unfold andThen; rw [if_pos h5]
            · dsimp only at h ⊢
              have h3 : (get b a1).2.2 = 0 ∧ ¬ 4611686018427387904 - last - 1 < (get b a1).1 := by split at h <;> omega
              have := get_ok h3.1
              rw [hx h3.1 h3.2]; simp only [List.length_append, List.length_cons, List.length_nil]; omega
            · dsimp only
              first
              | (rw [if_pos ⟨g9_2, c9⟩]; exact hE9)
              | (rw [if_neg (fun h => c9 h.2)]; exact hE9)
              | (rw [if_neg (fun h => g9_2 h.1)]; exact hE9)
          · simp only; omega
      · -- c6 False
        refine T.exit ?_
        refine T.seq ?_
        refine T.seq ?_
        refine T.region ?_ -- region 13
        refine Rg.loadc Try.underlying31 rfl rfl rfl (by assumption) rfl ?_
        refine Rg.ine rfl rfl rfl ?_
        refine Rg.nil ?_
        refine T.ifp rfl (fun c13 => ?_) (fun c13 => ?_)
        · -- c13 True
          refine T.seq ?_
          apply T.draw (M := M1) mixed [Asr.eq _, Asr.eq _, Asr.eq _, Asr.eq _] -- region 14
          · rfl
          · -- its operations
            refine Obls.cons ?_ ?_
            · intro wD E sD -- 0
              refine Rg.loadc Try.underlying31 rfl rfl rfl (Step.same0 sD (by assumption)) rfl ?_
              exact Rg.nil ⟨rfl, rfl, _, rfl, rfl, Step.refl _ _⟩
            refine Obls.cons ?_ ?_
            · intro wD E sD -- 1
              refine Rg.assign rfl rfl ?_
              exact Rg.nil ⟨rfl, rfl, _, rfl, rfl, Step.refl _ _⟩
            refine Obls.cons ?_ ?_
            · intro wD E sD -- 2
              intro x_ hx_; have hx_ : x_ = _ := hx_; subst x_
              intro x_ hx_; have hx_ : x_ = _ := hx_; subst x_
              refine Rg.assign rfl rfl ?_
              exact Rg.nil ⟨rfl, rfl, _, rfl, rfl, Step.refl _ _⟩
            refine Obls.cons ?_ ?_
            · intro wD E sD -- 3
              intro x_ hx_; have hx_ : x_ = _ := hx_; subst x_
              intro x_ hx_; have hx_ : x_ = _ := hx_; subst x_
              intro x_ hx_; have hx_ : x_ = _ := hx_; subst x_
              intro x_ hx_; have hx_ : x_ = _ := hx_; subst x_
              intro x_ hx_; have hx_ : x_ = _ := hx_; subst x_
              refine Rg.assign rfl rfl ?_
              exact Rg.nil ⟨rfl, rfl, _, rfl, rfl, Step.refl _ _⟩
            exact Obls.nil
          · -- behind it
            intro wD14 sD14
            intro x_ hx_; have hx_ : x_ = _ := hx_; subst x_
            intro x_ hx_; have hx_ : x_ = _ := hx_; subst x_
            intro x_ hx_; have hx_ : x_ = _ := hx_; subst x_
            intro x_ hx_; have hx_ : x_ = _ := hx_; subst x_
            refine T.ret ?_
            have hr := hp2 c13
            exact Kret3 rfl rfl rfl rfl ⟨_, by rw [hr] <;> rfl, by rw [hr]; exact V_nil, (S.trans0 sD14).back⟩
        · -- c13 False
          refine T.skip ?_
          refine T.seq ?_
          apply T.draw (M := M1) mixed [Asr.eq _, Asr.eq _, Asr.eq _, Asr.eq _, Asr.eq _] -- region 15
          · rfl
          · -- its operations
            refine Obls.cons ?_ ?_
            · intro wD E sD -- 0
              refine Rg.move rfl rfl ?_
              exact Rg.nil ⟨rfl, rfl, _, rfl, rfl, Step.refl _ _⟩
            refine Obls.cons ?_ ?_
            · intro wD E sD -- 1
              refine Rg.loadc Try.underlying3 rfl rfl rfl (Step.same0 sD (by assumption)) rfl ?_
              exact Rg.nil ⟨rfl, rfl, _, rfl, rfl, Step.refl _ _⟩
            refine Obls.cons ?_ ?_
            · intro wD E sD -- 2
              intro x_ hx_; have hx_ : x_ = _ := hx_; subst x_
              intro x_ hx_; have hx_ : x_ = _ := hx_; subst x_
              refine Rg.assign rfl rfl ?_
              exact Rg.nil ⟨rfl, rfl, _, rfl, rfl, Step.refl _ _⟩
            refine Obls.cons ?_ ?_
            · intro wD E sD -- 3
              intro x_ hx_; have hx_ : x_ = _ := hx_; subst x_
              intro x_ hx_; have hx_ : x_ = _ := hx_; subst x_
              intro x_ hx_; have hx_ : x_ = _ := hx_; subst x_
              intro x_ hx_; have hx_ : x_ = _ := hx_; subst x_
              intro x_ hx_; have hx_ : x_ = _ := hx_; subst x_
              refine Rg.assign rfl rfl ?_
              exact Rg.nil ⟨rfl, rfl, _, rfl, rfl, Step.refl _ _⟩
            refine Obls.cons ?_ ?_
            · intro wD E sD -- 4
              intro x_ hx_; have hx_ : x_ = _ := hx_; subst x_
              intro x_ hx_; have hx_ : x_ = _ := hx_; subst x_
              intro x_ hx_; have hx_ : x_ = _ := hx_; subst x_
              intro x_ hx_; have hx_ : x_ = _ := hx_; subst x_
              intro x_ hx_; have hx_ : x_ = _ := hx_; subst x_
              refine Rg.assign rfl rfl ?_
              exact Rg.nil ⟨rfl, rfl, _, rfl, rfl, Step.refl _ _⟩
            exact Obls.nil
          · -- behind it
            intro wD15 sD15
            intro x_ hx_; have hx_ : x_ = _ := hx_; subst x_
            intro x_ hx_; have hx_ : x_ = _ := hx_; subst x_
            intro x_ hx_; have hx_ : x_ = _ := hx_; subst x_
            intro x_ hx_; have hx_ : x_ = _ := hx_; subst x_
            intro x_ hx_; have hx_ : x_ = _ := hx_; subst x_
            refine T.ret ?_
            have hz : many = 0 := by omega
            have hr := hp1 (by omega)
            rw [hz, getRL_zero] at hr
            simp only [andThen, ne_eq, not_true_eq_false, if_false, List.append_nil] at hr
            have S15 := S.trans0 sD15
            refine Kret3 rfl rfl rfl rfl ⟨_, by rw [hr] <;> rfl, ?_, S15.back⟩
            rw [hr]
            exact Own.close hM S15 ((ho.step0 sD15).rebase (by omega)) (by simp only; omega)
    · -- g6_2 False
      refine Rg.gno rfl rfl rfl rfl ?_
      refine Rg.gno rfl rfl rfl rfl ?_
      refine Rg.pickf rfl rfl rfl ?_
      refine Rg.nil ?_
      refine T.iff rfl ?_
      refine T.exit ?_
      refine T.seq ?_
      refine T.seq ?_
      refine T.region ?_ -- region 13
      refine Rg.loadc Try.underlying31 rfl rfl rfl (by assumption) rfl ?_
      refine Rg.ine rfl rfl rfl ?_
      refine Rg.nil ?_
      refine T.ifp rfl (fun c13 => ?_) (fun c13 => ?_)
      · -- c13 True
        refine T.seq ?_
        apply T.draw (M := M1) mixed [Asr.eq _, Asr.eq _, Asr.eq _, Asr.eq _] -- region 14
        · rfl
        · -- its operations
          refine Obls.cons ?_ ?_
          · intro wD E sD -- 0
            refine Rg.loadc Try.underlying31 rfl rfl rfl (Step.same0 sD (by assumption)) rfl ?_
            exact Rg.nil ⟨rfl, rfl, _, rfl, rfl, Step.refl _ _⟩
          refine Obls.cons ?_ ?_
          · intro wD E sD -- 1
            refine Rg.assign rfl rfl ?_
            exact Rg.nil ⟨rfl, rfl, _, rfl, rfl, Step.refl _ _⟩
          refine Obls.cons ?_ ?_
          · intro wD E sD -- 2
            intro x_ hx_; have hx_ : x_ = _ := hx_; subst x_
            intro x_ hx_; have hx_ : x_ = _ := hx_; subst x_
            refine Rg.assign rfl rfl ?_
            exact Rg.nil ⟨rfl, rfl, _, rfl, rfl, Step.refl _ _⟩
          refine Obls.cons ?_ ?_
          · intro wD E sD -- 3
            intro x_ hx_; have hx_ : x_ = _ := hx_; subst x_
            intro x_ hx_; have hx_ : x_ = _ := hx_; subst x_
            intro x_ hx_; have hx_ : x_ = _ := hx_; subst x_
            intro x_ hx_; have hx_ : x_ = _ := hx_; subst x_
            intro x_ hx_; have hx_ : x_ = _ := hx_; subst x_
            refine Rg.assign rfl rfl ?_
            exact Rg.nil ⟨rfl, rfl, _, rfl, rfl, Step.refl _ _⟩
          exact Obls.nil
        · -- behind it
          intro wD14 sD14
          intro x_ hx_; have hx_ : x_ = _ := hx_; subst x_
          intro x_ hx_; have hx_ : x_ = _ := hx_; subst x_
          intro x_ hx_; have hx_ : x_ = _ := hx_; subst x_
          intro x_ hx_; have hx_ : x_ = _ := hx_; subst x_
          refine T.ret ?_
          have hr := hp2 c13
          exact Kret3 rfl rfl rfl rfl ⟨_, by rw [hr] <;> rfl, by rw [hr]; exact V_nil, (S.trans0 sD14).back⟩
      · -- c13 False
        refine T.skip ?_
        refine T.seq ?_
        apply T.draw (M := M1) mixed [Asr.eq _, Asr.eq _, Asr.eq _, Asr.eq _, Asr.eq _] -- region 15
        · rfl
        · -- its operations
          refine Obls.cons ?_ ?_
          · intro wD E sD -- 0
            refine Rg.move rfl rfl ?_
            exact Rg.nil ⟨rfl, rfl, _, rfl, rfl, Step.refl _ _⟩
          refine Obls.cons ?_ ?_
          · intro wD E sD -- 1
            refine Rg.loadc Try.underlying3 rfl rfl rfl (Step.same0 sD (by assumption)) rfl ?_
            exact Rg.nil ⟨rfl, rfl, _, rfl, rfl, Step.refl _ _⟩
          refine Obls.cons ?_ ?_
          · intro wD E sD -- 2
            intro x_ hx_; have hx_ : x_ = _ := hx_; subst x_
            intro x_ hx_; have hx_ : x_ = _ := hx_; subst x_
            refine Rg.assign rfl rfl ?_
            exact Rg.nil ⟨rfl, rfl, _, rfl, rfl, Step.refl _ _⟩
          refine Obls.cons ?_ ?_
          · intro wD E sD -- 3
            intro x_ hx_; have hx_ : x_ = _ := hx_; subst x_
            intro x_ hx_; have hx_ : x_ = _ := hx_; subst x_
            intro x_ hx_; have hx_ : x_ = _ := hx_; subst x_
            intro x_ hx_; have hx_ : x_ = _ := hx_; subst x_
            intro x_ hx_; have hx_ : x_ = _ := hx_; subst x_
            refine Rg.assign rfl rfl ?_
            exact Rg.nil ⟨rfl, rfl, _, rfl, rfl, Step.refl _ _⟩
          refine Obls.cons ?_ ?_
          · intro wD E sD -- 4
            intro x_ hx_; have hx_ : x_ = _ := hx_; subst x_
            intro x_ hx_; have hx_ : x_ = _ := hx_; subst x_
            intro x_ hx_; have hx_ : x_ = _ := hx_; subst x_
            intro x_ hx_; have hx_ : x_ = _ := hx_; subst x_
            intro x_ hx_; have hx_ : x_ = _ := hx_; subst x_
            refine Rg.assign rfl rfl ?_
            exact Rg.nil ⟨rfl, rfl, _, rfl, rfl, Step.refl _ _⟩
          exact Obls.nil
        · -- behind it
          intro wD15 sD15
          intro x_ hx_; have hx_ : x_ = _ := hx_; subst x_
          intro x_ hx_; have hx_ : x_ = _ := hx_; subst x_
          intro x_ hx_; have hx_ : x_ = _ := hx_; subst x_
          intro x_ hx_; have hx_ : x_ = _ := hx_; subst x_
          intro x_ hx_; have hx_ : x_ = _ := hx_; subst x_
          refine T.ret ?_
          have hz : many = 0 := by omega
          have hr := hp1 (by omega)
          rw [hz, getRL_zero] at hr
          simp only [andThen, ne_eq, not_true_eq_false, if_false, List.append_nil] at hr
          have S15 := S.trans0 sD15
          refine Kret3 rfl rfl rfl rfl ⟨_, by rw [hr] <;> rfl, ?_, S15.back⟩
          rw [hr]
          exact Own.close hM S15 ((ho.step0 sD15).rebase (by omega)) (by simp only; omega)

end Go.K

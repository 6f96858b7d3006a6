/- The walks of Go functions, operation by operation. -/
import Derived.Test.YtgpmihcdjmjfoaaKTypes
import Derived.Test.YtgpmihcdjmjfoaaKNum
import Derived.Test.YtgpmihcdjmjfoaaKPure04
import Derived.Test.YtgpmihcdjmjfoaaKDraw
import Derived.Test.YtgpmihcdjmjfoaaProg
import Derived.KernelRfl
namespace Go.K
open Go.Proofs
namespace TKRef04
theorem E63 : Enters Try.prog 63 := enters Try.func63 rfl (by decide) -- concordance/concordanceref04.Get
theorem E65 : Enters Try.prog 65 := enters Try.func65 rfl (by decide) -- concordance/concordanceref04.Put
end TKRef04
open TKRef04
set_option linter.unusedVariables false
set_option linter.unusedSimpArgs false
set_option maxRecDepth 10000

/-- 'concordance/concordanceref01.Same' -/
theorem Same_spec {M : PSet} {w0 : World} {v u : Value} {a b : List Int} (hM : Lt M w0) (hv : ((RT.int .i64).sl).V M w0 a v) (hu : ((RT.int .i64).sl).V M w0 b u) :
    Spec Try.prog 23 #[v, u] w0 (fun v' w' => v' = .bool (decide (a = b)) ∧ Step M w0 M w' none') := by
  have hla := V_sl_len hv
  have hlb := V_sl_len hu
  refine spec_of (args := [v, u]) (fn := Try.f23) Try.func23 rfl (n := 26) Try.ntmps23 ?_
  refine T.seq ?_
  refine T.region ?_ -- region 0
  refine Rg.assign rfl rfl ?_
  refine Rg.nil ?_
  refine T.seq ?_
  refine T.seq ?_
  refine T.region ?_ -- region 1
  refine Rg.move rfl rfl ?_
  refine Rg.lensl Try.underlying23 rfl hv rfl ?_
  refine Rg.move rfl rfl ?_
  refine Rg.lensl Try.underlying23 rfl hu rfl ?_
  refine Rg.ine rfl rfl rfl ?_
  refine Rg.nil ?_
  refine T.ifp rfl (fun c1 => ?_) (fun c1 => ?_)
  · -- c1 True
    refine T.seq ?_
    refine T.region ?_ -- region 2
    refine Rg.assign rfl rfl ?_
    refine Rg.nil ?_
    refine T.ret ?_
    refine Kret1 rfl rfl ⟨?_, Step.refl _ _⟩
    rw [decide_eq_false]
    rintro rfl; exact c1 rfl
  · -- c1 False
    obtain hlen : a.length = b.length := by omega
    refine T.skip ?_
    refine T.seq ?_
    refine T.seq ?_
    refine T.region ?_ -- region 3
    refine Rg.assign rfl rfl ?_
    refine Rg.nil ?_
    refine T.block ?_
    refine T.loop (σ := Nat) (fun s => [(0, v), (1, u), (5, .int .i64 s)]) (fun s w => s ≤ a.length ∧ a.take s = b.take s ∧ Step M w0 M w none') (fun s => a.length - s) 0 (.cons rfl (.cons rfl (.cons rfl .nil))) ?_ ?_ -- loop 0
    · exact ⟨Nat.zero_le _, by simp, Step.refl _ _⟩
    · rintro k w1 ⟨hk, heq, s1⟩
      refine T.seq ?_
      refine T.seq ?_
      refine T.region ?_ -- region 4
      refine Rg.move rfl rfl ?_
      refine Rg.move rfl rfl ?_
      refine Rg.lensl Try.underlying23 rfl hv rfl ?_
      refine Rg.ilt rfl rfl rfl ?_
      refine Rg.nil ?_
      refine T.ifp rfl (fun c4 => ?_) (fun c4 => ?_)
      · -- c4 True
        refine T.skip ?_
        refine T.seq ?_
        refine T.block ?_
        refine T.seq ?_
        obtain ⟨x, hx⟩ : ∃ x, a[k]? = some x := ⟨_, List.getElem?_eq_getElem (by omega)⟩
        obtain ⟨y, hy⟩ : ∃ y, b[k]? = some y := ⟨_, List.getElem?_eq_getElem (by omega)⟩
        apply T.draw (M := M) mixed [Asr.eq _, Asr.eq _, Asr.ptr (RT.int .i64) x, Asr.eq _, Asr.eq _, Asr.eq _, Asr.ptr (RT.int .i64) y, Asr.eq _, Asr.eq _] -- region 6
        · rfl
        · -- its operations
          refine Obls.cons ?_ ?_
          · intro wD E sD -- 0
            refine Rg.move rfl rfl ?_
            exact Rg.nil ⟨rfl, rfl, _, rfl, rfl, Step.refl _ _⟩
          refine Obls.cons ?_ ?_
          · intro wD E sD -- 1
            refine Rg.move rfl rfl ?_
            exact Rg.nil ⟨rfl, rfl, _, rfl, rfl, Step.refl _ _⟩
          refine Obls.cons ?_ ?_
          · intro wD E sD -- 2
            intro x_ hx_; have hx_ : x_ = _ := hx_; subst x_
            intro x_ hx_; have hx_ : x_ = _ := hx_; subst x_
            refine Rg.idx (M := M) Try.underlying23 I3 rfl rfl rfl hv (by repeat (first | exact Le.refl _ _ | refine Le.trans (Step.le (by assumption)) ?_)) (by omega) (fun u6_2 a6_2 hg6_2 hu6_2 => ?_)
            obtain rfl : a6_2 = x := Option.some.inj (hg6_2.symm.trans (by simpa using hx))
            exact Rg.nil ⟨rfl, rfl, _, rfl, hu6_2, Step.refl _ _⟩
          refine Obls.cons ?_ ?_
          · intro wD E sD -- 3
            intro v2 hv2
            refine Rg.loadi64 (M := M) Try.underlying3 rfl rfl (by assumption) (by repeat (first | exact Le.refl _ _ | refine Le.trans (Step.le (by assumption)) ?_)) (fun in6_3 => ?_)
            exact Rg.nil ⟨rfl, rfl, _, rfl, rfl, Step.refl _ _⟩
          refine Obls.cons ?_ ?_
          · intro wD E sD -- 4
            refine Rg.move rfl rfl ?_
            exact Rg.nil ⟨rfl, rfl, _, rfl, rfl, Step.refl _ _⟩
          refine Obls.cons ?_ ?_
          · intro wD E sD -- 5
            refine Rg.move rfl rfl ?_
            exact Rg.nil ⟨rfl, rfl, _, rfl, rfl, Step.refl _ _⟩
          refine Obls.cons ?_ ?_
          · intro wD E sD -- 6
            intro x_ hx_; have hx_ : x_ = _ := hx_; subst x_
            intro x_ hx_; have hx_ : x_ = _ := hx_; subst x_
            refine Rg.idx (M := M) Try.underlying23 I3 rfl rfl rfl hu (by repeat (first | exact Le.refl _ _ | refine Le.trans (Step.le (by assumption)) ?_)) (by omega) (fun u6_6 a6_6 hg6_6 hu6_6 => ?_)
            obtain rfl : a6_6 = y := Option.some.inj (hg6_6.symm.trans (by simpa using hy))
            exact Rg.nil ⟨rfl, rfl, _, rfl, hu6_6, Step.refl _ _⟩
          refine Obls.cons ?_ ?_
          · intro wD E sD -- 7
            intro v6 hv6
            refine Rg.loadi64 (M := M) Try.underlying3 rfl rfl (by assumption) (by repeat (first | exact Le.refl _ _ | refine Le.trans (Step.le (by assumption)) ?_)) (fun in6_7 => ?_)
            exact Rg.nil ⟨rfl, rfl, _, rfl, rfl, Step.refl _ _⟩
          refine Obls.cons ?_ ?_
          · intro wD E sD -- 8
            intro x_ hx_; have hx_ : x_ = _ := hx_; subst x_
            intro x_ hx_; have hx_ : x_ = _ := hx_; subst x_
            refine Rg.ine rfl rfl rfl ?_
            exact Rg.nil ⟨rfl, rfl, _, rfl, rfl, Step.refl _ _⟩
          exact Obls.nil
        · -- behind it
          intro wD6 sD6
          intro x_ hx_; have hx_ : x_ = _ := hx_; subst x_
          intro x_ hx_; have hx_ : x_ = _ := hx_; subst x_
          intro v6_2 hv6_2
          intro x_ hx_; have hx_ : x_ = _ := hx_; subst x_
          intro x_ hx_; have hx_ : x_ = _ := hx_; subst x_
          intro x_ hx_; have hx_ : x_ = _ := hx_; subst x_
          intro v6_6 hv6_6
          intro x_ hx_; have hx_ : x_ = _ := hx_; subst x_
          intro x_ hx_; have hx_ : x_ = _ := hx_; subst x_
          refine T.ifp rfl (fun c6 => ?_) (fun c6 => ?_)
          · -- c6 True
            refine T.seq ?_
            refine T.region ?_ -- region 7
            refine Rg.assign rfl rfl ?_
            refine Rg.nil ?_
            refine T.ret ?_
            refine Kret1 rfl rfl ⟨?_, s1.trans0 sD6⟩
            rw [decide_eq_false]
            rintro rfl; rw [hx] at hy; cases hy; exact c6 rfl
          · -- c6 False
            refine T.skip ?_
            refine T.region ?_ -- region 5
            refine Rg.move rfl rfl ?_
            refine Rg.iadd rfl rfl rfl (by omega) ?_
            refine Rg.assign rfl rfl ?_
            refine Rg.nil ?_
            refine ⟨rfl, k + 1, (.cons rfl (.cons rfl (.cons rfl .nil))), ?_, ?_⟩
            · exact ⟨by omega, by rw [List.take_succ_eq_append_getElem (by omega), List.take_succ_eq_append_getElem (by omega), heq]; obtain ⟨_, h1⟩ := List.getElem?_eq_some_iff.1 hx; obtain ⟨_, h2⟩ := List.getElem?_eq_some_iff.1 hy; rw [h1, h2, Decidable.not_not.1 c6], s1.trans0 sD6⟩
            · show a.length - (k + 1) < a.length - k; omega
      · -- c4 False
        refine T.exit ?_
        refine T.seq ?_
        refine T.region ?_ -- region 8
        refine Rg.assign rfl rfl ?_
        refine Rg.nil ?_
        refine T.ret ?_
        refine Kret1 rfl rfl ⟨?_, s1⟩
        rw [decide_eq_true]
        rwa [List.take_of_length_le (by omega), List.take_of_length_le (by omega)] at heq

/-- 'concordance/concordanceref04.Put' -/
theorem rPut_own {M : PSet} {w0 : World} {n : Nat} (hM : Lt M w0) (hn : n ≤ 9223372036854775807) :
    Spec Try.prog 65 #[.int .i64 n] w0 (fun v' w' => ∃ M', Step M w0 M' w' none' ∧ Own RT.u8 5 M' w' w0.heap.size v' (put n)) := by
  have h9 := put_len9 hn
  refine spec_of (args := [.int .i64 n]) (fn := Try.f65) Try.func65 rfl (n := 20) Try.ntmps65 ?_
  refine T.seq ?_
  refine T.region ?_ -- region 0
  refine Rg.assign rfl rfl ?_
  refine Rg.nil ?_
  refine T.seq ?_
  refine T.region ?_ -- region 1
  refine Rg.assign rfl rfl ?_
  refine Rg.nil ?_
  refine T.seq ?_
  refine T.block ?_
  refine T.loop (σ := Nat × Value × List UInt8) (fun s => [(3, s.2.1), (0, .int .i64 s.1)]) (fun s w => s.2.2 ++ put s.1 = put n ∧ s.1 ≤ n ∧ ∃ M1, Lt M1 w ∧ Step M w0 M1 w none' ∧ Own RT.u8 5 M1 w w0.heap.size s.2.1 s.2.2) (fun s => s.1) (n, _, []) (.cons rfl (.cons rfl .nil)) ?_ ?_ -- loop 0
  · exact ⟨rfl, Nat.le_refl _, M, hM, Step.refl _ _, Own.nil _ _ _ _ _⟩
  · rintro ⟨k, u0, acc⟩ w1 ⟨hacc, hkn, M1, hM1, s1, ho⟩
    dsimp only at hacc hkn ho ⊢
    have hlen := congrArg List.length hacc
    have hpos := put_pos k
    simp only [List.length_append] at hlen
    refine T.seq ?_
    refine T.seq ?_
    refine T.region ?_ -- region 2
    refine Rg.move rfl rfl ?_
    refine Rg.ige rfl rfl rfl ?_
    refine Rg.nil ?_
    refine T.ifp rfl (fun c2 => ?_) (fun c2 => ?_)
    · -- c2 True
      refine T.skip ?_
      refine T.block ?_
      refine T.seq ?_
      refine T.region ?_ -- region 3
      refine Rg.move rfl rfl ?_
      refine Rg.move rfl rfl ?_
      refine Rg.imod rfl rfl rfl (by omega) ?_
      refine Rg.iadd rfl rfl rfl (by omega) ?_
      refine Rg.conv Try.underlying3 Try.underlying5 rfl rfl ?_
      refine Rg.eqv (congrArg (Value.int .u8) (show IntKind.u8.wrap (128 + (k : Int) % 128) = ((UInt8.ofNat (128 + k % 128)).toNat : Int) from by rw [show (128 + (k : Int) % 128) = ((128 + k % 128 : Nat) : Int) from by omega]; exact byte_small _)) ?_
      refine Rg.sl1 (A := RT.u8) (hn := by decide) (M := M1) Try.underlying48 I5 (by decide) rfl rfl hM1 (V_u8.2 rfl) (.inr ⟨rfl, rfl⟩) (fun u w2 hu s2 => ?_)
      refine Rg.append (M := M1) (base := w0.heap.size) Try.underlying48 I5 rfl rfl rfl rfl (ho.step0 s2) hu (Le.refl _ _) (by simp; omega) (by simp; omega) (Nat.le_trans s1.size s2.size) (fun v3 M3 w3 ho3 s3 => ?_)
      refine Rg.assign rfl rfl ?_
      refine Rg.nil ?_
      refine T.region ?_ -- region 4
      refine Rg.move rfl rfl ?_
      refine Rg.idiv rfl rfl rfl (by omega) ?_
      refine Rg.assign rfl rfl ?_
      refine Rg.nil ?_
      refine ⟨rfl, (k / 128, v3, acc ++ [UInt8.ofNat (128 + k % 128)]), (.cons rfl (.cons rfl .nil)), ?_, ?_⟩
      · exact ⟨by rw [← hacc, put_ge (n := k) (by omega)]; simp, by simp only; omega, M3, s3.lt (s2.lt hM1), (s1.trans0 s2).transBlk s3 (ho.step0 s2) (Nat.le_refl _), ho3⟩
      · show k / 128 < k; omega
    · -- c2 False
      refine T.exit ?_
      refine T.seq ?_
      refine T.region ?_ -- region 5
      refine Rg.move rfl rfl ?_
      refine Rg.move rfl rfl ?_
      refine Rg.conv Try.underlying3 Try.underlying5 rfl rfl ?_
      refine Rg.eqv (congrArg _ (byte_small _)) ?_
      refine Rg.sl1 (A := RT.u8) (hn := by decide) (M := M1) Try.underlying48 I5 (by decide) rfl rfl hM1 (V_u8.2 rfl) (.inr ⟨rfl, rfl⟩) (fun u w2 hu s2 => ?_)
      refine Rg.append (M := M1) (base := w0.heap.size) Try.underlying48 I5 rfl rfl rfl rfl (ho.step0 s2) hu (Le.refl _ _) (by simp; omega) (by simp; omega) (Nat.le_trans s1.size s2.size) (fun v3 M3 w3 ho3 s3 => ?_)
      refine Rg.assign rfl rfl ?_
      refine Rg.nil ?_
      refine T.ret ?_
      refine Kret1 rfl rfl ⟨M3, (s1.trans0 s2).transBlk s3 (ho.step0 s2) (Nat.le_refl _), ?_⟩
      rw [← hacc, put_lt (n := k) (by omega)]
      exact ho3

theorem rPut_spec {M : PSet} {w0 : World} {n : Nat} (hM : Lt M w0) (hn : n ≤ 9223372036854775807) : Spec Try.prog 65 #[.int .i64 n] w0 (fun v' w' => Step M w0 M w' none' ∧ (RT.u8.sl).V M w' (put n) v') :=
  (rPut_own hM hn).mono fun _ _ ⟨_, s, ho⟩ => ⟨s.back, Own.close hM s ho (by have := put_len9 hn; omega)⟩
/-- 'concordance/concordanceref04.Get' -/
theorem rGet_spec {M : PSet} {w0 : World} {v : Value} {b : List UInt8} {at_ : Int} (hM : Lt M w0) (hv : (RT.u8.sl).V M w0 b v) (hat : -9223372036854775808 ≤ at_ ∧ at_ ≤ 9223372036854775807) :
    Spec Try.prog 63 #[v, .int .i64 at_] w0 (fun v' w' => v' = .tuple #[.int .i64 (get b at_).1, .int .i64 (get b at_).2.1, .int .i64 (get b at_).2.2] ∧ Step M w0 M w' none') := by
  have hlen := V_sl_len hv
  refine spec_of (args := [v, .int .i64 at_]) (fn := Try.f63) Try.func63 rfl (n := 65) Try.ntmps63 ?_
  refine T.seq ?_
  refine T.region ?_ -- region 0
  refine Rg.assign rfl rfl ?_
  refine Rg.assign rfl rfl ?_
  refine Rg.assign rfl rfl ?_
  refine Rg.nil ?_
  refine T.seq ?_
  refine T.seq ?_
  refine T.region ?_ -- region 1
  refine Rg.move rfl rfl ?_
  refine Rg.ilt rfl rfl rfl ?_
  refine Rg.move rfl rfl ?_
  refine Rg.gsplitp (g := 13) rfl (fun g1_2 => ?_) (fun g1_2 => ?_)
  · -- g1_2 True
    obtain h17 : at_ < 0 ∨ (b.length : Int) < at_ := .inl g1_2
    refine Rg.gno rfl rfl rfl rfl ?_
    refine Rg.gno rfl rfl rfl rfl ?_
    refine Rg.gno rfl rfl rfl rfl ?_
    refine Rg.gno rfl rfl rfl rfl ?_
    refine Rg.pickt rfl rfl rfl ?_
    refine Rg.nil ?_
    refine T.ift rfl ?_
    refine T.seq ?_
    refine T.region ?_ -- region 2
    refine Rg.assign rfl rfl ?_
    refine Rg.assign rfl rfl ?_
    refine Rg.assign rfl rfl ?_
    refine Rg.nil ?_
    refine T.ret ?_
    have hget : get b at_ = (0, 0, 1) := by unfold get; rw [if_pos h17]
    exact Kret3 rfl rfl rfl rfl ⟨by rw [hget], Step.refl _ _⟩
  · -- g1_2 False
    refine Rg.gyes rfl rfl ?_
    refine Rg.move rfl rfl ?_
    refine Rg.gyes rfl rfl ?_
    refine Rg.move rfl rfl ?_
    refine Rg.gyes rfl rfl ?_
    first | refine Rg.lensl Try.underlying48 rfl (by assumption) rfl ?_ | refine Rg.lenown Try.underlying48 rfl (by assumption) rfl ?_
    refine Rg.gyes rfl rfl ?_
    refine Rg.igt rfl rfl rfl ?_
    refine Rg.pickf rfl rfl rfl ?_
    refine Rg.nil ?_
    refine T.ifp rfl (fun c1 => ?_) (fun c1 => ?_)
    · -- c1 True
      obtain h17 : at_ < 0 ∨ (b.length : Int) < at_ := .inr c1
      refine T.seq ?_
      refine T.region ?_ -- region 2
      refine Rg.assign rfl rfl ?_
      refine Rg.assign rfl rfl ?_
      refine Rg.assign rfl rfl ?_
      refine Rg.nil ?_
      refine T.ret ?_
      have hget : get b at_ = (0, 0, 1) := by unfold get; rw [if_pos h17]
      exact Kret3 rfl rfl rfl rfl ⟨by rw [hget], Step.refl _ _⟩
    · -- c1 False
      refine T.skip ?_
      refine T.seq ?_
      refine T.region ?_ -- region 3
      refine Rg.assign rfl rfl ?_
      refine Rg.nil ?_
      refine T.seq ?_
      refine T.region ?_ -- region 4
      refine Rg.assign rfl rfl ?_
      refine Rg.nil ?_
      refine T.seq ?_
      refine T.seq ?_
      refine T.region ?_ -- region 5
      have hget : get b at_ = match getL ((b.drop at_.toNat).take 9) 0 0 with | some (n, k) => ((n : Int), at_ + k, 0) | none => (0, 0, 2) := by unfold get; rw [if_neg (by omega)]; rfl
      have hbl : ((b.drop at_.toNat).take 9).length = min 9 (b.length - at_.toNat) := by rw [List.length_take, List.length_drop]
      have hbg : ∀ i : Nat, i < 9 → ((b.drop at_.toNat).take 9)[i]? = b[at_.toNat + i]? := fun i hi => by rw [List.getElem?_take, if_pos hi, List.getElem?_drop]
      have hbt : ∀ i : Nat, i < 9 → (b.take (at_.toNat + i + 1)).drop at_.toNat = ((b.drop at_.toNat).take 9).take (i + 1) := fun i hi => by rw [List.drop_take, List.take_take]; congr 1; omega
      generalize (b.drop at_.toNat).take 9 = bs at hget hbl hbg hbt
      refine Rg.assign rfl rfl ?_
      refine Rg.nil ?_
      refine T.block ?_
      refine T.loop (σ := Nat × Nat × Int) (fun s => [(0, v), (1, .int .i64 at_), (9, .int .i64 s.1), (7, .int .i64 s.2.1), (8, .int .i64 s.2.2)]) (fun s w => Step M w0 M w none' ∧ s.1 ≤ bs.length ∧ s.2.1 < 128 ^ s.1 ∧ (s.1 ≤ 8 → s.2.2 = ((128 ^ s.1 : Nat) : Int)) ∧ getL (bs.drop s.1) s.1 s.2.1 = getL bs 0 0 ∧ s.2.1 = val (bs.take s.1) ∧ ∀ d ∈ bs.take s.1, 128 ≤ d.toNat) (fun s => bs.length - s.1) (0, 0, 1) (.cons rfl (.cons rfl (.cons rfl (.cons rfl (.cons rfl .nil))))) ?_ ?_ -- loop 0
      · exact ⟨Step.refl _ _, Nat.zero_le _, by decide, fun _ => rfl, rfl, rfl, by simp⟩
      · rintro ⟨k, m, kk⟩ w1 ⟨s1, hk, hm, hkk, hg, hval, hall⟩
        dsimp only at hk hm hkk hg hval hall ⊢
        refine T.seq ?_
        refine T.seq ?_
        refine T.region ?_ -- region 6
        refine Rg.move rfl rfl ?_
        refine Rg.ilt rfl rfl rfl ?_
        refine Rg.move rfl rfl ?_
        refine Rg.gsplitp (g := 21) rfl (fun g6_2 => ?_) (fun g6_2 => ?_)
        · -- g6_2 True
          refine Rg.gyes rfl rfl ?_
          refine Rg.move rfl rfl ?_
          refine Rg.gyes rfl rfl ?_
          refine Rg.move rfl rfl ?_
          refine Rg.gyes rfl rfl ?_
          refine Rg.iadd rfl rfl rfl (by omega) ?_
          refine Rg.gyes rfl rfl ?_
          refine Rg.move rfl rfl ?_
          refine Rg.gyes rfl rfl ?_
          first | refine Rg.lensl Try.underlying48 rfl (by assumption) rfl ?_ | refine Rg.lenown Try.underlying48 rfl (by assumption) rfl ?_
          refine Rg.gyes rfl rfl ?_
          refine Rg.ilt rfl rfl rfl ?_
          refine Rg.pickt rfl rfl rfl ?_
          refine Rg.nil ?_
          refine T.ifp rfl (fun c6 => ?_) (fun c6 => ?_)
          · -- c6 True
            refine T.skip ?_
            refine T.seq ?_
            refine T.block ?_
            refine T.seq ?_
            refine T.region ?_ -- region 8
            refine Rg.move rfl rfl ?_
            refine Rg.move rfl rfl ?_
            refine Rg.move rfl rfl ?_
            refine Rg.iadd rfl rfl rfl (by omega) ?_
            refine Rg.idx (M := M) Try.underlying48 I5 rfl rfl rfl (by assumption) (by repeat (first | exact Le.refl _ _ | refine Le.trans (Step.le (by assumption)) ?_)) (by omega) (fun u8_4 a8_4 hg8_4 hu8_4 => ?_)
            refine Rg.loadu8 (M := M) Try.underlying5 rfl rfl (by assumption) (by repeat (first | exact Le.refl _ _ | refine Le.trans (Step.le (by assumption)) ?_)) ?_
            have hc : bs[k]? = some a8_4 := by rw [hbg k (by omega), ← hg8_4]; congr 1; omega
            have hcl := u8_lt a8_4
            have hm9 : m < 128 ^ 9 := Nat.lt_of_lt_of_le hm (Nat.pow_le_pow_right (by decide) (by omega))
            refine Rg.conv64 Try.underlying5 Try.underlying3 rfl rfl (by omega) ?_
            refine Rg.assign rfl rfl ?_
            refine Rg.nil ?_
            refine T.seq ?_
            refine T.region ?_ -- region 9
            refine Rg.move rfl rfl ?_
            refine Rg.move rfl rfl ?_
            refine Rg.imod rfl rfl rfl (by omega) ?_
            refine Rg.move rfl rfl ?_
            obtain rfl : kk = ((128 ^ k : Nat) : Int) := hkk (by omega)
            have hp : 128 ^ k ≤ 128 ^ 8 := Nat.pow_le_pow_right (by decide) (by omega)
            have hq : (a8_4.toNat : Int) % 128 * ((128 ^ k : Nat) : Int) = ((a8_4.toNat % 128 * 128 ^ k : Nat) : Int) := by simp
            have hq2 : a8_4.toNat % 128 * 128 ^ k ≤ 127 * 128 ^ k := Nat.mul_le_mul_right _ (by omega)
            refine Rg.imul rfl rfl rfl (by rw [hq]; omega) ?_
            refine Rg.eqv (congrArg _ hq) ?_
            refine Rg.iadd rfl rfl rfl (by omega) ?_
            refine Rg.assign rfl rfl ?_
            refine Rg.nil ?_
            refine T.seq ?_
            refine T.region ?_ -- region 10
            refine Rg.move rfl rfl ?_
            refine Rg.mulw rfl rfl rfl ?_
            refine Rg.assign rfl rfl ?_
            refine Rg.nil ?_
            refine T.seq ?_
            refine T.region ?_ -- region 11
            refine Rg.move rfl rfl ?_
            refine Rg.ilt rfl rfl rfl ?_
            refine Rg.nil ?_
            refine T.ifp rfl (fun c11 => ?_) (fun c11 => ?_)
            · -- c11 True
              refine T.seq ?_
              refine T.seq ?_
              have hdl : k < bs.length := (List.getElem?_eq_some_iff.1 hc).1
              have htk : bs.take (k + 1) = bs.take k ++ [a8_4] := by rw [List.take_succ_eq_append_getElem hdl, (List.getElem?_eq_some_iff.1 hc).2]
              have hval2 : m + a8_4.toNat % 128 * 128 ^ k = val (bs.take k ++ [a8_4]) := by rw [val_snoc, ← hval, List.length_take, Nat.min_eq_left hk]
              have hne := put_ne (l := bs.take k) (c := a8_4) hall (by omega)
              apply T.draw (M := M) mixed [Asr.eq _, Asr.V (RT.u8.sl) (put (m + a8_4.toNat % 128 * 128 ^ k)), Asr.eq _, Asr.eq _, Asr.eq _, Asr.eq _, Asr.eq _, Asr.eq _, Asr.eq _, Asr.V (RT.u8.sl) (bs.take (k + 1)), Asr.eq _, Asr.eq _] -- region 12
              · rfl
              · -- its operations
                refine Obls.cons ?_ ?_
                · intro wD E sD -- 0
                  refine Rg.move rfl rfl ?_
                  exact Rg.nil ⟨rfl, rfl, _, rfl, rfl, Step.refl _ _⟩
                refine Obls.cons ?_ ?_
                · intro wD E sD -- 1
                  intro x_ hx_; have hx_ : x_ = _ := hx_; subst x_
                  refine Rg.call rfl rfl E65 (rPut_spec (M := M) (sD.lt (s1.lt hM)) (by have := Nat.pow_le_pow_right (n := 128) (by decide) (show k + 1 ≤ 9 by omega); rw [Nat.pow_succ] at this; omega)) (fun v w2 h2 => ?_)
                  exact Rg.nil ⟨rfl, rfl, _, rfl, h2.2, h2.1⟩
                refine Obls.cons ?_ ?_
                · intro wD E sD -- 2
                  intro v1 hv1
                  refine Rg.b2s (M := M) Try.underlying48 Try.underlying5 Try.underlying9 rfl rfl (by assumption) (by repeat (first | exact Le.refl _ _ | refine Le.trans (Step.le (by assumption)) ?_)) ?_
                  exact Rg.nil ⟨rfl, rfl, _, rfl, rfl, Step.refl _ _⟩
                refine Obls.cons ?_ ?_
                · intro wD E sD -- 3
                  refine Rg.move rfl rfl ?_
                  exact Rg.nil ⟨rfl, rfl, _, rfl, rfl, Step.refl _ _⟩
                refine Obls.cons ?_ ?_
                · intro wD E sD -- 4
                  refine Rg.move rfl rfl ?_
                  exact Rg.nil ⟨rfl, rfl, _, rfl, rfl, Step.refl _ _⟩
                refine Obls.cons ?_ ?_
                · intro wD E sD -- 5
                  refine Rg.move rfl rfl ?_
                  exact Rg.nil ⟨rfl, rfl, _, rfl, rfl, Step.refl _ _⟩
                refine Obls.cons ?_ ?_
                · intro wD E sD -- 6
                  refine Rg.move rfl rfl ?_
                  exact Rg.nil ⟨rfl, rfl, _, rfl, rfl, Step.refl _ _⟩
                refine Obls.cons ?_ ?_
                · intro wD E sD -- 7
                  intro x_ hx_; have hx_ : x_ = _ := hx_; subst x_
                  intro x_ hx_; have hx_ : x_ = _ := hx_; subst x_
                  refine Rg.iadd rfl rfl rfl (by omega) ?_
                  exact Rg.nil ⟨rfl, rfl, _, rfl, rfl, Step.refl _ _⟩
                refine Obls.cons ?_ ?_
                · intro wD E sD -- 8
                  intro x_ hx_; have hx_ : x_ = _ := hx_; subst x_
                  refine Rg.iadd rfl rfl rfl (by omega) ?_
                  exact Rg.nil ⟨rfl, rfl, _, rfl, rfl, Step.refl _ _⟩
                refine Obls.cons ?_ ?_
                · intro wD E sD -- 9
                  intro x_ hx_; have hx_ : x_ = _ := hx_; subst x_
                  intro x_ hx_; have hx_ : x_ = _ := hx_; subst x_
                  intro x_ hx_; have hx_ : x_ = _ := hx_; subst x_
                  refine Rg.slice_lh Try.underlying48 I5 rfl rfl rfl rfl ((hv.le s1.le).le sD.le) (by omega) (fun u9 hu9 => ?_)
                  rw [show (at_ + (k : Int) + 1).toNat = at_.toNat + k + 1 from by omega, hbt k (by omega)] at hu9
                  exact Rg.nil ⟨rfl, rfl, _, rfl, hu9, Step.refl _ _⟩
                refine Obls.cons ?_ ?_
                · intro wD E sD -- 10
                  intro v9 hv9
                  refine Rg.b2s (M := M) Try.underlying48 Try.underlying5 Try.underlying9 rfl rfl (by assumption) (by repeat (first | exact Le.refl _ _ | refine Le.trans (Step.le (by assumption)) ?_)) ?_
                  exact Rg.nil ⟨rfl, rfl, _, rfl, rfl, Step.refl _ _⟩
                refine Obls.cons ?_ ?_
                · intro wD E sD -- 11
                  intro x_ hx_; have hx_ : x_ = _ := hx_; subst x_
                  intro x_ hx_; have hx_ : x_ = _ := hx_; subst x_
                  refine Rg.strne rfl rfl rfl ?_
                  exact Rg.nil ⟨rfl, rfl, _, rfl, rfl, Step.refl _ _⟩
                exact Obls.nil
              · -- behind it
                intro wD12 sD12
                intro x_ hx_; have hx_ : x_ = _ := hx_; subst x_
                intro v12_1 hv12_1
                intro x_ hx_; have hx_ : x_ = _ := hx_; subst x_
                intro x_ hx_; have hx_ : x_ = _ := hx_; subst x_
                intro x_ hx_; have hx_ : x_ = _ := hx_; subst x_
                intro x_ hx_; have hx_ : x_ = _ := hx_; subst x_
                intro x_ hx_; have hx_ : x_ = _ := hx_; subst x_
                intro x_ hx_; have hx_ : x_ = _ := hx_; subst x_
                intro x_ hx_; have hx_ : x_ = _ := hx_; subst x_
                intro v12_9 hv12_9
                intro x_ hx_; have hx_ : x_ = _ := hx_; subst x_
                intro x_ hx_; have hx_ : x_ = _ := hx_; subst x_
                refine T.ifp rfl (fun c12 => ?_) (fun c12 => ?_)
                · -- c12 True
                  refine T.seq ?_
                  refine T.region ?_ -- region 13
                  refine Rg.assign rfl rfl ?_
                  refine Rg.assign rfl rfl ?_
                  refine Rg.assign rfl rfl ?_
                  refine Rg.nil ?_
                  refine T.ret ?_
                  have hr : getL bs 0 0 = none := by
                    rw [hval2, htk] at c12
                    have h5 := hne.1 (by simpa using c12)
                    rw [List.length_take, Nat.min_eq_left hk] at h5
                    rw [← hg, getL_drop hc, if_pos (by omega), if_pos h5]
                  exact Kret3 rfl rfl rfl rfl ⟨by rw [hget, hr], s1.trans0 sD12⟩
                · -- c12 False
                  refine T.skip ?_
                  refine T.seq ?_
                  refine T.region ?_ -- region 14
                  refine Rg.move rfl rfl ?_
                  refine Rg.move rfl rfl ?_
                  refine Rg.move rfl rfl ?_
                  refine Rg.iadd rfl rfl rfl (by omega) ?_
                  refine Rg.iadd rfl rfl rfl (by omega) ?_
                  refine Rg.assign rfl rfl ?_
                  refine Rg.assign rfl rfl ?_
                  refine Rg.assign rfl rfl ?_
                  refine Rg.nil ?_
                  refine T.ret ?_
                  have hr : getL bs 0 0 = some (m + a8_4.toNat % 128 * 128 ^ k, k + 1) := by
                    rw [hval2, htk] at c12
                    have h5 := fun h => c12 (hne.2 h)
                    rw [List.length_take, Nat.min_eq_left hk] at h5
                    rw [← hg, getL_drop hc, if_pos (by omega), if_neg h5]
                  exact Kret3 rfl rfl rfl rfl ⟨by rw [hget, hr]; simp; omega, s1.trans0 sD12⟩
            · -- c11 False
              refine T.skip ?_
              refine T.region ?_ -- region 7
              refine Rg.move rfl rfl ?_
              refine Rg.iadd rfl rfl rfl (by omega) ?_
              refine Rg.assign rfl rfl ?_
              refine Rg.nil ?_
              refine ⟨rfl, (k + 1, m + a8_4.toNat % 128 * 128 ^ k, IntKind.i64.wrap (((128 ^ k : Nat) : Int) * 128)), (.cons rfl (.cons rfl (.cons rfl (.cons rfl (.cons rfl .nil))))), ?_, ?_⟩
              · have hdl : k < bs.length := (List.getElem?_eq_some_iff.1 hc).1
                have htk : bs.take (k + 1) = bs.take k ++ [a8_4] := by rw [List.take_succ_eq_append_getElem hdl, (List.getElem?_eq_some_iff.1 hc).2]
                refine ⟨s1, by simp only; omega, by simp only [Nat.pow_succ]; omega, fun h8 => ?_, ?_, ?_, ?_⟩
                · have hp7 : 128 ^ k ≤ 128 ^ 7 := Nat.pow_le_pow_right (by decide) (by simp only at h8; omega)
                  simp only
                  rw [IntWalk.i64_in _ (by omega), Nat.pow_succ]; omega
                · rw [getL_drop hc, if_neg (by omega)] at hg; exact hg
                · simp only; rw [htk, val_snoc, ← hval, List.length_take, Nat.min_eq_left hk]
                · intro d hd; simp only at hd; rw [htk] at hd; rcases List.mem_append.1 hd with h | h
                  · exact hall d h
                  · simp at h; subst h; omega
              · simp only; have := (List.getElem?_eq_some_iff.1 hc).1; omega
          · -- c6 False
            refine T.exit ?_
            refine T.seq ?_
            refine T.region ?_ -- region 15
            refine Rg.assign rfl rfl ?_
            refine Rg.assign rfl rfl ?_
            refine Rg.assign rfl rfl ?_
            refine Rg.nil ?_
            refine T.ret ?_
            have hr : getL bs 0 0 = none := by rw [← hg, List.drop_eq_nil_of_le (by omega)]; rfl
            exact Kret3 rfl rfl rfl rfl ⟨by rw [hget, hr], s1⟩
        · -- g6_2 False
          refine Rg.gno rfl rfl rfl rfl ?_
          refine Rg.gno rfl rfl rfl rfl ?_
          refine Rg.gno rfl rfl rfl rfl ?_
          refine Rg.gno rfl rfl rfl rfl ?_
          refine Rg.gno rfl rfl rfl rfl ?_
          refine Rg.gno rfl rfl rfl rfl ?_
          refine Rg.pickf rfl rfl rfl ?_
          refine Rg.nil ?_
          refine T.iff rfl ?_
          refine T.exit ?_
          refine T.seq ?_
          refine T.region ?_ -- region 15
          refine Rg.assign rfl rfl ?_
          refine Rg.assign rfl rfl ?_
          refine Rg.assign rfl rfl ?_
          refine Rg.nil ?_
          refine T.ret ?_
          have hr : getL bs 0 0 = none := by rw [← hg, List.drop_eq_nil_of_le (by omega)]; rfl
          exact Kret3 rfl rfl rfl rfl ⟨by rw [hget, hr], s1⟩

/-- 'concordance/concordanceref04.Rises' -/
theorem Rises_spec {M : PSet} {w0 : World} {v : Value} {l : List Int} (hM : Lt M w0) (hv : ((RT.int .i64).sl).V M w0 l v) :
    Spec Try.prog 56 #[v] w0 (fun v' w' => v' = .bool (rises (-1) l) ∧ Step M w0 M w' none') := by
  have hlen := V_sl_len hv
  refine spec_of (args := [v]) (fn := Try.f56) Try.func56 rfl (n := 31) Try.ntmps56 ?_
  refine T.seq ?_
  refine T.region ?_ -- region 0
  refine Rg.assign rfl rfl ?_
  refine Rg.nil ?_
  refine T.seq ?_
  refine T.seq ?_
  refine T.region ?_ -- region 1
  refine Rg.assign rfl rfl ?_
  refine Rg.nil ?_
  refine T.block ?_
  refine T.loop (σ := Nat × Int) (fun s => [(0, v), (3, .int .i64 s.1)]) (fun s w => Step M w0 M w none' ∧ s.1 ≤ l.length ∧ rises (-1) l = rises s.2 (l.drop s.1) ∧ -1 ≤ s.2 ∧ (s.1 = 0 → s.2 = -1) ∧ (0 < s.1 → l[s.1 - 1]? = some s.2)) (fun s => l.length - s.1) (0, -1) (.cons rfl (.cons rfl .nil)) ?_ ?_ -- loop 0
  · exact ⟨Step.refl _ _, Nat.zero_le _, rfl, by decide, fun _ => rfl, fun h => absurd h (by decide)⟩
  · rintro ⟨k, last⟩ w1 ⟨s1, hk, hr, hl, h0, h1⟩
    dsimp only at hk hr hl h0 h1 ⊢
    refine T.seq ?_
    refine T.seq ?_
    refine T.region ?_ -- region 2
    refine Rg.move rfl rfl ?_
    refine Rg.move rfl rfl ?_
    first | refine Rg.lensl Try.underlying23 rfl (by assumption) rfl ?_ | refine Rg.lenown Try.underlying23 rfl (by assumption) rfl ?_
    refine Rg.ilt rfl rfl rfl ?_
    refine Rg.nil ?_
    refine T.ifp rfl (fun c2 => ?_) (fun c2 => ?_)
    · -- c2 True
      refine T.skip ?_
      refine T.seq ?_
      refine T.block ?_
      refine T.seq ?_
      obtain ⟨x, hx⟩ : ∃ x, l[k]? = some x := ⟨_, List.getElem?_eq_getElem (by omega)⟩
      by_cases g4_5 : x < 0
      · -- g4_5 True
        apply T.draw (M := M) mixed [Asr.eq _, Asr.eq _, Asr.ptr (RT.int .i64) x, Asr.eq _, Asr.eq _, Asr.eq (.bool true), Asr.eq undef, Asr.eq undef, Asr.eq undef, Asr.eq undef, Asr.eq undef, Asr.eq undef, Asr.eq undef, Asr.eq undef, Asr.eq undef, Asr.eq undef, Asr.eq undef, Asr.eq undef, Asr.eq undef, Asr.eq undef, Asr.eq _] -- region 4
        · rfl
        · -- its operations
          refine Obls.cons ?_ ?_
          · intro wD E sD -- 0
            refine Rg.move rfl rfl ?_
            exact Rg.nil ⟨rfl, rfl, _, rfl, rfl, Step.refl _ _⟩
          refine Obls.cons ?_ ?_
          · intro wD E sD -- 1
            refine Rg.move rfl rfl ?_
            exact Rg.nil ⟨rfl, rfl, _, rfl, rfl, Step.refl _ _⟩
          refine Obls.cons ?_ ?_
          · intro wD E sD -- 2
            intro x_ hx_; have hx_ : x_ = _ := hx_; subst x_
            intro x_ hx_; have hx_ : x_ = _ := hx_; subst x_
            refine Rg.idx (M := M) Try.underlying23 I3 rfl rfl rfl (by assumption) (by repeat (first | exact Le.refl _ _ | refine Le.trans (Step.le (by assumption)) ?_)) (by omega) (fun u4_2 a4_2 hg4_2 hu4_2 => ?_)
            obtain rfl : a4_2 = x := Option.some.inj (hg4_2.symm.trans (by simpa using hx))
            exact Rg.nil ⟨rfl, rfl, _, rfl, hu4_2, Step.refl _ _⟩
          refine Obls.cons ?_ ?_
          · intro wD E sD -- 3
            intro v2 hv2
            refine Rg.loadi64 (M := M) Try.underlying3 rfl rfl (by assumption) (by repeat (first | exact Le.refl _ _ | refine Le.trans (Step.le (by assumption)) ?_)) (fun in4_3 => ?_)
            exact Rg.nil ⟨rfl, rfl, _, rfl, rfl, Step.refl _ _⟩
          refine Obls.cons ?_ ?_
          · intro wD E sD -- 4
            intro x_ hx_; have hx_ : x_ = _ := hx_; subst x_
            refine Rg.ilt rfl rfl rfl ?_
            exact Rg.nil ⟨rfl, rfl, _, rfl, rfl, Step.refl _ _⟩
          refine Obls.cons ?_ ?_
          · intro wD E sD -- 5
            intro x_ hx_; have hx_ : x_ = _ := hx_; subst x_
            refine Rg.move rfl rfl ?_
            refine Rg.nil ⟨rfl, rfl, _, rfl, ?_, Step.refl _ _⟩
            exact congrArg Value.bool (decide_eq_true g4_5)
          refine Obls.cons ?_ ?_
          · intro wD E sD -- 6
            intro x_ hx_; have hx_ : x_ = _ := hx_; subst x_
            exact Rg.gno rfl rfl rfl rfl (Rg.nil ⟨rfl, rfl, _, rfl, rfl, Step.refl _ _⟩)
          refine Obls.cons ?_ ?_
          · intro wD E sD -- 7
            intro x_ hx_; have hx_ : x_ = _ := hx_; subst x_
            intro x_ hx_; have hx_ : x_ = _ := hx_; subst x_
            exact Rg.gno rfl rfl rfl rfl (Rg.nil ⟨rfl, rfl, _, rfl, rfl, Step.refl _ _⟩)
          refine Obls.cons ?_ ?_
          · intro wD E sD -- 8
            intro x_ hx_; have hx_ : x_ = _ := hx_; subst x_
            intro x_ hx_; have hx_ : x_ = _ := hx_; subst x_
            intro x_ hx_; have hx_ : x_ = _ := hx_; subst x_
            exact Rg.gno rfl rfl rfl rfl (Rg.nil ⟨rfl, rfl, _, rfl, rfl, Step.refl _ _⟩)
          refine Obls.cons ?_ ?_
          · intro wD E sD -- 9
            intro x_ hx_; have hx_ : x_ = _ := hx_; subst x_
            exact Rg.gnox rfl rfl rfl (Rg.nil ⟨rfl, rfl, _, rfl, rfl, Step.refl _ _⟩)
          refine Obls.cons ?_ ?_
          · intro wD E sD -- 10
            intro x_ hx_; have hx_ : x_ = _ := hx_; subst x_
            exact Rg.gnox rfl rfl rfl (Rg.nil ⟨rfl, rfl, _, rfl, rfl, Step.refl _ _⟩)
          refine Obls.cons ?_ ?_
          · intro wD E sD -- 11
            intro x_ hx_; have hx_ : x_ = _ := hx_; subst x_
            intro x_ hx_; have hx_ : x_ = _ := hx_; subst x_
            intro x_ hx_; have hx_ : x_ = _ := hx_; subst x_
            exact Rg.gnox rfl rfl rfl (Rg.nil ⟨rfl, rfl, _, rfl, rfl, Step.refl _ _⟩)
          refine Obls.cons ?_ ?_
          · intro wD E sD -- 12
            intro x_ hx_; have hx_ : x_ = _ := hx_; subst x_
            intro x_ hx_; have hx_ : x_ = _ := hx_; subst x_
            exact Rg.gnox rfl rfl rfl (Rg.nil ⟨rfl, rfl, _, rfl, rfl, Step.refl _ _⟩)
          refine Obls.cons ?_ ?_
          · intro wD E sD -- 13
            intro x_ hx_; have hx_ : x_ = _ := hx_; subst x_
            exact Rg.gnox rfl rfl rfl (Rg.nil ⟨rfl, rfl, _, rfl, rfl, Step.refl _ _⟩)
          refine Obls.cons ?_ ?_
          · intro wD E sD -- 14
            intro x_ hx_; have hx_ : x_ = _ := hx_; subst x_
            exact Rg.gnox rfl rfl rfl (Rg.nil ⟨rfl, rfl, _, rfl, rfl, Step.refl _ _⟩)
          refine Obls.cons ?_ ?_
          · intro wD E sD -- 15
            intro x_ hx_; have hx_ : x_ = _ := hx_; subst x_
            intro x_ hx_; have hx_ : x_ = _ := hx_; subst x_
            exact Rg.gnox rfl rfl rfl (Rg.nil ⟨rfl, rfl, _, rfl, rfl, Step.refl _ _⟩)
          refine Obls.cons ?_ ?_
          · intro wD E sD -- 16
            intro x_ hx_; have hx_ : x_ = _ := hx_; subst x_
            intro x_ hx_; have hx_ : x_ = _ := hx_; subst x_
            intro x_ hx_; have hx_ : x_ = _ := hx_; subst x_
            exact Rg.gnox rfl rfl rfl (Rg.nil ⟨rfl, rfl, _, rfl, rfl, Step.refl _ _⟩)
          refine Obls.cons ?_ ?_
          · intro wD E sD -- 17
            intro x_ hx_; have hx_ : x_ = _ := hx_; subst x_
            intro x_ hx_; have hx_ : x_ = _ := hx_; subst x_
            exact Rg.gnox rfl rfl rfl (Rg.nil ⟨rfl, rfl, _, rfl, rfl, Step.refl _ _⟩)
          refine Obls.cons ?_ ?_
          · intro wD E sD -- 18
            intro x_ hx_; have hx_ : x_ = _ := hx_; subst x_
            intro x_ hx_; have hx_ : x_ = _ := hx_; subst x_
            intro x_ hx_; have hx_ : x_ = _ := hx_; subst x_
            exact Rg.gnox rfl rfl rfl (Rg.nil ⟨rfl, rfl, _, rfl, rfl, Step.refl _ _⟩)
          refine Obls.cons ?_ ?_
          · intro wD E sD -- 19
            intro x_ hx_; have hx_ : x_ = _ := hx_; subst x_
            intro x_ hx_; have hx_ : x_ = _ := hx_; subst x_
            intro x_ hx_; have hx_ : x_ = _ := hx_; subst x_
            exact Rg.gno rfl rfl rfl rfl (Rg.nil ⟨rfl, rfl, _, rfl, rfl, Step.refl _ _⟩)
          refine Obls.cons ?_ ?_
          · intro wD E sD -- 20
            intro x_ hx_; have hx_ : x_ = _ := hx_; subst x_
            intro x_ hx_; have hx_ : x_ = _ := hx_; subst x_
            refine Rg.pickt rfl rfl rfl ?_
            exact Rg.nil ⟨rfl, rfl, _, rfl, rfl, Step.refl _ _⟩
          exact Obls.nil
        · -- behind it
          intro wD4 sD4
          intro x_ hx_; have hx_ : x_ = _ := hx_; subst x_
          intro x_ hx_; have hx_ : x_ = _ := hx_; subst x_
          intro v4_2 hv4_2
          intro x_ hx_; have hx_ : x_ = _ := hx_; subst x_
          intro x_ hx_; have hx_ : x_ = _ := hx_; subst x_
          intro x_ hx_; have hx_ : x_ = _ := hx_; subst x_
          intro x_ hx_; have hx_ : x_ = _ := hx_; subst x_
          intro x_ hx_; have hx_ : x_ = _ := hx_; subst x_
          intro x_ hx_; have hx_ : x_ = _ := hx_; subst x_
          intro x_ hx_; have hx_ : x_ = _ := hx_; subst x_
          intro x_ hx_; have hx_ : x_ = _ := hx_; subst x_
          intro x_ hx_; have hx_ : x_ = _ := hx_; subst x_
          intro x_ hx_; have hx_ : x_ = _ := hx_; subst x_
          intro x_ hx_; have hx_ : x_ = _ := hx_; subst x_
          intro x_ hx_; have hx_ : x_ = _ := hx_; subst x_
          intro x_ hx_; have hx_ : x_ = _ := hx_; subst x_
          intro x_ hx_; have hx_ : x_ = _ := hx_; subst x_
          intro x_ hx_; have hx_ : x_ = _ := hx_; subst x_
          intro x_ hx_; have hx_ : x_ = _ := hx_; subst x_
          intro x_ hx_; have hx_ : x_ = _ := hx_; subst x_
          intro x_ hx_; have hx_ : x_ = _ := hx_; subst x_
          refine T.ift rfl ?_
          refine T.seq ?_
          refine T.region ?_ -- region 5
          refine Rg.assign rfl rfl ?_
          refine Rg.nil ?_
          refine T.ret ?_
          refine Kret1 rfl rfl ⟨?_, s1.trans0 sD4⟩
          rw [hr, rises_drop hx, decide_eq_false (by omega)]; rfl
      · -- g4_5 False
        by_cases g4_8 : (0 : Int) < k
        · -- g4_8 True
          obtain ⟨y, hy⟩ : ∃ y, y = last := ⟨_, rfl⟩
          have h1' := h1 (by omega)
          rw [← hy] at h1'
          apply T.draw (M := M) mixed [Asr.eq _, Asr.eq _, Asr.ptr (RT.int .i64) x, Asr.eq _, Asr.eq _, Asr.eq (.bool false), Asr.eq _, Asr.eq _, Asr.eq (.bool true), Asr.eq _, Asr.eq _, Asr.ptr (RT.int .i64) x, Asr.eq _, Asr.eq _, Asr.eq _, Asr.eq _, Asr.ptr (RT.int .i64) y, Asr.eq _, Asr.eq _, Asr.eq _, Asr.eq _] -- region 4
          · rfl
          · -- its operations
            refine Obls.cons ?_ ?_
            · intro wD E sD -- 0
              refine Rg.move rfl rfl ?_
              exact Rg.nil ⟨rfl, rfl, _, rfl, rfl, Step.refl _ _⟩
            refine Obls.cons ?_ ?_
            · intro wD E sD -- 1
              refine Rg.move rfl rfl ?_
              exact Rg.nil ⟨rfl, rfl, _, rfl, rfl, Step.refl _ _⟩
            refine Obls.cons ?_ ?_
            · intro wD E sD -- 2
              intro x_ hx_; have hx_ : x_ = _ := hx_; subst x_
              intro x_ hx_; have hx_ : x_ = _ := hx_; subst x_
              refine Rg.idx (M := M) Try.underlying23 I3 rfl rfl rfl (by assumption) (by repeat (first | exact Le.refl _ _ | refine Le.trans (Step.le (by assumption)) ?_)) (by omega) (fun u4_2 a4_2 hg4_2 hu4_2 => ?_)
              obtain rfl : a4_2 = x := Option.some.inj (hg4_2.symm.trans (by simpa using hx))
              exact Rg.nil ⟨rfl, rfl, _, rfl, hu4_2, Step.refl _ _⟩
            refine Obls.cons ?_ ?_
            · intro wD E sD -- 3
              intro v2 hv2
              refine Rg.loadi64 (M := M) Try.underlying3 rfl rfl (by assumption) (by repeat (first | exact Le.refl _ _ | refine Le.trans (Step.le (by assumption)) ?_)) (fun in4_3 => ?_)
              exact Rg.nil ⟨rfl, rfl, _, rfl, rfl, Step.refl _ _⟩
            refine Obls.cons ?_ ?_
            · intro wD E sD -- 4
              intro x_ hx_; have hx_ : x_ = _ := hx_; subst x_
              refine Rg.ilt rfl rfl rfl ?_
              exact Rg.nil ⟨rfl, rfl, _, rfl, rfl, Step.refl _ _⟩
            refine Obls.cons ?_ ?_
            · intro wD E sD -- 5
              intro x_ hx_; have hx_ : x_ = _ := hx_; subst x_
              refine Rg.move rfl rfl ?_
              refine Rg.nil ⟨rfl, rfl, _, rfl, ?_, Step.refl _ _⟩
              exact congrArg Value.bool (decide_eq_false g4_5)
            refine Obls.cons ?_ ?_
            · intro wD E sD -- 6
              intro x_ hx_; have hx_ : x_ = _ := hx_; subst x_
              refine Rg.gyes rfl rfl ?_
              refine Rg.move rfl rfl ?_
              exact Rg.nil ⟨rfl, rfl, _, rfl, rfl, Step.refl _ _⟩
            refine Obls.cons ?_ ?_
            · intro wD E sD -- 7
              intro x_ hx_; have hx_ : x_ = _ := hx_; subst x_
              intro x_ hx_; have hx_ : x_ = _ := hx_; subst x_
              refine Rg.gyes rfl rfl ?_
              refine Rg.igt rfl rfl rfl ?_
              exact Rg.nil ⟨rfl, rfl, _, rfl, rfl, Step.refl _ _⟩
            refine Obls.cons ?_ ?_
            · intro wD E sD -- 8
              intro x_ hx_; have hx_ : x_ = _ := hx_; subst x_
              intro x_ hx_; have hx_ : x_ = _ := hx_; subst x_
              intro x_ hx_; have hx_ : x_ = _ := hx_; subst x_
              refine Rg.gyes rfl rfl ?_
              refine Rg.move rfl rfl ?_
              refine Rg.nil ⟨rfl, rfl, _, rfl, ?_, Step.refl _ _⟩
              exact congrArg Value.bool (decide_eq_true g4_8)
            refine Obls.cons ?_ ?_
            · intro wD E sD -- 9
              intro x_ hx_; have hx_ : x_ = _ := hx_; subst x_
              refine Rg.gyes rfl rfl ?_
              refine Rg.move rfl rfl ?_
              exact Rg.nil ⟨rfl, rfl, _, rfl, rfl, Step.refl _ _⟩
            refine Obls.cons ?_ ?_
            · intro wD E sD -- 10
              intro x_ hx_; have hx_ : x_ = _ := hx_; subst x_
              refine Rg.gyes rfl rfl ?_
              refine Rg.move rfl rfl ?_
              exact Rg.nil ⟨rfl, rfl, _, rfl, rfl, Step.refl _ _⟩
            refine Obls.cons ?_ ?_
            · intro wD E sD -- 11
              intro x_ hx_; have hx_ : x_ = _ := hx_; subst x_
              intro x_ hx_; have hx_ : x_ = _ := hx_; subst x_
              intro x_ hx_; have hx_ : x_ = _ := hx_; subst x_
              refine Rg.gyes rfl rfl ?_
              refine Rg.idx (M := M) Try.underlying23 I3 rfl rfl rfl (by assumption) (by repeat (first | exact Le.refl _ _ | refine Le.trans (Step.le (by assumption)) ?_)) (by omega) (fun u4_11 a4_11 hg4_11 hu4_11 => ?_)
              obtain rfl : a4_11 = x := Option.some.inj (hg4_11.symm.trans (by simpa using hx))
              exact Rg.nil ⟨rfl, rfl, _, rfl, hu4_11, Step.refl _ _⟩
            refine Obls.cons ?_ ?_
            · intro wD E sD -- 12
              intro v11 hv11
              intro x_ hx_; have hx_ : x_ = _ := hx_; subst x_
              refine Rg.gyes rfl rfl ?_
              refine Rg.loadi64 (M := M) Try.underlying3 rfl rfl (by assumption) (by repeat (first | exact Le.refl _ _ | refine Le.trans (Step.le (by assumption)) ?_)) (fun in4_12 => ?_)
              exact Rg.nil ⟨rfl, rfl, _, rfl, rfl, Step.refl _ _⟩
            refine Obls.cons ?_ ?_
            · intro wD E sD -- 13
              intro x_ hx_; have hx_ : x_ = _ := hx_; subst x_
              refine Rg.gyes rfl rfl ?_
              refine Rg.move rfl rfl ?_
              exact Rg.nil ⟨rfl, rfl, _, rfl, rfl, Step.refl _ _⟩
            refine Obls.cons ?_ ?_
            · intro wD E sD -- 14
              intro x_ hx_; have hx_ : x_ = _ := hx_; subst x_
              refine Rg.gyes rfl rfl ?_
              refine Rg.move rfl rfl ?_
              exact Rg.nil ⟨rfl, rfl, _, rfl, rfl, Step.refl _ _⟩
            refine Obls.cons ?_ ?_
            · intro wD E sD -- 15
              intro x_ hx_; have hx_ : x_ = _ := hx_; subst x_
              intro x_ hx_; have hx_ : x_ = _ := hx_; subst x_
              refine Rg.gyes rfl rfl ?_
              refine Rg.isub rfl rfl rfl (by omega) ?_
              exact Rg.nil ⟨rfl, rfl, _, rfl, rfl, Step.refl _ _⟩
            refine Obls.cons ?_ ?_
            · intro wD E sD -- 16
              intro x_ hx_; have hx_ : x_ = _ := hx_; subst x_
              intro x_ hx_; have hx_ : x_ = _ := hx_; subst x_
              intro x_ hx_; have hx_ : x_ = _ := hx_; subst x_
              refine Rg.gyes rfl rfl ?_
              refine Rg.idx (M := M) Try.underlying23 I3 rfl rfl rfl (by assumption) (by repeat (first | exact Le.refl _ _ | refine Le.trans (Step.le (by assumption)) ?_)) (by omega) (fun u4_16 a4_16 hg4_16 hu4_16 => ?_)
              obtain rfl : a4_16 = y := Option.some.inj (hg4_16.symm.trans (by rw [show ((k : Int) - 1).toNat = k - 1 from by omega]; exact h1'))
              exact Rg.nil ⟨rfl, rfl, _, rfl, hu4_16, Step.refl _ _⟩
            refine Obls.cons ?_ ?_
            · intro wD E sD -- 17
              intro v16 hv16
              intro x_ hx_; have hx_ : x_ = _ := hx_; subst x_
              refine Rg.gyes rfl rfl ?_
              refine Rg.loadi64 (M := M) Try.underlying3 rfl rfl (by assumption) (by repeat (first | exact Le.refl _ _ | refine Le.trans (Step.le (by assumption)) ?_)) (fun in4_17 => ?_)
              exact Rg.nil ⟨rfl, rfl, _, rfl, rfl, Step.refl _ _⟩
            refine Obls.cons ?_ ?_
            · intro wD E sD -- 18
              intro x_ hx_; have hx_ : x_ = _ := hx_; subst x_
              intro x_ hx_; have hx_ : x_ = _ := hx_; subst x_
              intro x_ hx_; have hx_ : x_ = _ := hx_; subst x_
              refine Rg.gyes rfl rfl ?_
              refine Rg.ile rfl rfl rfl ?_
              exact Rg.nil ⟨rfl, rfl, _, rfl, rfl, Step.refl _ _⟩
            refine Obls.cons ?_ ?_
            · intro wD E sD -- 19
              intro x_ hx_; have hx_ : x_ = _ := hx_; subst x_
              intro x_ hx_; have hx_ : x_ = _ := hx_; subst x_
              intro x_ hx_; have hx_ : x_ = _ := hx_; subst x_
              refine Rg.gyes rfl rfl ?_
              refine Rg.pickt rfl rfl rfl ?_
              exact Rg.nil ⟨rfl, rfl, _, rfl, rfl, Step.refl _ _⟩
            refine Obls.cons ?_ ?_
            · intro wD E sD -- 20
              intro x_ hx_; have hx_ : x_ = _ := hx_; subst x_
              intro x_ hx_; have hx_ : x_ = _ := hx_; subst x_
              refine Rg.pickf rfl rfl rfl ?_
              exact Rg.nil ⟨rfl, rfl, _, rfl, rfl, Step.refl _ _⟩
            exact Obls.nil
          · -- behind it
            intro wD4 sD4
            intro x_ hx_; have hx_ : x_ = _ := hx_; subst x_
            intro x_ hx_; have hx_ : x_ = _ := hx_; subst x_
            intro v4_2 hv4_2
            intro x_ hx_; have hx_ : x_ = _ := hx_; subst x_
            intro x_ hx_; have hx_ : x_ = _ := hx_; subst x_
            intro x_ hx_; have hx_ : x_ = _ := hx_; subst x_
            intro x_ hx_; have hx_ : x_ = _ := hx_; subst x_
            intro x_ hx_; have hx_ : x_ = _ := hx_; subst x_
            intro x_ hx_; have hx_ : x_ = _ := hx_; subst x_
            intro x_ hx_; have hx_ : x_ = _ := hx_; subst x_
            intro x_ hx_; have hx_ : x_ = _ := hx_; subst x_
            intro v4_11 hv4_11
            intro x_ hx_; have hx_ : x_ = _ := hx_; subst x_
            intro x_ hx_; have hx_ : x_ = _ := hx_; subst x_
            intro x_ hx_; have hx_ : x_ = _ := hx_; subst x_
            intro x_ hx_; have hx_ : x_ = _ := hx_; subst x_
            intro v4_16 hv4_16
            intro x_ hx_; have hx_ : x_ = _ := hx_; subst x_
            intro x_ hx_; have hx_ : x_ = _ := hx_; subst x_
            intro x_ hx_; have hx_ : x_ = _ := hx_; subst x_
            intro x_ hx_; have hx_ : x_ = _ := hx_; subst x_
            refine T.ifp rfl (fun c4 => ?_) (fun c4 => ?_)
            · -- c4 True
              refine T.seq ?_
              refine T.region ?_ -- region 5
              refine Rg.assign rfl rfl ?_
              refine Rg.nil ?_
              refine T.ret ?_
              refine Kret1 rfl rfl ⟨?_, s1.trans0 sD4⟩
              rw [hr, rises_drop hx, decide_eq_false (by omega)]; rfl
            · -- c4 False
              refine T.skip ?_
              refine T.region ?_ -- region 3
              refine Rg.move rfl rfl ?_
              refine Rg.iadd rfl rfl rfl (by omega) ?_
              refine Rg.assign rfl rfl ?_
              refine Rg.nil ?_
              refine ⟨rfl, (k + 1, x), (.cons rfl (.cons rfl .nil)), ?_, ?_⟩
              · refine ⟨s1.trans0 sD4, by have := (List.getElem?_eq_some_iff.1 hx).1; simp only; omega, ?_, ?_, fun h => by simp at h, fun _ => by simpa using hx⟩
                · rw [hr, rises_drop hx, decide_eq_true (by omega), Bool.true_and]
                · simp only; omega
              · have := (List.getElem?_eq_some_iff.1 hx).1; simp only; omega
        · -- g4_8 False
          have h0' := h0 (by omega)
          apply T.draw (M := M) mixed [Asr.eq _, Asr.eq _, Asr.ptr (RT.int .i64) x, Asr.eq _, Asr.eq _, Asr.eq (.bool false), Asr.eq _, Asr.eq _, Asr.eq (.bool false), Asr.eq undef, Asr.eq undef, Asr.eq undef, Asr.eq undef, Asr.eq undef, Asr.eq undef, Asr.eq undef, Asr.eq undef, Asr.eq undef, Asr.eq undef, Asr.eq _, Asr.eq _] -- region 4
          · rfl
          · -- its operations
            refine Obls.cons ?_ ?_
            · intro wD E sD -- 0
              refine Rg.move rfl rfl ?_
              exact Rg.nil ⟨rfl, rfl, _, rfl, rfl, Step.refl _ _⟩
            refine Obls.cons ?_ ?_
            · intro wD E sD -- 1
              refine Rg.move rfl rfl ?_
              exact Rg.nil ⟨rfl, rfl, _, rfl, rfl, Step.refl _ _⟩
            refine Obls.cons ?_ ?_
            · intro wD E sD -- 2
              intro x_ hx_; have hx_ : x_ = _ := hx_; subst x_
              intro x_ hx_; have hx_ : x_ = _ := hx_; subst x_
              refine Rg.idx (M := M) Try.underlying23 I3 rfl rfl rfl (by assumption) (by repeat (first | exact Le.refl _ _ | refine Le.trans (Step.le (by assumption)) ?_)) (by omega) (fun u4_2 a4_2 hg4_2 hu4_2 => ?_)
              obtain rfl : a4_2 = x := Option.some.inj (hg4_2.symm.trans (by simpa using hx))
              exact Rg.nil ⟨rfl, rfl, _, rfl, hu4_2, Step.refl _ _⟩
            refine Obls.cons ?_ ?_
            · intro wD E sD -- 3
              intro v2 hv2
              refine Rg.loadi64 (M := M) Try.underlying3 rfl rfl (by assumption) (by repeat (first | exact Le.refl _ _ | refine Le.trans (Step.le (by assumption)) ?_)) (fun in4_3 => ?_)
              exact Rg.nil ⟨rfl, rfl, _, rfl, rfl, Step.refl _ _⟩
            refine Obls.cons ?_ ?_
            · intro wD E sD -- 4
              intro x_ hx_; have hx_ : x_ = _ := hx_; subst x_
              refine Rg.ilt rfl rfl rfl ?_
              exact Rg.nil ⟨rfl, rfl, _, rfl, rfl, Step.refl _ _⟩
            refine Obls.cons ?_ ?_
            · intro wD E sD -- 5
              intro x_ hx_; have hx_ : x_ = _ := hx_; subst x_
              refine Rg.move rfl rfl ?_
              refine Rg.nil ⟨rfl, rfl, _, rfl, ?_, Step.refl _ _⟩
              exact congrArg Value.bool (decide_eq_false g4_5)
            refine Obls.cons ?_ ?_
            · intro wD E sD -- 6
              intro x_ hx_; have hx_ : x_ = _ := hx_; subst x_
              refine Rg.gyes rfl rfl ?_
              refine Rg.move rfl rfl ?_
              exact Rg.nil ⟨rfl, rfl, _, rfl, rfl, Step.refl _ _⟩
            refine Obls.cons ?_ ?_
            · intro wD E sD -- 7
              intro x_ hx_; have hx_ : x_ = _ := hx_; subst x_
              intro x_ hx_; have hx_ : x_ = _ := hx_; subst x_
              refine Rg.gyes rfl rfl ?_
              refine Rg.igt rfl rfl rfl ?_
              exact Rg.nil ⟨rfl, rfl, _, rfl, rfl, Step.refl _ _⟩
            refine Obls.cons ?_ ?_
            · intro wD E sD -- 8
              intro x_ hx_; have hx_ : x_ = _ := hx_; subst x_
              intro x_ hx_; have hx_ : x_ = _ := hx_; subst x_
              intro x_ hx_; have hx_ : x_ = _ := hx_; subst x_
              refine Rg.gyes rfl rfl ?_
              refine Rg.move rfl rfl ?_
              refine Rg.nil ⟨rfl, rfl, _, rfl, ?_, Step.refl _ _⟩
              exact congrArg Value.bool (decide_eq_false g4_8)
            refine Obls.cons ?_ ?_
            · intro wD E sD -- 9
              intro x_ hx_; have hx_ : x_ = _ := hx_; subst x_
              exact Rg.gno rfl rfl rfl rfl (Rg.nil ⟨rfl, rfl, _, rfl, rfl, Step.refl _ _⟩)
            refine Obls.cons ?_ ?_
            · intro wD E sD -- 10
              intro x_ hx_; have hx_ : x_ = _ := hx_; subst x_
              exact Rg.gno rfl rfl rfl rfl (Rg.nil ⟨rfl, rfl, _, rfl, rfl, Step.refl _ _⟩)
            refine Obls.cons ?_ ?_
            · intro wD E sD -- 11
              intro x_ hx_; have hx_ : x_ = _ := hx_; subst x_
              intro x_ hx_; have hx_ : x_ = _ := hx_; subst x_
              intro x_ hx_; have hx_ : x_ = _ := hx_; subst x_
              exact Rg.gno rfl rfl rfl rfl (Rg.nil ⟨rfl, rfl, _, rfl, rfl, Step.refl _ _⟩)
            refine Obls.cons ?_ ?_
            · intro wD E sD -- 12
              intro x_ hx_; have hx_ : x_ = _ := hx_; subst x_
              intro x_ hx_; have hx_ : x_ = _ := hx_; subst x_
              exact Rg.gno rfl rfl rfl rfl (Rg.nil ⟨rfl, rfl, _, rfl, rfl, Step.refl _ _⟩)
            refine Obls.cons ?_ ?_
            · intro wD E sD -- 13
              intro x_ hx_; have hx_ : x_ = _ := hx_; subst x_
              exact Rg.gno rfl rfl rfl rfl (Rg.nil ⟨rfl, rfl, _, rfl, rfl, Step.refl _ _⟩)
            refine Obls.cons ?_ ?_
            · intro wD E sD -- 14
              intro x_ hx_; have hx_ : x_ = _ := hx_; subst x_
              exact Rg.gno rfl rfl rfl rfl (Rg.nil ⟨rfl, rfl, _, rfl, rfl, Step.refl _ _⟩)
            refine Obls.cons ?_ ?_
            · intro wD E sD -- 15
              intro x_ hx_; have hx_ : x_ = _ := hx_; subst x_
              intro x_ hx_; have hx_ : x_ = _ := hx_; subst x_
              exact Rg.gno rfl rfl rfl rfl (Rg.nil ⟨rfl, rfl, _, rfl, rfl, Step.refl _ _⟩)
            refine Obls.cons ?_ ?_
            · intro wD E sD -- 16
              intro x_ hx_; have hx_ : x_ = _ := hx_; subst x_
              intro x_ hx_; have hx_ : x_ = _ := hx_; subst x_
              intro x_ hx_; have hx_ : x_ = _ := hx_; subst x_
              exact Rg.gno rfl rfl rfl rfl (Rg.nil ⟨rfl, rfl, _, rfl, rfl, Step.refl _ _⟩)
            refine Obls.cons ?_ ?_
            · intro wD E sD -- 17
              intro x_ hx_; have hx_ : x_ = _ := hx_; subst x_
              intro x_ hx_; have hx_ : x_ = _ := hx_; subst x_
              exact Rg.gno rfl rfl rfl rfl (Rg.nil ⟨rfl, rfl, _, rfl, rfl, Step.refl _ _⟩)
            refine Obls.cons ?_ ?_
            · intro wD E sD -- 18
              intro x_ hx_; have hx_ : x_ = _ := hx_; subst x_
              intro x_ hx_; have hx_ : x_ = _ := hx_; subst x_
              intro x_ hx_; have hx_ : x_ = _ := hx_; subst x_
              exact Rg.gno rfl rfl rfl rfl (Rg.nil ⟨rfl, rfl, _, rfl, rfl, Step.refl _ _⟩)
            refine Obls.cons ?_ ?_
            · intro wD E sD -- 19
              intro x_ hx_; have hx_ : x_ = _ := hx_; subst x_
              intro x_ hx_; have hx_ : x_ = _ := hx_; subst x_
              intro x_ hx_; have hx_ : x_ = _ := hx_; subst x_
              refine Rg.gyes rfl rfl ?_
              refine Rg.pickf rfl rfl rfl ?_
              exact Rg.nil ⟨rfl, rfl, _, rfl, rfl, Step.refl _ _⟩
            refine Obls.cons ?_ ?_
            · intro wD E sD -- 20
              intro x_ hx_; have hx_ : x_ = _ := hx_; subst x_
              intro x_ hx_; have hx_ : x_ = _ := hx_; subst x_
              refine Rg.pickf rfl rfl rfl ?_
              exact Rg.nil ⟨rfl, rfl, _, rfl, rfl, Step.refl _ _⟩
            exact Obls.nil
          · -- behind it
            intro wD4 sD4
            intro x_ hx_; have hx_ : x_ = _ := hx_; subst x_
            intro x_ hx_; have hx_ : x_ = _ := hx_; subst x_
            intro v4_2 hv4_2
            intro x_ hx_; have hx_ : x_ = _ := hx_; subst x_
            intro x_ hx_; have hx_ : x_ = _ := hx_; subst x_
            intro x_ hx_; have hx_ : x_ = _ := hx_; subst x_
            intro x_ hx_; have hx_ : x_ = _ := hx_; subst x_
            intro x_ hx_; have hx_ : x_ = _ := hx_; subst x_
            intro x_ hx_; have hx_ : x_ = _ := hx_; subst x_
            intro x_ hx_; have hx_ : x_ = _ := hx_; subst x_
            intro x_ hx_; have hx_ : x_ = _ := hx_; subst x_
            intro x_ hx_; have hx_ : x_ = _ := hx_; subst x_
            intro x_ hx_; have hx_ : x_ = _ := hx_; subst x_
            intro x_ hx_; have hx_ : x_ = _ := hx_; subst x_
            intro x_ hx_; have hx_ : x_ = _ := hx_; subst x_
            intro x_ hx_; have hx_ : x_ = _ := hx_; subst x_
            intro x_ hx_; have hx_ : x_ = _ := hx_; subst x_
            intro x_ hx_; have hx_ : x_ = _ := hx_; subst x_
            intro x_ hx_; have hx_ : x_ = _ := hx_; subst x_
            intro x_ hx_; have hx_ : x_ = _ := hx_; subst x_
            intro x_ hx_; have hx_ : x_ = _ := hx_; subst x_
            refine T.iff rfl ?_
            refine T.skip ?_
            refine T.region ?_ -- region 3
            refine Rg.move rfl rfl ?_
            refine Rg.iadd rfl rfl rfl (by omega) ?_
            refine Rg.assign rfl rfl ?_
            refine Rg.nil ?_
            refine ⟨rfl, (k + 1, x), (.cons rfl (.cons rfl .nil)), ?_, ?_⟩
            · refine ⟨s1.trans0 sD4, by have := (List.getElem?_eq_some_iff.1 hx).1; simp only; omega, ?_, ?_, fun h => by simp at h, fun _ => by simpa using hx⟩
              · rw [hr, rises_drop hx, decide_eq_true (by omega), Bool.true_and]
              · simp only; omega
            · have := (List.getElem?_eq_some_iff.1 hx).1; simp only; omega
    · -- c2 False
      refine T.exit ?_
      refine T.seq ?_
      refine T.region ?_ -- region 6
      refine Rg.assign rfl rfl ?_
      refine Rg.nil ?_
      refine T.ret ?_
      refine Kret1 rfl rfl ⟨?_, s1⟩
      rw [hr, List.drop_eq_nil_of_le (by omega)]; rfl

/-- 'concordance/concordanceref04.Good' -/
theorem Good_spec {M : PSet} {w0 : World} {v : Value} {l : List Int} {most : Nat} (hM : Lt M w0) (hv : ((RT.int .i64).sl).V M w0 l v) (hmost : most ≤ 1099511627776) :
    Spec Try.prog 14 #[v, .int .i64 most] w0 (fun v' w' => Step M w0 M w' none' ∧ ((RT.int .i64).sl).V M w' (good l most) v') := by
  have hlen := V_sl_len hv
  refine spec_of (args := [v, .int .i64 most]) (fn := Try.f14) Try.func14 rfl (n := 39) Try.ntmps14 ?_
  refine T.seq ?_
  refine T.region ?_ -- region 0
  refine Rg.assign rfl rfl ?_
  refine Rg.nil ?_
  refine T.seq ?_
  refine T.region ?_ -- region 1
  refine Rg.assign rfl rfl ?_
  refine Rg.nil ?_
  refine T.seq ?_
  refine T.region ?_ -- region 2
  refine Rg.assign rfl rfl ?_
  refine Rg.nil ?_
  refine T.seq ?_
  refine T.seq ?_
  refine T.region ?_ -- region 3
  refine Rg.assign rfl rfl ?_
  refine Rg.nil ?_
  refine T.block ?_
  refine T.loop (σ := Nat × Int × Value × List Int) (fun s => [(0, v), (1, .int .i64 most), (5, s.2.2.1), (6, .int .i64 s.2.1), (7, .int .i64 s.1)]) (fun s w => s.2.2.2 ++ goodL s.2.1 ((l.take most).drop s.1) = good l most ∧ s.1 ≤ l.length ∧ s.1 ≤ most ∧ -1 ≤ s.2.1 ∧ s.2.1 < 1000 * s.1 ∧ s.2.2.2.length = s.1 ∧ ∃ M1, Lt M1 w ∧ Step M w0 M1 w none' ∧ Own (RT.int .i64) 3 M1 w w0.heap.size s.2.2.1 s.2.2.2) (fun s => l.length - s.1) (0, -1, _, []) (.cons rfl (.cons rfl (.cons rfl (.cons rfl (.cons rfl .nil))))) ?_ ?_ -- loop 0
  · exact ⟨rfl, Nat.zero_le _, Nat.zero_le _, by decide, by decide, rfl, M, hM, Step.refl _ _, Own.nil _ _ _ _ _⟩
  · rintro ⟨k, last, u0, acc⟩ w1 ⟨hacc, hk, hkm, hl0, hl1, hal, M1, hM1, s1, ho⟩
    dsimp only at hacc hk hkm hl0 hl1 hal ho ⊢
    refine T.seq ?_
    refine T.seq ?_
    refine T.region ?_ -- region 4
    refine Rg.move rfl rfl ?_
    refine Rg.move rfl rfl ?_
    first | refine Rg.lensl Try.underlying23 rfl (by assumption) rfl ?_ | refine Rg.lenown Try.underlying23 rfl (by assumption) rfl ?_
    refine Rg.ilt rfl rfl rfl ?_
    refine Rg.move rfl rfl ?_
    refine Rg.gsplitp (g := 13) rfl (fun g4_4 => ?_) (fun g4_4 => ?_)
    · -- g4_4 True
      refine Rg.gyes rfl rfl ?_
      refine Rg.move rfl rfl ?_
      refine Rg.gyes rfl rfl ?_
      refine Rg.move rfl rfl ?_
      refine Rg.gyes rfl rfl ?_
      refine Rg.ilt rfl rfl rfl ?_
      refine Rg.pickt rfl rfl rfl ?_
      refine Rg.nil ?_
      refine T.ifp rfl (fun c4 => ?_) (fun c4 => ?_)
      · -- c4 True
        refine T.skip ?_
        refine T.seq ?_
        refine T.block ?_
        refine T.seq ?_
        refine T.region ?_ -- region 6
        refine Rg.move rfl rfl ?_
        refine Rg.move rfl rfl ?_
        obtain ⟨x, hx⟩ : ∃ x, l[k]? = some x := ⟨_, List.getElem?_eq_getElem (by omega)⟩
        have hxr := i64_of hv hx
        refine Rg.idx (M := M) Try.underlying23 I3 rfl rfl rfl (hv.le (s1.back).le) (Le.refl _ _) (by omega) (fun u6_2 a6_2 hg6_2 hu6_2 => ?_)
        obtain rfl : a6_2 = x := Option.some.inj (hg6_2.symm.trans (by simpa using hx))
        refine Rg.loadi64 (M := M) Try.underlying3 rfl rfl hu6_2 (Le.refl _ _) (fun _ => ?_)
        refine Rg.assign rfl rfl ?_
        refine Rg.nil ?_
        refine T.seq ?_
        refine T.seq ?_
        refine T.region ?_ -- region 7
        refine Rg.move rfl rfl ?_
        refine Rg.ilt rfl rfl rfl ?_
        refine Rg.nil ?_
        refine T.ifp rfl (fun c7 => ?_) (fun c7 => ?_)
        · -- c7 True
          refine T.region ?_ -- region 8
          refine Rg.move rfl rfl ?_
          refine Rg.iadd rfl rfl rfl (by omega) ?_
          refine Rg.neg rfl rfl (by omega) ?_
          refine Rg.assign rfl rfl ?_
          refine Rg.nil ?_
          refine T.seq ?_
          refine T.region ?_ -- region 9
          refine Rg.move rfl rfl ?_
          refine Rg.iadd rfl rfl rfl (by omega) ?_
          refine Rg.move rfl rfl ?_
          refine Rg.imod rfl rfl rfl (by omega) ?_
          have hmod := Int.emod_nonneg (if a6_2 < 0 then -(a6_2 + 1) else a6_2) (show (1000 : Int) ≠ 0 by decide)
          have hmod2 := Int.emod_lt_of_pos (if a6_2 < 0 then -(a6_2 + 1) else a6_2) (show (0 : Int) < 1000 by decide)
          refine Rg.eqv (v' := .int .i64 ((if a6_2 < 0 then -(a6_2 + 1) else a6_2) % 1000)) (by first | rw [if_pos c7] | rw [if_neg c7]) ?_
          generalize hmm : (if a6_2 < 0 then -(a6_2 + 1) else a6_2) % 1000 = mm at hmod hmod2 ⊢
          refine Rg.iadd rfl rfl rfl (by omega) ?_
          refine Rg.assign rfl rfl ?_
          refine Rg.nil ?_
          refine T.region ?_ -- region 10
          refine Rg.move rfl rfl ?_
          refine Rg.move rfl rfl ?_
          refine Rg.sl1 (A := RT.int .i64) (hn := by decide) (M := M1) Try.underlying23 I3 (by decide) rfl rfl hM1 (V_i64 (by omega)) (.inr ⟨rfl, rfl⟩) (fun u w2 hu s2 => ?_)
          refine Rg.append (M := M1) (base := w0.heap.size) Try.underlying23 I3 rfl rfl rfl rfl (ho.step0 s2) hu (Le.refl _ _) (by simp; omega) (by simp; omega) (Nat.le_trans s1.size s2.size) (fun v3 M3 w3 ho3 s3 => ?_)
          refine Rg.assign rfl rfl ?_
          refine Rg.nil ?_
          refine T.region ?_ -- region 5
          refine Rg.move rfl rfl ?_
          refine Rg.iadd rfl rfl rfl (by omega) ?_
          refine Rg.assign rfl rfl ?_
          refine Rg.nil ?_
          refine ⟨rfl, (k + 1, last + 1 + mm, v3, acc ++ [last + 1 + mm]), (.cons rfl (.cons rfl (.cons rfl (.cons rfl (.cons rfl .nil))))), ?_, ?_⟩
          · refine ⟨?_, by simp only; omega, by simp only; omega, by simp only; omega, by simp only; omega, by simp; omega, M3, s3.lt (s2.lt hM1), (s1.trans0 s2).transBlk s3 (ho.step0 s2) (Nat.le_refl _), ho3⟩
            rw [← hacc, goodL_drop (l := l.take most) (k := k) (x := a6_2) (by rw [List.getElem?_take, if_pos (by omega)]; exact hx), hmm]; simp
          · simp only; omega
        · -- c7 False
          refine T.skip ?_
          refine T.seq ?_
          refine T.region ?_ -- region 9
          refine Rg.move rfl rfl ?_
          refine Rg.iadd rfl rfl rfl (by omega) ?_
          refine Rg.move rfl rfl ?_
          refine Rg.imod rfl rfl rfl (by omega) ?_
          have hmod := Int.emod_nonneg (if a6_2 < 0 then -(a6_2 + 1) else a6_2) (show (1000 : Int) ≠ 0 by decide)
          have hmod2 := Int.emod_lt_of_pos (if a6_2 < 0 then -(a6_2 + 1) else a6_2) (show (0 : Int) < 1000 by decide)
          refine Rg.eqv (v' := .int .i64 ((if a6_2 < 0 then -(a6_2 + 1) else a6_2) % 1000)) (by first | rw [if_pos c7] | rw [if_neg c7]) ?_
          generalize hmm : (if a6_2 < 0 then -(a6_2 + 1) else a6_2) % 1000 = mm at hmod hmod2 ⊢
          refine Rg.iadd rfl rfl rfl (by omega) ?_
          refine Rg.assign rfl rfl ?_
          refine Rg.nil ?_
          refine T.region ?_ -- region 10
          refine Rg.move rfl rfl ?_
          refine Rg.move rfl rfl ?_
          refine Rg.sl1 (A := RT.int .i64) (hn := by decide) (M := M1) Try.underlying23 I3 (by decide) rfl rfl hM1 (V_i64 (by omega)) (.inr ⟨rfl, rfl⟩) (fun u w2 hu s2 => ?_)
          refine Rg.append (M := M1) (base := w0.heap.size) Try.underlying23 I3 rfl rfl rfl rfl (ho.step0 s2) hu (Le.refl _ _) (by simp; omega) (by simp; omega) (Nat.le_trans s1.size s2.size) (fun v3 M3 w3 ho3 s3 => ?_)
          refine Rg.assign rfl rfl ?_
          refine Rg.nil ?_
          refine T.region ?_ -- region 5
          refine Rg.move rfl rfl ?_
          refine Rg.iadd rfl rfl rfl (by omega) ?_
          refine Rg.assign rfl rfl ?_
          refine Rg.nil ?_
          refine ⟨rfl, (k + 1, last + 1 + mm, v3, acc ++ [last + 1 + mm]), (.cons rfl (.cons rfl (.cons rfl (.cons rfl (.cons rfl .nil))))), ?_, ?_⟩
          · refine ⟨?_, by simp only; omega, by simp only; omega, by simp only; omega, by simp only; omega, by simp; omega, M3, s3.lt (s2.lt hM1), (s1.trans0 s2).transBlk s3 (ho.step0 s2) (Nat.le_refl _), ho3⟩
            rw [← hacc, goodL_drop (l := l.take most) (k := k) (x := a6_2) (by rw [List.getElem?_take, if_pos (by omega)]; exact hx), hmm]; simp
          · simp only; omega
      · -- c4 False
        refine T.exit ?_
        refine T.seq ?_
        refine T.region ?_ -- region 11
        refine Rg.move rfl rfl ?_
        refine Rg.assign rfl rfl ?_
        refine Rg.nil ?_
        refine T.ret ?_
        refine Kret1 rfl rfl ⟨s1.back, ?_⟩
        rw [← hacc, List.drop_eq_nil_of_le (by rw [List.length_take]; omega), goodL, List.append_nil]
        exact Own.close hM s1 ho (by omega)
    · -- g4_4 False
      refine Rg.gno rfl rfl rfl rfl ?_
      refine Rg.gno rfl rfl rfl rfl ?_
      refine Rg.gno rfl rfl rfl rfl ?_
      refine Rg.pickf rfl rfl rfl ?_
      refine Rg.nil ?_
      refine T.iff rfl ?_
      refine T.exit ?_
      refine T.seq ?_
      refine T.region ?_ -- region 11
      refine Rg.move rfl rfl ?_
      refine Rg.assign rfl rfl ?_
      refine Rg.nil ?_
      refine T.ret ?_
      refine Kret1 rfl rfl ⟨s1.back, ?_⟩
      rw [← hacc, List.drop_eq_nil_of_le (by rw [List.length_take]; omega), goodL, List.append_nil]
      exact Own.close hM s1 ho (by omega)

/-- 'concordance/concordanceref04.PutRising' -/
theorem rPutRising_spec {M : PSet} {w0 : World} {v : Value} {l : List Int} (hM : Lt M w0) (hv : ((RT.int .i64).sl).V M w0 l v) (hr0 : rises (-1) l = true) (hll : l.length ≤ 1099511627776) :
    Spec Try.prog 66 #[v] w0 (fun v' w' => Step M w0 M w' none' ∧ (RT.u8.sl).V M w' (putRising l) v') := by
  have hpl := put_len9 (n := l.length) (by omega)
  have hall : ∀ x ∈ l, x ≤ 9223372036854775807 := fun x hx => by obtain ⟨i, hi⟩ := List.mem_iff_getElem?.1 hx; exact (i64_of hv hi).2
  have hput : (putRising l).length ≤ 9 + 9 * l.length := by have := putR_len l (-1) (by decide) hall hr0; simp only [putRising, List.length_append]; omega
  refine spec_of (args := [v]) (fn := Try.f66) Try.func66 rfl (n := 37) Try.ntmps66 ?_
  refine T.seq ?_
  refine T.region ?_ -- region 0
  refine Rg.assign rfl rfl ?_
  refine Rg.nil ?_
  refine T.seq ?_
  refine T.region ?_ -- region 1
  refine Rg.move rfl rfl ?_
  first | refine Rg.lensl Try.underlying23 rfl (by assumption) rfl ?_ | refine Rg.lenown Try.underlying23 rfl (by assumption) rfl ?_
  refine Rg.call rfl rfl E65 (rPut_own (M := M) hM (by omega)) (fun ub wb hb => ?_)
  obtain ⟨Mb, sb, hob⟩ := hb
  refine Rg.assign rfl rfl ?_
  refine Rg.nil ?_
  refine T.seq ?_
  refine T.seq ?_
  refine T.region ?_ -- region 2
  refine Rg.assign rfl rfl ?_
  refine Rg.nil ?_
  refine T.block ?_
  refine T.loop (σ := Nat × Int × Value × List UInt8) (fun s => [(0, v), (3, s.2.2.1), (4, .int .i64 s.1)]) (fun s w => s.2.2.2 ++ putR s.2.1 (l.drop s.1) = putRising l ∧ s.1 ≤ l.length ∧ rises s.2.1 (l.drop s.1) = true ∧ -1 ≤ s.2.1 ∧ (s.1 = 0 → s.2.1 = -1) ∧ (0 < s.1 → l[s.1 - 1]? = some s.2.1) ∧ (0 < s.1 → 0 ≤ s.2.1) ∧ ∃ M1, Lt M1 w ∧ Step M w0 M1 w none' ∧ Own RT.u8 5 M1 w w0.heap.size s.2.2.1 s.2.2.2) (fun s => l.length - s.1) (0, -1, _, put l.length) (.cons rfl (.cons rfl (.cons rfl .nil))) ?_ ?_ -- loop 0
  · exact ⟨rfl, Nat.zero_le _, hr0, by simp only; omega, fun _ => rfl, fun h => absurd h (Nat.lt_irrefl 0), fun h => absurd h (Nat.lt_irrefl 0), Mb, sb.lt hM, sb, hob⟩
  · rintro ⟨k, last, u0, acc⟩ w1 ⟨hacc, hk, hrs, hl0, h0, h1, h2p, M1, hM1, s1, ho⟩
    dsimp only at hacc hk hrs hl0 h0 h1 h2p ho ⊢
    refine T.seq ?_
    refine T.seq ?_
    refine T.region ?_ -- region 3
    refine Rg.move rfl rfl ?_
    refine Rg.move rfl rfl ?_
    first | refine Rg.lensl Try.underlying23 rfl (by assumption) rfl ?_ | refine Rg.lenown Try.underlying23 rfl (by assumption) rfl ?_
    refine Rg.ilt rfl rfl rfl ?_
    refine Rg.nil ?_
    refine T.ifp rfl (fun c3 => ?_) (fun c3 => ?_)
    · -- c3 True
      refine T.skip ?_
      refine T.seq ?_
      refine T.block ?_
      refine T.seq ?_
      refine T.region ?_ -- region 5
      refine Rg.move rfl rfl ?_
      refine Rg.move rfl rfl ?_
      obtain ⟨x, hx⟩ : ∃ x, l[k]? = some x := ⟨_, List.getElem?_eq_getElem (by omega)⟩
      have hxr := i64_of hv hx
      obtain ⟨hlx, hrx⟩ := rises_suffix hx hrs
      refine Rg.idx (M := M) Try.underlying23 I3 rfl rfl rfl (hv.le (s1.back).le) (Le.refl _ _) (by omega) (fun u5_2 a5_2 hg5_2 hu5_2 => ?_)
      obtain rfl : a5_2 = x := Option.some.inj (hg5_2.symm.trans (by simpa using hx))
      refine Rg.loadi64 (M := M) Try.underlying3 rfl rfl hu5_2 (Le.refl _ _) (fun _ => ?_)
      refine Rg.assign rfl rfl ?_
      refine Rg.nil ?_
      refine T.seq ?_
      refine T.seq ?_
      refine T.region ?_ -- region 6
      refine Rg.move rfl rfl ?_
      refine Rg.igt rfl rfl rfl ?_
      refine Rg.nil ?_
      refine T.ifp rfl (fun c6 => ?_) (fun c6 => ?_)
      · -- c6 True
        apply T.draw (M := M1) mixed [Asr.eq _, Asr.eq _, Asr.ptr (RT.int .i64) a5_2, Asr.eq _, Asr.eq _, Asr.eq _, Asr.eq _, Asr.ptr (RT.int .i64) last, Asr.eq _, Asr.eq _, Asr.eq _, Asr.eq _] -- region 7
        · rfl
        · -- its operations
          refine Obls.cons ?_ ?_
          · intro wD E sD -- 0
            refine Rg.move rfl rfl ?_
            exact Rg.nil ⟨rfl, rfl, _, rfl, rfl, Step.refl _ _⟩
          refine Obls.cons ?_ ?_
          · intro wD E sD -- 1
            refine Rg.move rfl rfl ?_
            exact Rg.nil ⟨rfl, rfl, _, rfl, rfl, Step.refl _ _⟩
          refine Obls.cons ?_ ?_
          · intro wD E sD -- 2
            intro x_ hx_; have hx_ : x_ = _ := hx_; subst x_
            intro x_ hx_; have hx_ : x_ = _ := hx_; subst x_
            refine Rg.idx (M := M1) Try.underlying23 I3 rfl rfl rfl (by assumption) (by repeat (first | exact Le.refl _ _ | refine Le.trans (Step.le (by assumption)) ?_)) (by omega) (fun u7_2 a7_2 hg7_2 hu7_2 => ?_)
            obtain rfl : a7_2 = a5_2 := Option.some.inj (hg7_2.symm.trans (by simpa using hx))
            exact Rg.nil ⟨rfl, rfl, _, rfl, hu7_2, Step.refl _ _⟩
          refine Obls.cons ?_ ?_
          · intro wD E sD -- 3
            intro v2 hv2
            refine Rg.loadi64 (M := M1) Try.underlying3 rfl rfl (by assumption) (by repeat (first | exact Le.refl _ _ | refine Le.trans (Step.le (by assumption)) ?_)) (fun in7_3 => ?_)
            exact Rg.nil ⟨rfl, rfl, _, rfl, rfl, Step.refl _ _⟩
          refine Obls.cons ?_ ?_
          · intro wD E sD -- 4
            refine Rg.move rfl rfl ?_
            exact Rg.nil ⟨rfl, rfl, _, rfl, rfl, Step.refl _ _⟩
          refine Obls.cons ?_ ?_
          · intro wD E sD -- 5
            refine Rg.move rfl rfl ?_
            exact Rg.nil ⟨rfl, rfl, _, rfl, rfl, Step.refl _ _⟩
          refine Obls.cons ?_ ?_
          · intro wD E sD -- 6
            intro x_ hx_; have hx_ : x_ = _ := hx_; subst x_
            refine Rg.isub rfl rfl rfl (by omega) ?_
            exact Rg.nil ⟨rfl, rfl, _, rfl, rfl, Step.refl _ _⟩
          refine Obls.cons ?_ ?_
          · intro wD E sD -- 7
            intro x_ hx_; have hx_ : x_ = _ := hx_; subst x_
            intro x_ hx_; have hx_ : x_ = _ := hx_; subst x_
            refine Rg.idx (M := M1) Try.underlying23 I3 rfl rfl rfl (by assumption) (by repeat (first | exact Le.refl _ _ | refine Le.trans (Step.le (by assumption)) ?_)) (by omega) (fun u7_7 a7_7 hg7_7 hu7_7 => ?_)
            obtain rfl : a7_7 = last := Option.some.inj (hg7_7.symm.trans (by rw [show ((k : Int) - 1).toNat = k - 1 from by omega]; exact h1 (by omega)))
            exact Rg.nil ⟨rfl, rfl, _, rfl, hu7_7, Step.refl _ _⟩
          refine Obls.cons ?_ ?_
          · intro wD E sD -- 8
            intro v7 hv7
            refine Rg.loadi64 (M := M1) Try.underlying3 rfl rfl (by assumption) (by repeat (first | exact Le.refl _ _ | refine Le.trans (Step.le (by assumption)) ?_)) (fun in7_8 => ?_)
            exact Rg.nil ⟨rfl, rfl, _, rfl, rfl, Step.refl _ _⟩
          refine Obls.cons ?_ ?_
          · intro wD E sD -- 9
            intro x_ hx_; have hx_ : x_ = _ := hx_; subst x_
            intro x_ hx_; have hx_ : x_ = _ := hx_; subst x_
            refine Rg.isub rfl rfl rfl (by omega) ?_
            exact Rg.nil ⟨rfl, rfl, _, rfl, rfl, Step.refl _ _⟩
          refine Obls.cons ?_ ?_
          · intro wD E sD -- 10
            intro x_ hx_; have hx_ : x_ = _ := hx_; subst x_
            refine Rg.isub rfl rfl rfl (by omega) ?_
            exact Rg.nil ⟨rfl, rfl, _, rfl, rfl, Step.refl _ _⟩
          refine Obls.cons ?_ ?_
          · intro wD E sD -- 11
            intro x_ hx_; have hx_ : x_ = _ := hx_; subst x_
            intro x_ hx_; have hx_ : x_ = _ := hx_; subst x_
            intro x_ hx_; have hx_ : x_ = _ := hx_; subst x_
            intro v2 hv2
            intro x_ hx_; have hx_ : x_ = _ := hx_; subst x_
            intro x_ hx_; have hx_ : x_ = _ := hx_; subst x_
            intro x_ hx_; have hx_ : x_ = _ := hx_; subst x_
            intro x_ hx_; have hx_ : x_ = _ := hx_; subst x_
            intro v7 hv7
            intro x_ hx_; have hx_ : x_ = _ := hx_; subst x_
            intro x_ hx_; have hx_ : x_ = _ := hx_; subst x_
            intro x_ hx_; have hx_ : x_ = _ := hx_; subst x_
            refine Rg.assign rfl rfl ?_
            exact Rg.nil ⟨rfl, rfl, _, rfl, rfl, Step.refl _ _⟩
          exact Obls.nil
        · -- behind it
          intro wD7 sD7
          intro x_ hx_; have hx_ : x_ = _ := hx_; subst x_
          intro x_ hx_; have hx_ : x_ = _ := hx_; subst x_
          intro v7_2 hv7_2
          intro x_ hx_; have hx_ : x_ = _ := hx_; subst x_
          intro x_ hx_; have hx_ : x_ = _ := hx_; subst x_
          intro x_ hx_; have hx_ : x_ = _ := hx_; subst x_
          intro x_ hx_; have hx_ : x_ = _ := hx_; subst x_
          intro v7_7 hv7_7
          intro x_ hx_; have hx_ : x_ = _ := hx_; subst x_
          intro x_ hx_; have hx_ : x_ = _ := hx_; subst x_
          intro x_ hx_; have hx_ : x_ = _ := hx_; subst x_
          intro x_ hx_; have hx_ : x_ = _ := hx_; subst x_
          replace ho := ho.step0 sD7
          replace hM1 := sD7.lt hM1
          replace s1 := s1.trans0 sD7
          refine T.region ?_ -- region 8
          refine Rg.move rfl rfl ?_
          refine Rg.move rfl rfl ?_
          refine Rg.eqv (v' := .int .i64 (((a5_2 - last - 1).toNat : Nat) : Int)) (by congr 1; omega) ?_
          have hpx := put_len9 (n := (a5_2 - last - 1).toNat) (by omega)
          have hpp := put_pos (a5_2 - last - 1).toNat
          have hdr := putR_drop hx last
          have hlen2 := congrArg List.length hacc
          rw [hdr] at hlen2; simp only [List.length_append] at hlen2
          refine Rg.call rfl rfl E65 (rPut_spec (M := M1) hM1 (by omega)) (fun u w2 h2 => ?_)
          obtain ⟨s2, hu⟩ := h2
          refine Rg.append (M := M1) (base := w0.heap.size) Try.underlying48 I5 rfl rfl rfl rfl (ho.step0 s2) hu (Le.refl _ _) (by omega) (by omega) (Nat.le_trans s1.size s2.size) (fun v3 M3 w3 ho3 s3 => ?_)
          refine Rg.assign rfl rfl ?_
          refine Rg.nil ?_
          refine T.region ?_ -- region 4
          refine Rg.move rfl rfl ?_
          refine Rg.iadd rfl rfl rfl (by omega) ?_
          refine Rg.assign rfl rfl ?_
          refine Rg.nil ?_
          refine ⟨rfl, (k + 1, a5_2, v3, acc ++ put (a5_2 - last - 1).toNat), (.cons rfl (.cons rfl (.cons rfl .nil))), ?_, ?_⟩
          · refine ⟨?_, by simp only; omega, hrx, by simp only; omega, fun h => by simp at h, fun _ => by simpa using hx, fun _ => by simp only; omega, M3, s3.lt (s2.lt hM1), (s1.trans0 s2).transBlk s3 (ho.step0 s2) (Nat.le_refl _), ho3⟩
            rw [← hacc, hdr, List.append_assoc]
          · simp only; omega
      · -- c6 False
        refine T.skip ?_
        refine T.region ?_ -- region 8
        refine Rg.move rfl rfl ?_
        refine Rg.move rfl rfl ?_
        refine Rg.eqv (v' := .int .i64 (((a5_2 - last - 1).toNat : Nat) : Int)) (by congr 1; omega) ?_
        have hpx := put_len9 (n := (a5_2 - last - 1).toNat) (by omega)
        have hpp := put_pos (a5_2 - last - 1).toNat
        have hdr := putR_drop hx last
        have hlen2 := congrArg List.length hacc
        rw [hdr] at hlen2; simp only [List.length_append] at hlen2
        refine Rg.call rfl rfl E65 (rPut_spec (M := M1) hM1 (by omega)) (fun u w2 h2 => ?_)
        obtain ⟨s2, hu⟩ := h2
        refine Rg.append (M := M1) (base := w0.heap.size) Try.underlying48 I5 rfl rfl rfl rfl (ho.step0 s2) hu (Le.refl _ _) (by omega) (by omega) (Nat.le_trans s1.size s2.size) (fun v3 M3 w3 ho3 s3 => ?_)
        refine Rg.assign rfl rfl ?_
        refine Rg.nil ?_
        refine T.region ?_ -- region 4
        refine Rg.move rfl rfl ?_
        refine Rg.iadd rfl rfl rfl (by omega) ?_
        refine Rg.assign rfl rfl ?_
        refine Rg.nil ?_
        refine ⟨rfl, (k + 1, a5_2, v3, acc ++ put (a5_2 - last - 1).toNat), (.cons rfl (.cons rfl (.cons rfl .nil))), ?_, ?_⟩
        · refine ⟨?_, by simp only; omega, hrx, by simp only; omega, fun h => by simp at h, fun _ => by simpa using hx, fun _ => by simp only; omega, M3, s3.lt (s2.lt hM1), (s1.trans0 s2).transBlk s3 (ho.step0 s2) (Nat.le_refl _), ho3⟩
          rw [← hacc, hdr, List.append_assoc]
        · simp only; omega
    · -- c3 False
      refine T.exit ?_
      refine T.seq ?_
      refine T.region ?_ -- region 9
      refine Rg.move rfl rfl ?_
      refine Rg.assign rfl rfl ?_
      refine Rg.nil ?_
      refine T.ret ?_
      refine Kret1 rfl rfl ⟨s1.back, ?_⟩
      rw [← hacc, List.drop_eq_nil_of_le (by omega), putR, List.append_nil]
      rw [List.drop_eq_nil_of_le (by omega), putR, List.append_nil] at hacc
      exact Own.close hM s1 ho (by rw [hacc]; omega)

/-- 'concordance/concordanceref04.GetRising' -/
theorem rGetRising_spec {M : PSet} {w0 : World} {v : Value} {b : List UInt8} {at_ : Int} (hM : Lt M w0) (hv : (RT.u8.sl).V M w0 b v) (hat : -9223372036854775808 ≤ at_ ∧ at_ ≤ 9223372036854775807) (hbl : b.length ≤ 1099511627776) :
    Spec Try.prog 64 #[v, .int .i64 at_] w0 (fun v' w' => ∃ x, v' = .tuple #[x, .int .i64 (getRising b at_).2.2, .int .i64 (getRising b at_).1] ∧ ((RT.int .i64).sl).V M w' (getRising b at_).2.1 x ∧ Step M w0 M w' none') := by
  refine spec_of (args := [v, .int .i64 at_]) (fn := Try.f64) Try.func64 rfl (n := 62) Try.ntmps64 ?_
  refine T.seq ?_
  refine T.region ?_ -- region 0
  refine Rg.assign rfl rfl ?_
  refine Rg.assign rfl rfl ?_
  refine Rg.assign rfl rfl ?_
  refine Rg.nil ?_
  refine T.seq ?_
  refine T.region ?_ -- region 1
  refine Rg.move rfl rfl ?_
  refine Rg.move rfl rfl ?_
  refine Rg.call rfl rfl E63 (rGet_spec (M := M) hM hv hat) (fun r w1 h1 => ?_)
  obtain ⟨rfl, s1⟩ := h1
  obtain ⟨hn0, hn1, hn2, hn3⟩ := get_nonneg b at_
  have hgr := get_range b at_
  refine Rg.move rfl rfl ?_
  refine Rg.extract rfl rfl rfl ?_
  refine Rg.extract rfl rfl rfl ?_
  refine Rg.extract rfl rfl rfl ?_
  refine Rg.assign rfl rfl ?_
  refine Rg.assign rfl rfl ?_
  refine Rg.assign rfl rfl ?_
  refine Rg.nil ?_
  refine T.seq ?_
  refine T.seq ?_
  refine T.region ?_ -- region 2
  refine Rg.move rfl rfl ?_
  refine Rg.ine rfl rfl rfl ?_
  refine Rg.nil ?_
  refine T.ifp rfl (fun c2 => ?_) (fun c2 => ?_)
  · -- c2 True
    refine T.seq ?_
    refine T.region ?_ -- region 3
    refine Rg.move rfl rfl ?_
    refine Rg.assign rfl rfl ?_
    refine Rg.assign rfl rfl ?_
    refine Rg.assign rfl rfl ?_
    refine Rg.nil ?_
    refine T.ret ?_
    exact Kret3 rfl rfl rfl rfl ⟨_, by unfold getRising; rw [if_pos c2] <;> rfl, by unfold getRising; rw [if_pos c2]; exact V_nil, s1⟩
  · -- c2 False
    refine T.skip ?_
    refine T.seq ?_
    refine T.region ?_ -- region 4
    refine Rg.assign rfl rfl ?_
    refine Rg.nil ?_
    refine T.seq ?_
    refine T.seq ?_
    refine T.region ?_ -- region 5
    refine Rg.assign rfl rfl ?_
    refine Rg.nil ?_
    refine T.block ?_
    refine T.loop (σ := Nat × Int × Int × Value × List Int) (fun s => [(0, v), (1, .int .i64 s.2.1), (7, .int .i64 (get b at_).1), (9, s.2.2.2.1), (10, .int .i64 s.1)]) (fun s w => getRising b at_ = andThen s.2.2.2.2 (getRL b ((get b at_).1.toNat - s.1) s.2.1 s.2.2.1) ∧ s.2.2.2.2.length = s.1 ∧ (s.1 = 0 → s.2.2.1 = -1) ∧ (0 < s.1 → s.2.2.2.2[s.1 - 1]? = some s.2.2.1) ∧ (0 < s.1 → 0 ≤ s.2.2.1 ∧ s.2.2.1 ≤ 4611686018427387904) ∧ (s.1 : Int) ≤ s.2.1 ∧ s.2.1 ≤ b.length ∧ (s.1 : Int) ≤ (get b at_).1 ∧ ∃ M1, Lt M1 w ∧ Step M w0 M1 w none' ∧ Own (RT.int .i64) 3 M1 w w0.heap.size s.2.2.2.1 s.2.2.2.2) (fun s => (get b at_).1.toNat - s.1) (0, (get b at_).2.1, -1, _, []) (.cons rfl (.cons rfl (.cons rfl (.cons rfl (.cons rfl .nil))))) ?_ ?_ -- loop 0
    · have hok := get_ok (b := b) (at_ := at_) (by omega)
      refine ⟨?_, rfl, fun _ => rfl, fun h => absurd h (Nat.lt_irrefl 0), fun h => absurd h (Nat.lt_irrefl 0), by simp only; omega, by simp only; omega, by simp only; omega, M, s1.lt hM, s1, Own.nil _ _ _ _ _⟩
      unfold getRising; rw [if_neg (by omega)]; exact (andThen_nil _ (getRL_err b _ _ _)).symm
    · rintro ⟨i, a1, last, u0, acc⟩ wl ⟨hp, hal, h0, h1, hlp, hb1, hb2, hb3, M1, hM1, S, ho⟩
      dsimp only at hp hal h0 h1 hlp hb1 hb2 hb3 ho ⊢
      refine T.seq ?_
      refine T.seq ?_
      refine T.region ?_ -- region 6
      refine Rg.move rfl rfl ?_
      refine Rg.move rfl rfl ?_
      refine Rg.ilt rfl rfl rfl ?_
      refine Rg.nil ?_
      refine T.ifp rfl (fun c6 => ?_) (fun c6 => ?_)
      · -- c6 True
        refine T.skip ?_
        refine T.seq ?_
        refine T.block ?_
        refine T.seq ?_
        refine T.region ?_ -- region 8
        refine Rg.move rfl rfl ?_
        refine Rg.move rfl rfl ?_
        refine Rg.call rfl rfl E63 (rGet_spec (M := M1) hM1 (hv.le S.le) (by omega)) (fun r w6 h6 => ?_)
        obtain ⟨rfl, s6⟩ := h6
        replace S := S.trans0 s6
        replace ho := ho.step0 s6
        replace hM1 := s6.lt hM1
        clear s6
        obtain ⟨hm0, hm1, hm2, hm3⟩ := get_nonneg b a1
        have hgr1 := get_range b a1
        have hmm : (get b at_).1.toNat - i = ((get b at_).1.toNat - (i + 1)) + 1 := by omega
        rw [hmm] at hp
        refine Rg.move rfl rfl ?_
        refine Rg.extract rfl rfl rfl ?_
        refine Rg.extract rfl rfl rfl ?_
        refine Rg.extract rfl rfl rfl ?_
        refine Rg.assign rfl rfl ?_
        refine Rg.assign rfl rfl ?_
        refine Rg.assign rfl rfl ?_
        refine Rg.nil ?_
        refine T.seq ?_
        refine T.seq ?_
        refine T.region ?_ -- region 9
        refine Rg.move rfl rfl ?_
        refine Rg.ine rfl rfl rfl ?_
        refine Rg.nil ?_
        refine T.ifp rfl (fun c9 => ?_) (fun c9 => ?_)
        · -- c9 True
          refine T.seq ?_
          refine T.region ?_ -- region 10
          refine Rg.move rfl rfl ?_
          refine Rg.assign rfl rfl ?_
          refine Rg.assign rfl rfl ?_
          refine Rg.assign rfl rfl ?_
          refine Rg.nil ?_
          refine T.ret ?_
          have hr : getRising b at_ = ((get b a1).2.2, [], 0) := by rw [hp, getRL_fail c9]; unfold andThen; rw [if_pos c9]
          exact Kret3 rfl rfl rfl rfl ⟨_, by rw [hr] <;> rfl, by rw [hr]; exact V_nil, S.back⟩
        · -- c9 False
          refine T.skip ?_
          refine T.seq ?_
          refine T.seq ?_
          refine T.region ?_ -- region 11
          refine Rg.move rfl rfl ?_
          refine Rg.igt rfl rfl rfl ?_
          refine Rg.nil ?_
          refine T.ifp rfl (fun c11 => ?_) (fun c11 => ?_)
          · -- c11 True
            refine T.region ?_ -- region 12
            refine Rg.move rfl rfl ?_
            refine Rg.move rfl rfl ?_
            refine Rg.move rfl rfl ?_
            refine Rg.isub rfl rfl rfl (by omega) ?_
            refine Rg.idx (M := rm M1 u0) Try.underlying23 I3 rfl rfl rfl (ho.view (hn := by decide) (by omega)) (Le.refl _ _) (by omega) (fun u12_4 a12_4 hg12_4 hu12_4 => ?_)
            obtain rfl : a12_4 = last := Option.some.inj (hg12_4.symm.trans (by rw [show ((i : Int) - 1).toNat = i - 1 from by omega]; exact h1 (by omega)))
            refine Rg.loadi64 (M := rm M1 u0) Try.underlying3 rfl rfl hu12_4 (Le.refl _ _) (fun _ => ?_)
            refine Rg.addw rfl rfl rfl ?_
            refine Rg.addw rfl rfl rfl ?_
            have hXf : (IntKind.i64.wrap (IntKind.i64.wrap ((get b a1).1 + a12_4) + 1) < 0 ∨ 4611686018427387904 < IntKind.i64.wrap (IntKind.i64.wrap ((get b a1).1 + a12_4) + 1) ↔ 4611686018427387904 - a12_4 - 1 < (get b a1).1) ∧ (¬ 4611686018427387904 - a12_4 - 1 < (get b a1).1 → IntKind.i64.wrap (IntKind.i64.wrap ((get b a1).1 + a12_4) + 1) = a12_4 + 1 + (get b a1).1) := by
              have := hlp (by omega)
              rw [IntKind.wrap_i64, IntKind.wrap_i64]; omega
            generalize IntKind.i64.wrap (IntKind.i64.wrap ((get b a1).1 + a12_4) + 1) = X at hXf ⊢
            obtain ⟨last, rfl⟩ : ∃ last, last = a12_4 := ⟨_, rfl⟩
            refine Rg.assign rfl rfl ?_
            refine Rg.nil ?_
            refine T.seq ?_
            refine T.seq ?_
            refine T.region ?_ -- region 13
            refine Rg.move rfl rfl ?_
            refine Rg.ilt rfl rfl rfl ?_
            refine Rg.move rfl rfl ?_
            refine Rg.gsplitp (g := 51) rfl (fun g13_2 => ?_) (fun g13_2 => ?_)
            · -- g13_2 True
              refine Rg.gno rfl rfl rfl rfl ?_
              refine Rg.gno rfl rfl rfl rfl ?_
              refine Rg.pickt rfl rfl rfl ?_
              refine Rg.nil ?_
              refine T.ift rfl ?_
              refine T.seq ?_
              refine T.region ?_ -- region 14
              refine Rg.assign rfl rfl ?_
              refine Rg.assign rfl rfl ?_
              refine Rg.assign rfl rfl ?_
              refine Rg.nil ?_
              refine T.ret ?_
              have hbig : 4611686018427387904 - last - 1 < (get b a1).1 := by
                first | exact hXf.1.1 (.inl g13_2) | exact hXf.1.1 (.inr c13)
              have hr : getRising b at_ = (2, [], 0) := by rw [hp, getRL_big (by omega) hbig]; rfl
              exact Kret3 rfl rfl rfl rfl ⟨_, by rw [hr] <;> rfl, by rw [hr]; exact V_nil, S.back⟩
            · -- g13_2 False
              refine Rg.gyes rfl rfl ?_
              refine Rg.move rfl rfl ?_
              refine Rg.gyes rfl rfl ?_
              refine Rg.igt rfl rfl rfl ?_
              refine Rg.pickf rfl rfl rfl ?_
              refine Rg.nil ?_
              refine T.ifp rfl (fun c13 => ?_) (fun c13 => ?_)
              · -- c13 True
                refine T.seq ?_
                refine T.region ?_ -- region 14
                refine Rg.assign rfl rfl ?_
                refine Rg.assign rfl rfl ?_
                refine Rg.assign rfl rfl ?_
                refine Rg.nil ?_
                refine T.ret ?_
                have hbig : 4611686018427387904 - last - 1 < (get b a1).1 := by
                  first | exact hXf.1.1 (.inl g13_2) | exact hXf.1.1 (.inr c13)
                have hr : getRising b at_ = (2, [], 0) := by rw [hp, getRL_big (by omega) hbig]; rfl
                exact Kret3 rfl rfl rfl rfl ⟨_, by rw [hr] <;> rfl, by rw [hr]; exact V_nil, S.back⟩
              · -- c13 False
                refine T.skip ?_
                refine T.seq ?_
                refine T.region ?_ -- region 15
                refine Rg.move rfl rfl ?_
                refine Rg.move rfl rfl ?_
                refine Rg.sl1 (A := RT.int .i64) (hn := by decide) (M := M1) Try.underlying23 I3 (by decide) rfl rfl hM1 (V_i64 (by omega)) (.inr ⟨rfl, rfl⟩) (fun u w8 hu s8 => ?_)
                have hgok := get_ok (b := b) (at_ := a1) (by omega)
                refine Rg.append (M := M1) (base := w0.heap.size) Try.underlying23 I3 rfl rfl rfl rfl (ho.step0 s8) hu (Le.refl _ _) (by simp; omega) (by simp; omega) (Nat.le_trans S.size s8.size) (fun v9 M9 w9 ho9 s9 => ?_)
                refine Rg.assign rfl rfl ?_
                refine Rg.nil ?_
                refine T.region ?_ -- region 16
                refine Rg.move rfl rfl ?_
                refine Rg.assign rfl rfl ?_
                refine Rg.nil ?_
                refine T.region ?_ -- region 7
                refine Rg.move rfl rfl ?_
                refine Rg.iadd rfl rfl rfl (by omega) ?_
                refine Rg.assign rfl rfl ?_
                refine Rg.nil ?_
                refine ⟨rfl, (i + 1, (get b a1).2.1, last + 1 + (get b a1).1, v9, acc ++ [X]), (.cons rfl (.cons rfl (.cons rfl (.cons rfl (.cons rfl .nil))))), ?_, ?_⟩
                · have hx := hXf.2 (by omega)
                  refine ⟨?_, by simp; omega, fun h => by simp at h, fun _ => by simp [hal, ← hx], fun _ => by simp only; omega, by simp only; omega, by simp only; omega, by simp only; omega, M9, s9.lt (s8.lt hM1), (S.trans0 s8).transBlk s9 (ho.step0 s8) (Nat.le_refl _), ho9⟩
                  rw [hp, andThen_next acc (by omega) (by omega), hx]
                · simp only; omega
          · -- c11 False
            have hl1 := h0 (by omega)
            obtain ⟨X, hX⟩ : ∃ X, X = (get b a1).1 := ⟨_, rfl⟩
            have hXf : (X < 0 ∨ 4611686018427387904 < X ↔ 4611686018427387904 - last - 1 < (get b a1).1) ∧ (¬ 4611686018427387904 - last - 1 < (get b a1).1 → X = last + 1 + (get b a1).1) := by omega
            rw [← hX]
            refine T.skip ?_
            refine T.seq ?_
            refine T.seq ?_
            refine T.region ?_ -- region 13
            refine Rg.move rfl rfl ?_
            refine Rg.ilt rfl rfl rfl ?_
            refine Rg.move rfl rfl ?_
            refine Rg.gsplitp (g := 51) rfl (fun g13_2 => ?_) (fun g13_2 => ?_)
            · -- g13_2 True
              refine Rg.gno rfl rfl rfl rfl ?_
              refine Rg.gno rfl rfl rfl rfl ?_
              refine Rg.pickt rfl rfl rfl ?_
              refine Rg.nil ?_
              refine T.ift rfl ?_
              refine T.seq ?_
              refine T.region ?_ -- region 14
              refine Rg.assign rfl rfl ?_
              refine Rg.assign rfl rfl ?_
              refine Rg.assign rfl rfl ?_
              refine Rg.nil ?_
              refine T.ret ?_
              have hbig : 4611686018427387904 - last - 1 < (get b a1).1 := by
                first | exact hXf.1.1 (.inl g13_2) | exact hXf.1.1 (.inr c13)
              have hr : getRising b at_ = (2, [], 0) := by rw [hp, getRL_big (by omega) hbig]; rfl
              exact Kret3 rfl rfl rfl rfl ⟨_, by rw [hr] <;> rfl, by rw [hr]; exact V_nil, S.back⟩
            · -- g13_2 False
              refine Rg.gyes rfl rfl ?_
              refine Rg.move rfl rfl ?_
              refine Rg.gyes rfl rfl ?_
              refine Rg.igt rfl rfl rfl ?_
              refine Rg.pickf rfl rfl rfl ?_
              refine Rg.nil ?_
              refine T.ifp rfl (fun c13 => ?_) (fun c13 => ?_)
              · -- c13 True
                refine T.seq ?_
                refine T.region ?_ -- region 14
                refine Rg.assign rfl rfl ?_
                refine Rg.assign rfl rfl ?_
                refine Rg.assign rfl rfl ?_
                refine Rg.nil ?_
                refine T.ret ?_
                have hbig : 4611686018427387904 - last - 1 < (get b a1).1 := by
                  first | exact hXf.1.1 (.inl g13_2) | exact hXf.1.1 (.inr c13)
                have hr : getRising b at_ = (2, [], 0) := by rw [hp, getRL_big (by omega) hbig]; rfl
                exact Kret3 rfl rfl rfl rfl ⟨_, by rw [hr] <;> rfl, by rw [hr]; exact V_nil, S.back⟩
              · -- c13 False
                refine T.skip ?_
                refine T.seq ?_
                refine T.region ?_ -- region 15
                refine Rg.move rfl rfl ?_
                refine Rg.move rfl rfl ?_
                refine Rg.sl1 (A := RT.int .i64) (hn := by decide) (M := M1) Try.underlying23 I3 (by decide) rfl rfl hM1 (V_i64 (by omega)) (.inr ⟨rfl, rfl⟩) (fun u w8 hu s8 => ?_)
                have hgok := get_ok (b := b) (at_ := a1) (by omega)
                refine Rg.append (M := M1) (base := w0.heap.size) Try.underlying23 I3 rfl rfl rfl rfl (ho.step0 s8) hu (Le.refl _ _) (by simp; omega) (by simp; omega) (Nat.le_trans S.size s8.size) (fun v9 M9 w9 ho9 s9 => ?_)
                refine Rg.assign rfl rfl ?_
                refine Rg.nil ?_
                refine T.region ?_ -- region 16
                refine Rg.move rfl rfl ?_
                refine Rg.assign rfl rfl ?_
                refine Rg.nil ?_
                refine T.region ?_ -- region 7
                refine Rg.move rfl rfl ?_
                refine Rg.iadd rfl rfl rfl (by omega) ?_
                refine Rg.assign rfl rfl ?_
                refine Rg.nil ?_
                refine ⟨rfl, (i + 1, (get b a1).2.1, last + 1 + (get b a1).1, v9, acc ++ [X]), (.cons rfl (.cons rfl (.cons rfl (.cons rfl (.cons rfl .nil))))), ?_, ?_⟩
                · have hx := hXf.2 (by omega)
                  refine ⟨?_, by simp; omega, fun h => by simp at h, fun _ => by simp [hal, ← hx], fun _ => by simp only; omega, by simp only; omega, by simp only; omega, by simp only; omega, M9, s9.lt (s8.lt hM1), (S.trans0 s8).transBlk s9 (ho.step0 s8) (Nat.le_refl _), ho9⟩
                  rw [hp, andThen_next acc (by omega) (by omega), hx]
                · simp only; omega
      · -- c6 False
        refine T.exit ?_
        refine T.seq ?_
        refine T.region ?_ -- region 17
        refine Rg.move rfl rfl ?_
        refine Rg.move rfl rfl ?_
        refine Rg.assign rfl rfl ?_
        refine Rg.assign rfl rfl ?_
        refine Rg.assign rfl rfl ?_
        refine Rg.nil ?_
        refine T.ret ?_
        have hz : (get b at_).1.toNat - i = 0 := by omega
        rw [hz, getRL_zero] at hp
        simp only [andThen, ne_eq, not_true_eq_false, if_false, List.append_nil] at hp
        exact Kret3 rfl rfl rfl rfl ⟨_, by rw [hp] <;> rfl, by rw [hp]; exact Own.close hM S ho (by simp only; omega), S.back⟩

end Go.K

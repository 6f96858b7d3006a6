/- The walks of Go functions, operation by operation. -/
import Derived.Test.YthgkpcpioildcaaKTypes
import Derived.Test.YthgkpcpioildcaaKNum
import Derived.Test.YthgkpcpioildcaaKPure04
import Derived.Test.YthgkpcpioildcaaKDraw
import Derived.Test.YthgkpcpioildcaaKVint
import Derived.Test.YthgkpcpioildcaaKRef04
import Derived.Test.YthgkpcpioildcaaProg
namespace Go.K
open Go.Proofs
set_option linter.unusedVariables false
set_option linter.unusedSimpArgs false
set_option maxRecDepth 10000


theorem flat_at {α β : Type} (f : α → List β) : ∀ {l : List α} {j : Nat} {x : α}, l[j]? = some x → l.flatMap f = (l.take j).flatMap f ++ f x ++ (l.drop (j + 1)).flatMap f
  | [], _, _, h => by simp at h
  | y :: l, 0, x, h => by simp at h; subst h; simp
  | y :: l, j + 1, x, h => by
    have := flat_at f (l := l) (j := j) (by simpa using h)
    rw [List.flatMap_cons, this]; simp
theorem flat_succ {α β : Type} (f : α → List β) {l : List α} {j : Nat} {x : α} (h : l[j]? = some x) : (l.take (j + 1)).flatMap f = (l.take j).flatMap f ++ f x := by
  obtain ⟨h1, h2⟩ := List.getElem?_eq_some_iff.1 h
  rw [List.take_succ_eq_append_getElem h1, h2]; simp
theorem flat_take {α β : Type} (f : α → List β) (l : List α) (j : Nat) : ((l.take j).flatMap f).length ≤ (l.flatMap f).length := by
  have := congrArg (fun l => (l.flatMap f).length) (List.take_append_drop j l)
  simp only [List.flatMap_append, List.length_append] at this
  omega

/-- 'concordance/concordancelaw04.few' -/
theorem few_spec {M : PSet} {w0 : World} {v : Value} {b : List UInt8} (hv : (RT.u8.sl).V M w0 b v) :
    Spec Try.prog 9 #[v] w0 (fun v' w' => (RT.u8.sl).V M w0 (b.take 60) v' ∧ w0 = w') := by
  refine spec_of (args := [v]) (fn := Try.f9) Try.func9 rfl (n := 9) Try.ntmps9 ?_
  refine T.seq ?_
  refine T.region ?_ -- region 0
  refine Rg.assign rfl rfl ?_
  refine Rg.nil ?_
  refine T.seq ?_
  refine T.seq ?_
  refine T.region ?_ -- region 1
  refine Rg.move rfl rfl ?_
  first | refine Rg.lensl Try.underlying22 rfl (by assumption) rfl ?_ | refine Rg.lenown Try.underlying22 rfl (by assumption) rfl ?_
  refine Rg.igt rfl rfl rfl ?_
  refine Rg.nil ?_
  refine T.ifp rfl (fun c1 => ?_) (fun c1 => ?_)
  · -- c1 True
    refine T.seq ?_
    refine T.region ?_ -- region 2
    refine Rg.move rfl rfl ?_
    refine Rg.slice_h Try.underlying22 I5 rfl rfl rfl (by assumption) (by omega) (fun u2_1 hu2_1 => ?_)
    refine Rg.assign rfl rfl ?_
    refine Rg.nil ?_
    refine T.ret ?_
    exact Kret1 rfl rfl ⟨hu2_1, rfl⟩
  · -- c1 False
    refine T.skip ?_
    refine T.seq ?_
    refine T.region ?_ -- region 3
    refine Rg.move rfl rfl ?_
    refine Rg.assign rfl rfl ?_
    refine Rg.nil ?_
    refine T.ret ?_
    exact Kret1 rfl rfl ⟨by rw [List.take_of_length_le (by omega)]; exact hv, rfl⟩

/-- 'concordance/concordancelaw04.lives' -/
theorem lives_spec {M : PSet} {w0 : World} (hM : Lt M w0) :
    Spec Try.prog 12 #[] w0 (fun v' w' => v' = .bool true ∧ Step M w0 M w' none') := by
  refine spec_of (args := []) (fn := Try.f12) Try.func12 rfl (n := 34) Try.ntmps12 ?_
  refine T.seq ?_
  refine T.region ?_ -- region 0
  refine Rg.assign rfl rfl ?_
  refine Rg.nil ?_
  refine T.seq ?_
  refine T.region ?_ -- region 1
  refine Rg.call rfl rfl E13 (Put_spec (M := M) (b := []) (n := 300) hM V_nil (by simp) (by decide)) (fun u1 w1 h1 => ?_)
  obtain ⟨s1, hu1⟩ := h1
  rw [show ([] : List UInt8) ++ put 300 = [172, 2] from by rw [put_ge (by decide), put_lt (by decide)]; rfl] at hu1
  refine Rg.assign rfl rfl ?_
  refine Rg.nil ?_
  refine T.seq ?_
  refine T.region ?_ -- region 2
  refine Rg.sln (A := RT.int .i64) (hn := by decide) (M := M) (xs := [3, 4, 9]) Try.underlying34 I3 rfl (by decide) rfl ⟨3, [4, 9], _, rfl, rfl, rfl, V_i64 (by omega), 4, [9], _, rfl, rfl, rfl, V_i64 (by omega), 9, [], _, rfl, rfl, rfl, V_i64 (by omega), rfl⟩ rfl (s1.lt hM) (.inr ⟨rfl, rfl⟩) (by decide) (fun u2 w2 hu2 s2 => ?_)
  refine Rg.call rfl rfl E17 (PutRising_spec (M := M) (b := []) (s2.lt (s1.lt hM)) V_nil hu2 (by simp)) (fun r3 w3 h3 => ?_)
  obtain ⟨x3, s3, rfl, hx3⟩ := h3
  rw [show (if rises (-1) [3, 4, 9] = true then ([] : List UInt8) ++ putRising [3, 4, 9] else []) = [3, 3, 0, 4] from by rw [if_pos (by decide)]; simp only [putRising, putR]; rw [put_lt (by decide), put_lt (by decide), put_lt (by decide), put_lt (by decide)]; rfl] at hx3
  replace hu1 := (hu1.le s2.le).le s3.le
  refine Rg.move rfl rfl ?_
  refine Rg.extract rfl rfl rfl ?_
  refine Rg.extract rfl rfl rfl ?_
  refine Rg.assign rfl rfl ?_
  refine Rg.assign rfl rfl ?_
  refine Rg.nil ?_
  refine T.seq ?_
  refine T.region ?_ -- region 3
  refine Rg.move rfl rfl ?_
  first | refine Rg.lensl Try.underlying22 rfl (by assumption) rfl ?_ | refine Rg.lenown Try.underlying22 rfl (by assumption) rfl ?_
  refine Rg.ieq rfl rfl rfl ?_
  refine Rg.move rfl rfl ?_
  refine Rg.gtrue (g := 13) rfl (rfl) ?_
  refine Rg.gyes rfl rfl ?_
  refine Rg.move rfl rfl ?_
  refine Rg.gyes rfl rfl ?_
  refine Rg.idx (M := M) Try.underlying22 I5 rfl rfl rfl hu1 (Le.refl _ _) (by decide) (fun u3_5 a3_5 hg3_5 hu3_5 => ?_)
  obtain rfl : a3_5 = 172 := Option.some.inj (hg3_5.symm.trans rfl)
  refine Rg.gyes rfl rfl ?_
  refine Rg.loadu8 (M := M) Try.underlying5 rfl rfl (by assumption) (by repeat (first | exact Le.refl _ _ | refine Le.trans (Step.le (by assumption)) ?_)) ?_
  refine Rg.gyes rfl rfl ?_
  refine Rg.ieq rfl rfl rfl ?_
  refine Rg.pickt rfl rfl rfl ?_
  refine Rg.move rfl rfl ?_
  refine Rg.gtrue (g := 19) rfl (rfl) ?_
  refine Rg.gyes rfl rfl ?_
  refine Rg.move rfl rfl ?_
  refine Rg.gyes rfl rfl ?_
  refine Rg.idx (M := M) Try.underlying22 I5 rfl rfl rfl hu1 (Le.refl _ _) (by decide) (fun u3_11 a3_11 hg3_11 hu3_11 => ?_)
  obtain rfl : a3_11 = 2 := Option.some.inj (hg3_11.symm.trans rfl)
  refine Rg.gyes rfl rfl ?_
  refine Rg.loadu8 (M := M) Try.underlying5 rfl rfl (by assumption) (by repeat (first | exact Le.refl _ _ | refine Le.trans (Step.le (by assumption)) ?_)) ?_
  refine Rg.gyes rfl rfl ?_
  refine Rg.ieq rfl rfl rfl ?_
  refine Rg.pickt rfl rfl rfl ?_
  refine Rg.move rfl rfl ?_
  refine Rg.gtrue (g := 25) rfl (rfl) ?_
  refine Rg.gyes rfl rfl ?_
  refine Rg.move rfl rfl ?_
  refine Rg.gyes rfl rfl ?_
  refine Rg.b2s (M := M) Try.underlying22 Try.underlying5 Try.underlying9 rfl rfl (by assumption) (by repeat (first | exact Le.refl _ _ | refine Le.trans (Step.le (by assumption)) ?_)) ?_
  refine Rg.gyes rfl rfl ?_
  refine Rg.streq rfl rfl rfl ?_
  refine Rg.pickt rfl rfl rfl ?_
  refine Rg.move rfl rfl ?_
  refine Rg.gtrue (g := 30) rfl (rfl) ?_
  refine Rg.gyes rfl rfl ?_
  refine Rg.move rfl rfl ?_
  refine Rg.gyes rfl rfl ?_
  refine Rg.ieq rfl rfl rfl ?_
  refine Rg.pickt rfl rfl rfl ?_
  refine Rg.assign rfl rfl ?_
  refine Rg.nil ?_
  refine T.ret ?_
  exact Kret1 rfl rfl ⟨rfl, (s1.trans0 s2).trans0 s3⟩

/-- 'concordance/concordancelaw04.VintGets' -/
theorem VintGets_spec {M : PSet} {w0 : World} {v : Value} {b : List UInt8} {at_ : Int} (hM : Lt M w0) (hv : (RT.u8.sl).V M w0 b v) (hat : -9223372036854775808 ≤ at_ ∧ at_ ≤ 9223372036854775807) :
    Spec Try.prog 3 #[v, .int .i64 at_] w0 (fun v' w' => v' = .bool true ∧ Step M w0 M w' none') := by
  refine spec_of (args := [v, .int .i64 at_]) (fn := Try.f3) Try.func3 rfl (n := 43) Try.ntmps3 ?_
  refine T.seq ?_
  refine T.region ?_ -- region 0
  refine Rg.assign rfl rfl ?_
  refine Rg.nil ?_
  refine T.seq ?_
  refine T.region ?_ -- region 1
  refine Rg.move rfl rfl ?_
  refine Rg.call rfl rfl E9 (few_spec (M := M) (hv)) (fun u1 w1 h1 => ?_)
  obtain ⟨hu1, rfl⟩ := h1
  refine Rg.assign rfl rfl ?_
  refine Rg.nil ?_
  refine T.seq ?_
  refine T.region ?_ -- region 2
  refine Rg.move rfl rfl ?_
  refine Rg.move rfl rfl ?_
  refine Rg.call rfl rfl E10 (Get_spec hu1 hat) (fun r2 w2 h2 => ?_)
  obtain ⟨rfl, rfl⟩ := h2
  refine Rg.move rfl rfl ?_
  refine Rg.extract rfl rfl rfl ?_
  refine Rg.extract rfl rfl rfl ?_
  refine Rg.extract rfl rfl rfl ?_
  refine Rg.assign rfl rfl ?_
  refine Rg.assign rfl rfl ?_
  refine Rg.assign rfl rfl ?_
  refine Rg.nil ?_
  refine T.seq ?_
  refine T.region ?_ -- region 3
  refine Rg.move rfl rfl ?_
  refine Rg.move rfl rfl ?_
  refine Rg.call rfl rfl E11 (rGet_spec (M := M) hM hu1 hat) (fun r3 w3 h3 => ?_)
  obtain ⟨rfl, s3⟩ := h3
  refine Rg.move rfl rfl ?_
  refine Rg.extract rfl rfl rfl ?_
  refine Rg.extract rfl rfl rfl ?_
  refine Rg.extract rfl rfl rfl ?_
  refine Rg.assign rfl rfl ?_
  refine Rg.assign rfl rfl ?_
  refine Rg.assign rfl rfl ?_
  refine Rg.nil ?_
  refine T.seq ?_
  refine T.region ?_ -- region 4
  refine Rg.move rfl rfl ?_
  refine Rg.move rfl rfl ?_
  refine Rg.ieq rfl rfl rfl ?_
  refine Rg.move rfl rfl ?_
  refine Rg.gtrue (g := 30) rfl (rfl) ?_
  refine Rg.gyes rfl rfl ?_
  refine Rg.move rfl rfl ?_
  refine Rg.gyes rfl rfl ?_
  refine Rg.move rfl rfl ?_
  refine Rg.gyes rfl rfl ?_
  refine Rg.ieq rfl rfl rfl ?_
  refine Rg.pickt rfl rfl rfl ?_
  refine Rg.move rfl rfl ?_
  refine Rg.gtrue (g := 35) rfl (rfl) ?_
  refine Rg.gyes rfl rfl ?_
  refine Rg.move rfl rfl ?_
  refine Rg.gyes rfl rfl ?_
  refine Rg.move rfl rfl ?_
  refine Rg.gyes rfl rfl ?_
  refine Rg.ieq rfl rfl rfl ?_
  refine Rg.pickt rfl rfl rfl ?_
  refine Rg.move rfl rfl ?_
  refine Rg.gtrue (g := 40) rfl (rfl) ?_
  refine Rg.gyes rfl rfl ?_
  refine Rg.call rfl rfl E12 (lives_spec (M := M) (s3.lt hM)) (fun rL wL hL => ?_)
  obtain ⟨rfl, sL⟩ := hL
  refine Rg.pickt rfl rfl rfl ?_
  refine Rg.assign rfl rfl ?_
  refine Rg.nil ?_
  refine T.ret ?_
  exact Kret1 rfl rfl ⟨rfl, s3.trans0 sL⟩

/-- 'concordance/concordancelaw04.VintPuts' -/
theorem VintPuts_spec {M : PSet} {w0 : World} {v u : Value} {b c : List UInt8} {n : Int} (hM : Lt M w0) (hn : -9223372036854775808 ≤ n ∧ n ≤ 9223372036854775807) (hv : (RT.u8.sl).V M w0 b v) (hc : (RT.u8.sl).V M w0 c u) :
    Spec Try.prog 4 #[.int .i64 n, v, u] w0 (fun v' w' => v' = .bool true ∧ Step M w0 M w' none') := by
  refine spec_of (args := [.int .i64 n, v, u]) (fn := Try.f4) Try.func4 rfl (n := 67) Try.ntmps4 ?_
  refine T.seq ?_
  refine T.region ?_ -- region 0
  refine Rg.assign rfl rfl ?_
  refine Rg.nil ?_
  refine T.seq ?_
  refine T.seq ?_
  refine T.region ?_ -- region 1
  refine Rg.move rfl rfl ?_
  refine Rg.ilt rfl rfl rfl ?_
  refine Rg.nil ?_
  refine T.ifp rfl (fun c1 => ?_) (fun c1 => ?_)
  · -- c1 True
    refine T.region ?_ -- region 2
    refine Rg.move rfl rfl ?_
    refine Rg.iadd rfl rfl rfl (by omega) ?_
    refine Rg.neg rfl rfl (by omega) ?_
    obtain ⟨m, hm⟩ : ∃ m : Nat, (m : Int) = -(n + 1) := ⟨_, Int.toNat_of_nonneg (by omega)⟩
    refine Rg.eqv (v' := .int .i64 (m : Int)) (by rw [hm]) ?_
    have hrm : m ≤ 9223372036854775807 := by omega
    refine Rg.assign rfl rfl ?_
    refine Rg.nil ?_
    refine T.seq ?_
    refine T.region ?_ -- region 3
    refine Rg.move rfl rfl ?_
    refine Rg.call rfl rfl E9 (few_spec (M := M) (hv)) (fun u3 w3 h3 => ?_)
    obtain ⟨hu3, rfl⟩ := h3
    have hbl : (b.take 60).length ≤ 60 := (by rw [List.length_take]; omega)
    generalize b.take 60 = b1 at hu3 hbl
    refine Rg.assign rfl rfl ?_
    refine Rg.nil ?_
    refine T.seq ?_
    refine T.region ?_ -- region 4
    refine Rg.move rfl rfl ?_
    refine Rg.move rfl rfl ?_
    refine Rg.call rfl rfl E13 (Put_own (M := M) hM hu3 (by omega) hrm) (fun v7 w4 h4 => ?_)
    obtain ⟨M1, s1, ho1⟩ := h4
    have h9 := put_len9 hrm
    have hl7 : (b1 ++ put m).length = b1.length + (put m).length := List.length_append
    have hv7 : (RT.u8.sl).V M w4 (b1 ++ put m) v7 := Own.close hM s1 ho1 (by omega)
    have hMw : Lt M w4 := s1.back.lt hM
    replace hu3 := hu3.le s1.back.le
    refine Rg.assign rfl rfl ?_
    refine Rg.nil ?_
    refine T.seq ?_
    refine T.seq ?_
    by_cases g5_9 : b1 ++ put m ≠ b1 ++ put m
    · -- g5_9 True
      exact absurd rfl g5_9
    · -- g5_9 False
      apply T.draw (M := M) mixed [Asr.eq _, Asr.eq _, Asr.eq _, Asr.eq _, Asr.eq _, Asr.V (RT.u8.sl) (put m), Asr.eq _, Asr.eq _, Asr.eq _, Asr.eq (.bool false), Asr.eq _, Asr.eq _, Asr.eq _, Asr.eq _, Asr.eq _, Asr.eq _, Asr.eq _, Asr.eq _, Asr.eq _] -- region 5
      · rfl
      · -- its operations
        refine Obls.cons ?_ ?_
        · intro wD E sD -- 0
          refine Rg.move rfl rfl ?_
          exact Rg.nil ⟨rfl, rfl, _, rfl, rfl, Step.refl _ _⟩
        refine Obls.cons ?_ ?_
        · intro wD E sD -- 1
          rintro _ rfl
          refine Rg.b2s (M := M) Try.underlying22 Try.underlying5 Try.underlying9 rfl rfl (by assumption) (by repeat (first | exact Le.refl _ _ | refine Le.trans (Step.le (by assumption)) ?_)) ?_
          exact Rg.nil ⟨rfl, rfl, _, rfl, rfl, Step.refl _ _⟩
        refine Obls.cons ?_ ?_
        · intro wD E sD -- 2
          refine Rg.move rfl rfl ?_
          exact Rg.nil ⟨rfl, rfl, _, rfl, rfl, Step.refl _ _⟩
        refine Obls.cons ?_ ?_
        · intro wD E sD -- 3
          rintro _ rfl
          refine Rg.b2s (M := M) Try.underlying22 Try.underlying5 Try.underlying9 rfl rfl (by assumption) (by repeat (first | exact Le.refl _ _ | refine Le.trans (Step.le (by assumption)) ?_)) ?_
          exact Rg.nil ⟨rfl, rfl, _, rfl, rfl, Step.refl _ _⟩
        refine Obls.cons ?_ ?_
        · intro wD E sD -- 4
          refine Rg.move rfl rfl ?_
          exact Rg.nil ⟨rfl, rfl, _, rfl, rfl, Step.refl _ _⟩
        refine Obls.cons ?_ ?_
        · intro wD E sD -- 5
          rintro _ rfl
          refine Rg.call rfl rfl E14 (rPut_spec (M := M) (sD.lt hMw) hrm) (fun v w2 h2 => ?_)
          exact Rg.nil ⟨rfl, rfl, _, rfl, h2.2, h2.1⟩
        refine Obls.cons ?_ ?_
        · intro wD E sD -- 6
          intro v5 hv5
          refine Rg.b2s (M := M) Try.underlying22 Try.underlying5 Try.underlying9 rfl rfl (by assumption) (by repeat (first | exact Le.refl _ _ | refine Le.trans (Step.le (by assumption)) ?_)) ?_
          exact Rg.nil ⟨rfl, rfl, _, rfl, rfl, Step.refl _ _⟩
        refine Obls.cons ?_ ?_
        · intro wD E sD -- 7
          rintro _ rfl
          rintro _ rfl
          refine Rg.cat rfl rfl rfl (by first | omega | (simp; omega)) ?_
          exact Rg.nil ⟨rfl, rfl, _, rfl, rfl, Step.refl _ _⟩
        refine Obls.cons ?_ ?_
        · intro wD E sD -- 8
          rintro _ rfl
          rintro _ rfl
          refine Rg.strne rfl rfl rfl ?_
          exact Rg.nil ⟨rfl, rfl, _, rfl, rfl, Step.refl _ _⟩
        refine Obls.cons ?_ ?_
        · intro wD E sD -- 9
          rintro _ rfl
          intro v5 hv5
          refine Rg.move rfl rfl ?_
          refine Rg.nil ⟨rfl, rfl, _, rfl, ?_, Step.refl _ _⟩
          exact congrArg Value.bool (decide_eq_false g5_9)
        refine Obls.cons ?_ ?_
        · intro wD E sD -- 10
          rintro _ rfl
          refine Rg.gyes rfl rfl ?_
          refine Rg.move rfl rfl ?_
          exact Rg.nil ⟨rfl, rfl, _, rfl, rfl, Step.refl _ _⟩
        refine Obls.cons ?_ ?_
        · intro wD E sD -- 11
          rintro _ rfl
          rintro _ rfl
          rintro _ rfl
          refine Rg.gyes rfl rfl ?_
          refine Rg.call rfl rfl E15 (Size_spec (M := M) (sD.lt hMw) hrm) (fun v w2 h2 => ?_)
          obtain ⟨rfl, s2⟩ := h2
          exact Rg.nil ⟨rfl, rfl, _, rfl, rfl, s2⟩
        refine Obls.cons ?_ ?_
        · intro wD E sD -- 12
          rintro _ rfl
          refine Rg.gyes rfl rfl ?_
          refine Rg.move rfl rfl ?_
          exact Rg.nil ⟨rfl, rfl, _, rfl, rfl, Step.refl _ _⟩
        refine Obls.cons ?_ ?_
        · intro wD E sD -- 13
          rintro _ rfl
          rintro _ rfl
          refine Rg.gyes rfl rfl ?_
          first | refine Rg.lensl Try.underlying22 rfl (by assumption) rfl ?_ | refine Rg.lenown Try.underlying22 rfl (by assumption) rfl ?_
          exact Rg.nil ⟨rfl, rfl, _, rfl, rfl, Step.refl _ _⟩
        refine Obls.cons ?_ ?_
        · intro wD E sD -- 14
          rintro _ rfl
          refine Rg.gyes rfl rfl ?_
          refine Rg.move rfl rfl ?_
          exact Rg.nil ⟨rfl, rfl, _, rfl, rfl, Step.refl _ _⟩
        refine Obls.cons ?_ ?_
        · intro wD E sD -- 15
          rintro _ rfl
          rintro _ rfl
          refine Rg.gyes rfl rfl ?_
          first | refine Rg.lensl Try.underlying22 rfl (by assumption) rfl ?_ | refine Rg.lenown Try.underlying22 rfl (by assumption) rfl ?_
          exact Rg.nil ⟨rfl, rfl, _, rfl, rfl, Step.refl _ _⟩
        refine Obls.cons ?_ ?_
        · intro wD E sD -- 16
          rintro _ rfl
          rintro _ rfl
          rintro _ rfl
          refine Rg.gyes rfl rfl ?_
          refine Rg.isub rfl rfl rfl (by omega) ?_
          exact Rg.nil ⟨rfl, rfl, _, rfl, rfl, Step.refl _ _⟩
        refine Obls.cons ?_ ?_
        · intro wD E sD -- 17
          rintro _ rfl
          rintro _ rfl
          rintro _ rfl
          refine Rg.gyes rfl rfl ?_
          refine Rg.ine rfl rfl rfl ?_
          exact Rg.nil ⟨rfl, rfl, _, rfl, rfl, Step.refl _ _⟩
        refine Obls.cons ?_ ?_
        · intro wD E sD -- 18
          rintro _ rfl
          rintro _ rfl
          refine Rg.pickf rfl rfl rfl ?_
          exact Rg.nil ⟨rfl, rfl, _, rfl, rfl, Step.refl _ _⟩
        exact Obls.nil
      · -- behind it
        intro wD5 sD5
        rintro _ rfl
        rintro _ rfl
        rintro _ rfl
        rintro _ rfl
        rintro _ rfl
        intro v5_5 hv5_5
        rintro _ rfl
        rintro _ rfl
        rintro _ rfl
        rintro _ rfl
        rintro _ rfl
        rintro _ rfl
        rintro _ rfl
        rintro _ rfl
        rintro _ rfl
        rintro _ rfl
        rintro _ rfl
        rintro _ rfl
        rintro _ rfl
        replace ho1 := ho1.step0 (sD5.any M1)
        replace s1 := s1.trans0 (sD5.any M1)
        refine T.iffp rfl ((by omega)) ?_
        refine T.skip ?_
        refine T.seq ?_
        refine T.region ?_ -- region 7
        refine Rg.move rfl rfl ?_
        refine Rg.move rfl rfl ?_
        refine Rg.call rfl rfl E9 (few_spec (M := M1) (hc.le s1.le)) (fun u7 w7 h7 => ?_)
        obtain ⟨hu7, rfl⟩ := h7
        have hcl : (c.take 60).length ≤ 60 := (by rw [List.length_take]; omega)
        generalize c.take 60 = c1 at hu7 hcl
        refine Rg.append (M := M1) (base := w0.heap.size) Try.underlying22 I5 rfl rfl rfl rfl ho1 hu7 (Le.refl _ _) (by omega) (by omega) s1.size (fun v3 M3 w3 ho3 s3 => ?_)
        have S3 := s1.transBlk s3 ho1 (Nat.le_refl _)
        have hv3 : (RT.u8.sl).V M w3 (b1 ++ put m ++ c1) v3 := Own.close hM S3 ho3 (by simp only [List.length_append]; omega)
        refine Rg.move rfl rfl ?_
        first | refine Rg.lensl Try.underlying22 rfl (by assumption) rfl ?_ | refine Rg.lenown Try.underlying22 rfl (by assumption) rfl ?_
        refine Rg.call rfl rfl E10 (Get_spec hv3 (by omega)) (fun r8 w8 h8 => ?_)
        obtain ⟨h8, rfl⟩ := h8
        rw [get_put b1 c1 hrm] at h8
        subst h8
        refine Rg.move rfl rfl ?_
        refine Rg.extract rfl rfl rfl ?_
        refine Rg.extract rfl rfl rfl ?_
        refine Rg.extract rfl rfl rfl ?_
        refine Rg.assign rfl rfl ?_
        refine Rg.assign rfl rfl ?_
        refine Rg.assign rfl rfl ?_
        refine Rg.nil ?_
        refine T.seq ?_
        refine T.region ?_ -- region 8
        refine Rg.move rfl rfl ?_
        refine Rg.move rfl rfl ?_
        refine Rg.ieq rfl rfl rfl ?_
        refine Rg.move rfl rfl ?_
        refine Rg.gtrue (g := 54) rfl (rfl) ?_
        refine Rg.gyes rfl rfl ?_
        refine Rg.move rfl rfl ?_
        refine Rg.gyes rfl rfl ?_
        refine Rg.move rfl rfl ?_
        refine Rg.gyes rfl rfl ?_
        first | refine Rg.lensl Try.underlying22 rfl (by assumption) rfl ?_ | refine Rg.lenown Try.underlying22 rfl (by assumption) rfl ?_
        refine Rg.gyes rfl rfl ?_
        refine Rg.ieq rfl rfl rfl ?_
        refine Rg.pickt rfl rfl rfl ?_
        refine Rg.move rfl rfl ?_
        refine Rg.gtrue (g := 60) rfl ((by rw [hl7])) ?_
        refine Rg.gyes rfl rfl ?_
        refine Rg.move rfl rfl ?_
        refine Rg.gyes rfl rfl ?_
        refine Rg.ieq rfl rfl rfl ?_
        refine Rg.pickt rfl rfl rfl ?_
        refine Rg.move rfl rfl ?_
        refine Rg.gtrue (g := 64) rfl (rfl) ?_
        refine Rg.gyes rfl rfl ?_
        refine Rg.call rfl rfl E12 (lives_spec (M := M) (S3.back.lt hM)) (fun rL wL hL => ?_)
        obtain ⟨rfl, sL⟩ := hL
        refine Rg.pickt rfl rfl rfl ?_
        refine Rg.assign rfl rfl ?_
        refine Rg.nil ?_
        refine T.ret ?_
        exact Kret1 rfl rfl ⟨rfl, S3.back.trans0 sL⟩
  · -- c1 False
    obtain ⟨m, rfl⟩ : ∃ k : Nat, n = k := ⟨_, (Int.toNat_of_nonneg (by omega)).symm⟩
    have hrm : m ≤ 9223372036854775807 := by omega
    refine T.skip ?_
    refine T.seq ?_
    refine T.region ?_ -- region 3
    refine Rg.move rfl rfl ?_
    refine Rg.call rfl rfl E9 (few_spec (M := M) (hv)) (fun u3 w3 h3 => ?_)
    obtain ⟨hu3, rfl⟩ := h3
    have hbl : (b.take 60).length ≤ 60 := (by rw [List.length_take]; omega)
    generalize b.take 60 = b1 at hu3 hbl
    refine Rg.assign rfl rfl ?_
    refine Rg.nil ?_
    refine T.seq ?_
    refine T.region ?_ -- region 4
    refine Rg.move rfl rfl ?_
    refine Rg.move rfl rfl ?_
    refine Rg.call rfl rfl E13 (Put_own (M := M) hM hu3 (by omega) hrm) (fun v7 w4 h4 => ?_)
    obtain ⟨M1, s1, ho1⟩ := h4
    have h9 := put_len9 hrm
    have hl7 : (b1 ++ put m).length = b1.length + (put m).length := List.length_append
    have hv7 : (RT.u8.sl).V M w4 (b1 ++ put m) v7 := Own.close hM s1 ho1 (by omega)
    have hMw : Lt M w4 := s1.back.lt hM
    replace hu3 := hu3.le s1.back.le
    refine Rg.assign rfl rfl ?_
    refine Rg.nil ?_
    refine T.seq ?_
    refine T.seq ?_
    by_cases g5_9 : b1 ++ put m ≠ b1 ++ put m
    · -- g5_9 True
      exact absurd rfl g5_9
    · -- g5_9 False
      apply T.draw (M := M) mixed [Asr.eq _, Asr.eq _, Asr.eq _, Asr.eq _, Asr.eq _, Asr.V (RT.u8.sl) (put m), Asr.eq _, Asr.eq _, Asr.eq _, Asr.eq (.bool false), Asr.eq _, Asr.eq _, Asr.eq _, Asr.eq _, Asr.eq _, Asr.eq _, Asr.eq _, Asr.eq _, Asr.eq _] -- region 5
      · rfl
      · -- its operations
        refine Obls.cons ?_ ?_
        · intro wD E sD -- 0
          refine Rg.move rfl rfl ?_
          exact Rg.nil ⟨rfl, rfl, _, rfl, rfl, Step.refl _ _⟩
        refine Obls.cons ?_ ?_
        · intro wD E sD -- 1
          rintro _ rfl
          refine Rg.b2s (M := M) Try.underlying22 Try.underlying5 Try.underlying9 rfl rfl (by assumption) (by repeat (first | exact Le.refl _ _ | refine Le.trans (Step.le (by assumption)) ?_)) ?_
          exact Rg.nil ⟨rfl, rfl, _, rfl, rfl, Step.refl _ _⟩
        refine Obls.cons ?_ ?_
        · intro wD E sD -- 2
          refine Rg.move rfl rfl ?_
          exact Rg.nil ⟨rfl, rfl, _, rfl, rfl, Step.refl _ _⟩
        refine Obls.cons ?_ ?_
        · intro wD E sD -- 3
          rintro _ rfl
          refine Rg.b2s (M := M) Try.underlying22 Try.underlying5 Try.underlying9 rfl rfl (by assumption) (by repeat (first | exact Le.refl _ _ | refine Le.trans (Step.le (by assumption)) ?_)) ?_
          exact Rg.nil ⟨rfl, rfl, _, rfl, rfl, Step.refl _ _⟩
        refine Obls.cons ?_ ?_
        · intro wD E sD -- 4
          refine Rg.move rfl rfl ?_
          exact Rg.nil ⟨rfl, rfl, _, rfl, rfl, Step.refl _ _⟩
        refine Obls.cons ?_ ?_
        · intro wD E sD -- 5
          rintro _ rfl
          refine Rg.call rfl rfl E14 (rPut_spec (M := M) (sD.lt hMw) hrm) (fun v w2 h2 => ?_)
          exact Rg.nil ⟨rfl, rfl, _, rfl, h2.2, h2.1⟩
        refine Obls.cons ?_ ?_
        · intro wD E sD -- 6
          intro v5 hv5
          refine Rg.b2s (M := M) Try.underlying22 Try.underlying5 Try.underlying9 rfl rfl (by assumption) (by repeat (first | exact Le.refl _ _ | refine Le.trans (Step.le (by assumption)) ?_)) ?_
          exact Rg.nil ⟨rfl, rfl, _, rfl, rfl, Step.refl _ _⟩
        refine Obls.cons ?_ ?_
        · intro wD E sD -- 7
          rintro _ rfl
          rintro _ rfl
          refine Rg.cat rfl rfl rfl (by first | omega | (simp; omega)) ?_
          exact Rg.nil ⟨rfl, rfl, _, rfl, rfl, Step.refl _ _⟩
        refine Obls.cons ?_ ?_
        · intro wD E sD -- 8
          rintro _ rfl
          rintro _ rfl
          refine Rg.strne rfl rfl rfl ?_
          exact Rg.nil ⟨rfl, rfl, _, rfl, rfl, Step.refl _ _⟩
        refine Obls.cons ?_ ?_
        · intro wD E sD -- 9
          rintro _ rfl
          intro v5 hv5
          refine Rg.move rfl rfl ?_
          refine Rg.nil ⟨rfl, rfl, _, rfl, ?_, Step.refl _ _⟩
          exact congrArg Value.bool (decide_eq_false g5_9)
        refine Obls.cons ?_ ?_
        · intro wD E sD -- 10
          rintro _ rfl
          refine Rg.gyes rfl rfl ?_
          refine Rg.move rfl rfl ?_
          exact Rg.nil ⟨rfl, rfl, _, rfl, rfl, Step.refl _ _⟩
        refine Obls.cons ?_ ?_
        · intro wD E sD -- 11
          rintro _ rfl
          rintro _ rfl
          rintro _ rfl
          refine Rg.gyes rfl rfl ?_
          refine Rg.call rfl rfl E15 (Size_spec (M := M) (sD.lt hMw) hrm) (fun v w2 h2 => ?_)
          obtain ⟨rfl, s2⟩ := h2
          exact Rg.nil ⟨rfl, rfl, _, rfl, rfl, s2⟩
        refine Obls.cons ?_ ?_
        · intro wD E sD -- 12
          rintro _ rfl
          refine Rg.gyes rfl rfl ?_
          refine Rg.move rfl rfl ?_
          exact Rg.nil ⟨rfl, rfl, _, rfl, rfl, Step.refl _ _⟩
        refine Obls.cons ?_ ?_
        · intro wD E sD -- 13
          rintro _ rfl
          rintro _ rfl
          refine Rg.gyes rfl rfl ?_
          first | refine Rg.lensl Try.underlying22 rfl (by assumption) rfl ?_ | refine Rg.lenown Try.underlying22 rfl (by assumption) rfl ?_
          exact Rg.nil ⟨rfl, rfl, _, rfl, rfl, Step.refl _ _⟩
        refine Obls.cons ?_ ?_
        · intro wD E sD -- 14
          rintro _ rfl
          refine Rg.gyes rfl rfl ?_
          refine Rg.move rfl rfl ?_
          exact Rg.nil ⟨rfl, rfl, _, rfl, rfl, Step.refl _ _⟩
        refine Obls.cons ?_ ?_
        · intro wD E sD -- 15
          rintro _ rfl
          rintro _ rfl
          refine Rg.gyes rfl rfl ?_
          first | refine Rg.lensl Try.underlying22 rfl (by assumption) rfl ?_ | refine Rg.lenown Try.underlying22 rfl (by assumption) rfl ?_
          exact Rg.nil ⟨rfl, rfl, _, rfl, rfl, Step.refl _ _⟩
        refine Obls.cons ?_ ?_
        · intro wD E sD -- 16
          rintro _ rfl
          rintro _ rfl
          rintro _ rfl
          refine Rg.gyes rfl rfl ?_
          refine Rg.isub rfl rfl rfl (by omega) ?_
          exact Rg.nil ⟨rfl, rfl, _, rfl, rfl, Step.refl _ _⟩
        refine Obls.cons ?_ ?_
        · intro wD E sD -- 17
          rintro _ rfl
          rintro _ rfl
          rintro _ rfl
          refine Rg.gyes rfl rfl ?_
          refine Rg.ine rfl rfl rfl ?_
          exact Rg.nil ⟨rfl, rfl, _, rfl, rfl, Step.refl _ _⟩
        refine Obls.cons ?_ ?_
        · intro wD E sD -- 18
          rintro _ rfl
          rintro _ rfl
          refine Rg.pickf rfl rfl rfl ?_
          exact Rg.nil ⟨rfl, rfl, _, rfl, rfl, Step.refl _ _⟩
        exact Obls.nil
      · -- behind it
        intro wD5 sD5
        rintro _ rfl
        rintro _ rfl
        rintro _ rfl
        rintro _ rfl
        rintro _ rfl
        intro v5_5 hv5_5
        rintro _ rfl
        rintro _ rfl
        rintro _ rfl
        rintro _ rfl
        rintro _ rfl
        rintro _ rfl
        rintro _ rfl
        rintro _ rfl
        rintro _ rfl
        rintro _ rfl
        rintro _ rfl
        rintro _ rfl
        rintro _ rfl
        replace ho1 := ho1.step0 (sD5.any M1)
        replace s1 := s1.trans0 (sD5.any M1)
        refine T.iffp rfl ((by omega)) ?_
        refine T.skip ?_
        refine T.seq ?_
        refine T.region ?_ -- region 7
        refine Rg.move rfl rfl ?_
        refine Rg.move rfl rfl ?_
        refine Rg.call rfl rfl E9 (few_spec (M := M1) (hc.le s1.le)) (fun u7 w7 h7 => ?_)
        obtain ⟨hu7, rfl⟩ := h7
        have hcl : (c.take 60).length ≤ 60 := (by rw [List.length_take]; omega)
        generalize c.take 60 = c1 at hu7 hcl
        refine Rg.append (M := M1) (base := w0.heap.size) Try.underlying22 I5 rfl rfl rfl rfl ho1 hu7 (Le.refl _ _) (by omega) (by omega) s1.size (fun v3 M3 w3 ho3 s3 => ?_)
        have S3 := s1.transBlk s3 ho1 (Nat.le_refl _)
        have hv3 : (RT.u8.sl).V M w3 (b1 ++ put m ++ c1) v3 := Own.close hM S3 ho3 (by simp only [List.length_append]; omega)
        refine Rg.move rfl rfl ?_
        first | refine Rg.lensl Try.underlying22 rfl (by assumption) rfl ?_ | refine Rg.lenown Try.underlying22 rfl (by assumption) rfl ?_
        refine Rg.call rfl rfl E10 (Get_spec hv3 (by omega)) (fun r8 w8 h8 => ?_)
        obtain ⟨h8, rfl⟩ := h8
        rw [get_put b1 c1 hrm] at h8
        subst h8
        refine Rg.move rfl rfl ?_
        refine Rg.extract rfl rfl rfl ?_
        refine Rg.extract rfl rfl rfl ?_
        refine Rg.extract rfl rfl rfl ?_
        refine Rg.assign rfl rfl ?_
        refine Rg.assign rfl rfl ?_
        refine Rg.assign rfl rfl ?_
        refine Rg.nil ?_
        refine T.seq ?_
        refine T.region ?_ -- region 8
        refine Rg.move rfl rfl ?_
        refine Rg.move rfl rfl ?_
        refine Rg.ieq rfl rfl rfl ?_
        refine Rg.move rfl rfl ?_
        refine Rg.gtrue (g := 54) rfl (rfl) ?_
        refine Rg.gyes rfl rfl ?_
        refine Rg.move rfl rfl ?_
        refine Rg.gyes rfl rfl ?_
        refine Rg.move rfl rfl ?_
        refine Rg.gyes rfl rfl ?_
        first | refine Rg.lensl Try.underlying22 rfl (by assumption) rfl ?_ | refine Rg.lenown Try.underlying22 rfl (by assumption) rfl ?_
        refine Rg.gyes rfl rfl ?_
        refine Rg.ieq rfl rfl rfl ?_
        refine Rg.pickt rfl rfl rfl ?_
        refine Rg.move rfl rfl ?_
        refine Rg.gtrue (g := 60) rfl ((by rw [hl7])) ?_
        refine Rg.gyes rfl rfl ?_
        refine Rg.move rfl rfl ?_
        refine Rg.gyes rfl rfl ?_
        refine Rg.ieq rfl rfl rfl ?_
        refine Rg.pickt rfl rfl rfl ?_
        refine Rg.move rfl rfl ?_
        refine Rg.gtrue (g := 64) rfl (rfl) ?_
        refine Rg.gyes rfl rfl ?_
        refine Rg.call rfl rfl E12 (lives_spec (M := M) (S3.back.lt hM)) (fun rL wL hL => ?_)
        obtain ⟨rfl, sL⟩ := hL
        refine Rg.pickt rfl rfl rfl ?_
        refine Rg.assign rfl rfl ?_
        refine Rg.nil ?_
        refine T.ret ?_
        exact Kret1 rfl rfl ⟨rfl, S3.back.trans0 sL⟩

/-- 'concordance/concordancelaw04.VintShort' -/
theorem VintShort_spec {M : PSet} {w0 : World} {n n2 n3 : Int} (hM : Lt M w0) (hn : -9223372036854775808 ≤ n ∧ n ≤ 9223372036854775807) (hn2 : -9223372036854775808 ≤ n2 ∧ n2 ≤ 9223372036854775807) (hn3 : -9223372036854775808 ≤ n3 ∧ n3 ≤ 9223372036854775807) :
    Spec Try.prog 5 #[.int .i64 n, .int .i64 n2, .int .i64 n3] w0 (fun v' w' => v' = .bool true ∧ Step M w0 M w' none') := by
  refine spec_of (args := [.int .i64 n, .int .i64 n2, .int .i64 n3]) (fn := Try.f5) Try.func5 rfl (n := 59) Try.ntmps5 ?_
  refine T.seq ?_
  refine T.region ?_ -- region 0
  refine Rg.assign rfl rfl ?_
  refine Rg.nil ?_
  refine T.seq ?_
  refine T.seq ?_
  refine T.region ?_ -- region 1
  refine Rg.move rfl rfl ?_
  refine Rg.ilt rfl rfl rfl ?_
  refine Rg.nil ?_
  refine T.ifp rfl (fun c1 => ?_) (fun c1 => ?_)
  · -- c1 True
    refine T.region ?_ -- region 2
    refine Rg.move rfl rfl ?_
    refine Rg.iadd rfl rfl rfl (by omega) ?_
    refine Rg.neg rfl rfl (by omega) ?_
    obtain ⟨m, hm⟩ : ∃ m : Nat, (m : Int) = -(n + 1) := ⟨_, Int.toNat_of_nonneg (by omega)⟩
    refine Rg.eqv (v' := .int .i64 (m : Int)) (by rw [hm]) ?_
    have hrm : m ≤ 9223372036854775807 := by omega
    refine Rg.assign rfl rfl ?_
    refine Rg.nil ?_
    refine T.seq ?_
    refine T.seq ?_
    refine T.region ?_ -- region 3
    refine Rg.move rfl rfl ?_
    refine Rg.ilt rfl rfl rfl ?_
    refine Rg.nil ?_
    refine T.ifp rfl (fun c3 => ?_) (fun c3 => ?_)
    · -- c3 True
      refine T.region ?_ -- region 4
      refine Rg.move rfl rfl ?_
      refine Rg.iadd rfl rfl rfl (by omega) ?_
      refine Rg.neg rfl rfl (by omega) ?_
      obtain ⟨k, hk⟩ : ∃ k : Nat, (k : Int) = -(n2 + 1) := ⟨_, Int.toNat_of_nonneg (by omega)⟩
      refine Rg.eqv (v' := .int .i64 (k : Int)) (by rw [hk]) ?_
      have hrk : k ≤ 9223372036854775807 := by omega
      refine Rg.assign rfl rfl ?_
      refine Rg.nil ?_
      refine T.seq ?_
      refine T.seq ?_
      refine T.region ?_ -- region 5
      refine Rg.move rfl rfl ?_
      refine Rg.ilt rfl rfl rfl ?_
      refine Rg.nil ?_
      refine T.ifp rfl (fun c5 => ?_) (fun c5 => ?_)
      · -- c5 True
        refine T.region ?_ -- region 6
        refine Rg.move rfl rfl ?_
        refine Rg.iadd rfl rfl rfl (by omega) ?_
        refine Rg.neg rfl rfl (by omega) ?_
        obtain ⟨c, hc⟩ : ∃ c : Nat, (c : Int) = -(n3 + 1) := ⟨_, Int.toNat_of_nonneg (by omega)⟩
        refine Rg.eqv (v' := .int .i64 (c : Int)) (by rw [hc]) ?_
        have hrc : c ≤ 9223372036854775807 := by omega
        refine Rg.assign rfl rfl ?_
        refine Rg.nil ?_
        refine T.seq ?_
        refine T.region ?_ -- region 7
        refine Rg.move rfl rfl ?_
        refine Rg.call rfl rfl E13 (Put_spec (M := M) (b := []) hM V_nil (by simp) hrm) (fun u7 w7 h7 => ?_)
        obtain ⟨s7, hu7⟩ := h7
        rw [List.nil_append] at hu7
        have hp := put_pos m
        have h9 := put_len9 hrm
        refine Rg.assign rfl rfl ?_
        refine Rg.nil ?_
        refine T.seq ?_
        refine T.seq ?_
        refine T.region ?_ -- region 8
        refine Rg.move rfl rfl ?_
        first | refine Rg.lensl Try.underlying22 rfl (by assumption) rfl ?_ | refine Rg.lenown Try.underlying22 rfl (by assumption) rfl ?_
        refine Rg.ieq rfl rfl rfl ?_
        refine Rg.nil ?_
        refine T.iffp rfl ((by omega)) ?_
        refine T.skip ?_
        refine T.seq ?_
        refine T.region ?_ -- region 10
        refine Rg.move rfl rfl ?_
        refine Rg.move rfl rfl ?_
        refine Rg.move rfl rfl ?_
        first | refine Rg.lensl Try.underlying22 rfl (by assumption) rfl ?_ | refine Rg.lenown Try.underlying22 rfl (by assumption) rfl ?_
        refine Rg.imod rfl rfl rfl (by omega) ?_
        obtain ⟨j, hj, hjl⟩ : ∃ j : Nat, ((c : Int) % ((put m).length : Int)) = j ∧ j < (put m).length := ⟨c % (put m).length, by simp, Nat.mod_lt _ hp⟩
        refine Rg.eqv (congrArg _ hj) ?_
        refine Rg.slice_h Try.underlying22 I5 rfl rfl rfl (by assumption) (by omega) (fun u10_5 hu10_5 => ?_)
        rw [Int.toNat_natCast] at hu10_5
        refine Rg.call rfl rfl E10 (Get_spec hu10_5 (by omega)) (fun r8 w8 h8 => ?_)
        obtain ⟨h8, rfl⟩ := h8
        rw [get_short hjl] at h8
        subst h8
        refine Rg.move rfl rfl ?_
        refine Rg.extract rfl rfl rfl ?_
        refine Rg.extract rfl rfl rfl ?_
        refine Rg.extract rfl rfl rfl ?_
        refine Rg.assign rfl rfl ?_
        refine Rg.assign rfl rfl ?_
        refine Rg.assign rfl rfl ?_
        refine Rg.nil ?_
        refine T.seq ?_
        refine T.region ?_ -- region 11
        refine Rg.move rfl rfl ?_
        refine Rg.ieq rfl rfl rfl ?_
        refine Rg.move rfl rfl ?_
        refine Rg.gtrue (g := 44) rfl (rfl) ?_
        refine Rg.gyes rfl rfl ?_
        refine Rg.move rfl rfl ?_
        refine Rg.gyes rfl rfl ?_
        refine Rg.move rfl rfl ?_
        refine Rg.gyes rfl rfl ?_
        refine Rg.igt rfl rfl rfl ?_
        refine Rg.gyes rfl rfl ?_
        refine Rg.move rfl rfl ?_
        refine Rg.gsplitp (g := 48) rfl (fun g11_6 => ?_) (fun g11_6 => ?_)
        · -- g11_6 True
          refine Rg.gno rfl rfl rfl rfl ?_
          refine Rg.gno rfl rfl rfl rfl ?_
          refine Rg.gno rfl rfl rfl rfl ?_
          refine Rg.gno rfl rfl rfl rfl ?_
          refine Rg.gno rfl rfl rfl rfl ?_
          refine Rg.gyes rfl rfl ?_
          refine Rg.pickt rfl rfl rfl ?_
          refine Rg.pickt rfl rfl rfl ?_
          refine Rg.move rfl rfl ?_
          refine Rg.gyes rfl rfl ?_
          refine Rg.call rfl rfl E12 (lives_spec (M := M) (s7.lt hM)) (fun rL wL hL => ?_)
          obtain ⟨rfl, sL⟩ := hL
          refine Rg.pickt rfl rfl rfl ?_
          refine Rg.assign rfl rfl ?_
          refine Rg.nil ?_
          refine T.ret ?_
          exact Kret1 rfl rfl ⟨rfl, s7.trans0 sL⟩
        · -- g11_6 False
          refine Rg.gyes rfl rfl ?_
          refine Rg.move rfl rfl ?_
          refine Rg.gyes rfl rfl ?_
          refine Rg.call rfl rfl E15 (Size_spec (M := M) (s7.lt hM) hrm) (fun r9 w9 h9 => ?_)
          obtain ⟨rfl, s9⟩ := h9
          refine Rg.gyes rfl rfl ?_
          refine Rg.move rfl rfl ?_
          refine Rg.gyes rfl rfl ?_
          refine Rg.call rfl rfl E15 (Size_spec (M := M) (s9.lt (s7.lt hM)) hrk) (fun r10 w10 h10 => ?_)
          obtain ⟨rfl, s10⟩ := h10
          replace s7 := (s7.trans0 s9).trans0 s10
          refine Rg.gyes rfl rfl ?_
          refine Rg.ile rfl rfl rfl ?_
          refine Rg.gyes rfl rfl ?_
          refine Rg.pickf rfl rfl rfl ?_
          refine Rg.pickt rfl rfl rfl ?_
          refine Rg.move rfl rfl ?_
          refine Rg.gtrue (g := 56) rfl ((by have := put_mono (show m ≤ k by omega); omega)) ?_
          refine Rg.gyes rfl rfl ?_
          refine Rg.call rfl rfl E12 (lives_spec (M := M) (s7.lt hM)) (fun rL wL hL => ?_)
          obtain ⟨rfl, sL⟩ := hL
          refine Rg.pickt rfl rfl rfl ?_
          refine Rg.assign rfl rfl ?_
          refine Rg.nil ?_
          refine T.ret ?_
          exact Kret1 rfl rfl ⟨rfl, s7.trans0 sL⟩
      · -- c5 False
        obtain ⟨c, rfl⟩ : ∃ k : Nat, n3 = k := ⟨_, (Int.toNat_of_nonneg (by omega)).symm⟩
        have hrc : c ≤ 9223372036854775807 := by omega
        refine T.skip ?_
        refine T.seq ?_
        refine T.region ?_ -- region 7
        refine Rg.move rfl rfl ?_
        refine Rg.call rfl rfl E13 (Put_spec (M := M) (b := []) hM V_nil (by simp) hrm) (fun u7 w7 h7 => ?_)
        obtain ⟨s7, hu7⟩ := h7
        rw [List.nil_append] at hu7
        have hp := put_pos m
        have h9 := put_len9 hrm
        refine Rg.assign rfl rfl ?_
        refine Rg.nil ?_
        refine T.seq ?_
        refine T.seq ?_
        refine T.region ?_ -- region 8
        refine Rg.move rfl rfl ?_
        first | refine Rg.lensl Try.underlying22 rfl (by assumption) rfl ?_ | refine Rg.lenown Try.underlying22 rfl (by assumption) rfl ?_
        refine Rg.ieq rfl rfl rfl ?_
        refine Rg.nil ?_
        refine T.iffp rfl ((by omega)) ?_
        refine T.skip ?_
        refine T.seq ?_
        refine T.region ?_ -- region 10
        refine Rg.move rfl rfl ?_
        refine Rg.move rfl rfl ?_
        refine Rg.move rfl rfl ?_
        first | refine Rg.lensl Try.underlying22 rfl (by assumption) rfl ?_ | refine Rg.lenown Try.underlying22 rfl (by assumption) rfl ?_
        refine Rg.imod rfl rfl rfl (by omega) ?_
        obtain ⟨j, hj, hjl⟩ : ∃ j : Nat, ((c : Int) % ((put m).length : Int)) = j ∧ j < (put m).length := ⟨c % (put m).length, by simp, Nat.mod_lt _ hp⟩
        refine Rg.eqv (congrArg _ hj) ?_
        refine Rg.slice_h Try.underlying22 I5 rfl rfl rfl (by assumption) (by omega) (fun u10_5 hu10_5 => ?_)
        rw [Int.toNat_natCast] at hu10_5
        refine Rg.call rfl rfl E10 (Get_spec hu10_5 (by omega)) (fun r8 w8 h8 => ?_)
        obtain ⟨h8, rfl⟩ := h8
        rw [get_short hjl] at h8
        subst h8
        refine Rg.move rfl rfl ?_
        refine Rg.extract rfl rfl rfl ?_
        refine Rg.extract rfl rfl rfl ?_
        refine Rg.extract rfl rfl rfl ?_
        refine Rg.assign rfl rfl ?_
        refine Rg.assign rfl rfl ?_
        refine Rg.assign rfl rfl ?_
        refine Rg.nil ?_
        refine T.seq ?_
        refine T.region ?_ -- region 11
        refine Rg.move rfl rfl ?_
        refine Rg.ieq rfl rfl rfl ?_
        refine Rg.move rfl rfl ?_
        refine Rg.gtrue (g := 44) rfl (rfl) ?_
        refine Rg.gyes rfl rfl ?_
        refine Rg.move rfl rfl ?_
        refine Rg.gyes rfl rfl ?_
        refine Rg.move rfl rfl ?_
        refine Rg.gyes rfl rfl ?_
        refine Rg.igt rfl rfl rfl ?_
        refine Rg.gyes rfl rfl ?_
        refine Rg.move rfl rfl ?_
        refine Rg.gsplitp (g := 48) rfl (fun g11_6 => ?_) (fun g11_6 => ?_)
        · -- g11_6 True
          refine Rg.gno rfl rfl rfl rfl ?_
          refine Rg.gno rfl rfl rfl rfl ?_
          refine Rg.gno rfl rfl rfl rfl ?_
          refine Rg.gno rfl rfl rfl rfl ?_
          refine Rg.gno rfl rfl rfl rfl ?_
          refine Rg.gyes rfl rfl ?_
          refine Rg.pickt rfl rfl rfl ?_
          refine Rg.pickt rfl rfl rfl ?_
          refine Rg.move rfl rfl ?_
          refine Rg.gyes rfl rfl ?_
          refine Rg.call rfl rfl E12 (lives_spec (M := M) (s7.lt hM)) (fun rL wL hL => ?_)
          obtain ⟨rfl, sL⟩ := hL
          refine Rg.pickt rfl rfl rfl ?_
          refine Rg.assign rfl rfl ?_
          refine Rg.nil ?_
          refine T.ret ?_
          exact Kret1 rfl rfl ⟨rfl, s7.trans0 sL⟩
        · -- g11_6 False
          refine Rg.gyes rfl rfl ?_
          refine Rg.move rfl rfl ?_
          refine Rg.gyes rfl rfl ?_
          refine Rg.call rfl rfl E15 (Size_spec (M := M) (s7.lt hM) hrm) (fun r9 w9 h9 => ?_)
          obtain ⟨rfl, s9⟩ := h9
          refine Rg.gyes rfl rfl ?_
          refine Rg.move rfl rfl ?_
          refine Rg.gyes rfl rfl ?_
          refine Rg.call rfl rfl E15 (Size_spec (M := M) (s9.lt (s7.lt hM)) hrk) (fun r10 w10 h10 => ?_)
          obtain ⟨rfl, s10⟩ := h10
          replace s7 := (s7.trans0 s9).trans0 s10
          refine Rg.gyes rfl rfl ?_
          refine Rg.ile rfl rfl rfl ?_
          refine Rg.gyes rfl rfl ?_
          refine Rg.pickf rfl rfl rfl ?_
          refine Rg.pickt rfl rfl rfl ?_
          refine Rg.move rfl rfl ?_
          refine Rg.gtrue (g := 56) rfl ((by have := put_mono (show m ≤ k by omega); omega)) ?_
          refine Rg.gyes rfl rfl ?_
          refine Rg.call rfl rfl E12 (lives_spec (M := M) (s7.lt hM)) (fun rL wL hL => ?_)
          obtain ⟨rfl, sL⟩ := hL
          refine Rg.pickt rfl rfl rfl ?_
          refine Rg.assign rfl rfl ?_
          refine Rg.nil ?_
          refine T.ret ?_
          exact Kret1 rfl rfl ⟨rfl, s7.trans0 sL⟩
    · -- c3 False
      obtain ⟨k, rfl⟩ : ∃ k : Nat, n2 = k := ⟨_, (Int.toNat_of_nonneg (by omega)).symm⟩
      have hrk : k ≤ 9223372036854775807 := by omega
      refine T.skip ?_
      refine T.seq ?_
      refine T.seq ?_
      refine T.region ?_ -- region 5
      refine Rg.move rfl rfl ?_
      refine Rg.ilt rfl rfl rfl ?_
      refine Rg.nil ?_
      refine T.ifp rfl (fun c5 => ?_) (fun c5 => ?_)
      · -- c5 True
        refine T.region ?_ -- region 6
        refine Rg.move rfl rfl ?_
        refine Rg.iadd rfl rfl rfl (by omega) ?_
        refine Rg.neg rfl rfl (by omega) ?_
        obtain ⟨c, hc⟩ : ∃ c : Nat, (c : Int) = -(n3 + 1) := ⟨_, Int.toNat_of_nonneg (by omega)⟩
        refine Rg.eqv (v' := .int .i64 (c : Int)) (by rw [hc]) ?_
        have hrc : c ≤ 9223372036854775807 := by omega
        refine Rg.assign rfl rfl ?_
        refine Rg.nil ?_
        refine T.seq ?_
        refine T.region ?_ -- region 7
        refine Rg.move rfl rfl ?_
        refine Rg.call rfl rfl E13 (Put_spec (M := M) (b := []) hM V_nil (by simp) hrm) (fun u7 w7 h7 => ?_)
        obtain ⟨s7, hu7⟩ := h7
        rw [List.nil_append] at hu7
        have hp := put_pos m
        have h9 := put_len9 hrm
        refine Rg.assign rfl rfl ?_
        refine Rg.nil ?_
        refine T.seq ?_
        refine T.seq ?_
        refine T.region ?_ -- region 8
        refine Rg.move rfl rfl ?_
        first | refine Rg.lensl Try.underlying22 rfl (by assumption) rfl ?_ | refine Rg.lenown Try.underlying22 rfl (by assumption) rfl ?_
        refine Rg.ieq rfl rfl rfl ?_
        refine Rg.nil ?_
        refine T.iffp rfl ((by omega)) ?_
        refine T.skip ?_
        refine T.seq ?_
        refine T.region ?_ -- region 10
        refine Rg.move rfl rfl ?_
        refine Rg.move rfl rfl ?_
        refine Rg.move rfl rfl ?_
        first | refine Rg.lensl Try.underlying22 rfl (by assumption) rfl ?_ | refine Rg.lenown Try.underlying22 rfl (by assumption) rfl ?_
        refine Rg.imod rfl rfl rfl (by omega) ?_
        obtain ⟨j, hj, hjl⟩ : ∃ j : Nat, ((c : Int) % ((put m).length : Int)) = j ∧ j < (put m).length := ⟨c % (put m).length, by simp, Nat.mod_lt _ hp⟩
        refine Rg.eqv (congrArg _ hj) ?_
        refine Rg.slice_h Try.underlying22 I5 rfl rfl rfl (by assumption) (by omega) (fun u10_5 hu10_5 => ?_)
        rw [Int.toNat_natCast] at hu10_5
        refine Rg.call rfl rfl E10 (Get_spec hu10_5 (by omega)) (fun r8 w8 h8 => ?_)
        obtain ⟨h8, rfl⟩ := h8
        rw [get_short hjl] at h8
        subst h8
        refine Rg.move rfl rfl ?_
        refine Rg.extract rfl rfl rfl ?_
        refine Rg.extract rfl rfl rfl ?_
        refine Rg.extract rfl rfl rfl ?_
        refine Rg.assign rfl rfl ?_
        refine Rg.assign rfl rfl ?_
        refine Rg.assign rfl rfl ?_
        refine Rg.nil ?_
        refine T.seq ?_
        refine T.region ?_ -- region 11
        refine Rg.move rfl rfl ?_
        refine Rg.ieq rfl rfl rfl ?_
        refine Rg.move rfl rfl ?_
        refine Rg.gtrue (g := 44) rfl (rfl) ?_
        refine Rg.gyes rfl rfl ?_
        refine Rg.move rfl rfl ?_
        refine Rg.gyes rfl rfl ?_
        refine Rg.move rfl rfl ?_
        refine Rg.gyes rfl rfl ?_
        refine Rg.igt rfl rfl rfl ?_
        refine Rg.gyes rfl rfl ?_
        refine Rg.move rfl rfl ?_
        refine Rg.gsplitp (g := 48) rfl (fun g11_6 => ?_) (fun g11_6 => ?_)
        · -- g11_6 True
          refine Rg.gno rfl rfl rfl rfl ?_
          refine Rg.gno rfl rfl rfl rfl ?_
          refine Rg.gno rfl rfl rfl rfl ?_
          refine Rg.gno rfl rfl rfl rfl ?_
          refine Rg.gno rfl rfl rfl rfl ?_
          refine Rg.gyes rfl rfl ?_
          refine Rg.pickt rfl rfl rfl ?_
          refine Rg.pickt rfl rfl rfl ?_
          refine Rg.move rfl rfl ?_
          refine Rg.gyes rfl rfl ?_
          refine Rg.call rfl rfl E12 (lives_spec (M := M) (s7.lt hM)) (fun rL wL hL => ?_)
          obtain ⟨rfl, sL⟩ := hL
          refine Rg.pickt rfl rfl rfl ?_
          refine Rg.assign rfl rfl ?_
          refine Rg.nil ?_
          refine T.ret ?_
          exact Kret1 rfl rfl ⟨rfl, s7.trans0 sL⟩
        · -- g11_6 False
          refine Rg.gyes rfl rfl ?_
          refine Rg.move rfl rfl ?_
          refine Rg.gyes rfl rfl ?_
          refine Rg.call rfl rfl E15 (Size_spec (M := M) (s7.lt hM) hrm) (fun r9 w9 h9 => ?_)
          obtain ⟨rfl, s9⟩ := h9
          refine Rg.gyes rfl rfl ?_
          refine Rg.move rfl rfl ?_
          refine Rg.gyes rfl rfl ?_
          refine Rg.call rfl rfl E15 (Size_spec (M := M) (s9.lt (s7.lt hM)) hrk) (fun r10 w10 h10 => ?_)
          obtain ⟨rfl, s10⟩ := h10
          replace s7 := (s7.trans0 s9).trans0 s10
          refine Rg.gyes rfl rfl ?_
          refine Rg.ile rfl rfl rfl ?_
          refine Rg.gyes rfl rfl ?_
          refine Rg.pickf rfl rfl rfl ?_
          refine Rg.pickt rfl rfl rfl ?_
          refine Rg.move rfl rfl ?_
          refine Rg.gtrue (g := 56) rfl ((by have := put_mono (show m ≤ k by omega); omega)) ?_
          refine Rg.gyes rfl rfl ?_
          refine Rg.call rfl rfl E12 (lives_spec (M := M) (s7.lt hM)) (fun rL wL hL => ?_)
          obtain ⟨rfl, sL⟩ := hL
          refine Rg.pickt rfl rfl rfl ?_
          refine Rg.assign rfl rfl ?_
          refine Rg.nil ?_
          refine T.ret ?_
          exact Kret1 rfl rfl ⟨rfl, s7.trans0 sL⟩
      · -- c5 False
        obtain ⟨c, rfl⟩ : ∃ k : Nat, n3 = k := ⟨_, (Int.toNat_of_nonneg (by omega)).symm⟩
        have hrc : c ≤ 9223372036854775807 := by omega
        refine T.skip ?_
        refine T.seq ?_
        refine T.region ?_ -- region 7
        refine Rg.move rfl rfl ?_
        refine Rg.call rfl rfl E13 (Put_spec (M := M) (b := []) hM V_nil (by simp) hrm) (fun u7 w7 h7 => ?_)
        obtain ⟨s7, hu7⟩ := h7
        rw [List.nil_append] at hu7
        have hp := put_pos m
        have h9 := put_len9 hrm
        refine Rg.assign rfl rfl ?_
        refine Rg.nil ?_
        refine T.seq ?_
        refine T.seq ?_
        refine T.region ?_ -- region 8
        refine Rg.move rfl rfl ?_
        first | refine Rg.lensl Try.underlying22 rfl (by assumption) rfl ?_ | refine Rg.lenown Try.underlying22 rfl (by assumption) rfl ?_
        refine Rg.ieq rfl rfl rfl ?_
        refine Rg.nil ?_
        refine T.iffp rfl ((by omega)) ?_
        refine T.skip ?_
        refine T.seq ?_
        refine T.region ?_ -- region 10
        refine Rg.move rfl rfl ?_
        refine Rg.move rfl rfl ?_
        refine Rg.move rfl rfl ?_
        first | refine Rg.lensl Try.underlying22 rfl (by assumption) rfl ?_ | refine Rg.lenown Try.underlying22 rfl (by assumption) rfl ?_
        refine Rg.imod rfl rfl rfl (by omega) ?_
        obtain ⟨j, hj, hjl⟩ : ∃ j : Nat, ((c : Int) % ((put m).length : Int)) = j ∧ j < (put m).length := ⟨c % (put m).length, by simp, Nat.mod_lt _ hp⟩
        refine Rg.eqv (congrArg _ hj) ?_
        refine Rg.slice_h Try.underlying22 I5 rfl rfl rfl (by assumption) (by omega) (fun u10_5 hu10_5 => ?_)
        rw [Int.toNat_natCast] at hu10_5
        refine Rg.call rfl rfl E10 (Get_spec hu10_5 (by omega)) (fun r8 w8 h8 => ?_)
        obtain ⟨h8, rfl⟩ := h8
        rw [get_short hjl] at h8
        subst h8
        refine Rg.move rfl rfl ?_
        refine Rg.extract rfl rfl rfl ?_
        refine Rg.extract rfl rfl rfl ?_
        refine Rg.extract rfl rfl rfl ?_
        refine Rg.assign rfl rfl ?_
        refine Rg.assign rfl rfl ?_
        refine Rg.assign rfl rfl ?_
        refine Rg.nil ?_
        refine T.seq ?_
        refine T.region ?_ -- region 11
        refine Rg.move rfl rfl ?_
        refine Rg.ieq rfl rfl rfl ?_
        refine Rg.move rfl rfl ?_
        refine Rg.gtrue (g := 44) rfl (rfl) ?_
        refine Rg.gyes rfl rfl ?_
        refine Rg.move rfl rfl ?_
        refine Rg.gyes rfl rfl ?_
        refine Rg.move rfl rfl ?_
        refine Rg.gyes rfl rfl ?_
        refine Rg.igt rfl rfl rfl ?_
        refine Rg.gyes rfl rfl ?_
        refine Rg.move rfl rfl ?_
        refine Rg.gsplitp (g := 48) rfl (fun g11_6 => ?_) (fun g11_6 => ?_)
        · -- g11_6 True
          refine Rg.gno rfl rfl rfl rfl ?_
          refine Rg.gno rfl rfl rfl rfl ?_
          refine Rg.gno rfl rfl rfl rfl ?_
          refine Rg.gno rfl rfl rfl rfl ?_
          refine Rg.gno rfl rfl rfl rfl ?_
          refine Rg.gyes rfl rfl ?_
          refine Rg.pickt rfl rfl rfl ?_
          refine Rg.pickt rfl rfl rfl ?_
          refine Rg.move rfl rfl ?_
          refine Rg.gyes rfl rfl ?_
          refine Rg.call rfl rfl E12 (lives_spec (M := M) (s7.lt hM)) (fun rL wL hL => ?_)
          obtain ⟨rfl, sL⟩ := hL
          refine Rg.pickt rfl rfl rfl ?_
          refine Rg.assign rfl rfl ?_
          refine Rg.nil ?_
          refine T.ret ?_
          exact Kret1 rfl rfl ⟨rfl, s7.trans0 sL⟩
        · -- g11_6 False
          refine Rg.gyes rfl rfl ?_
          refine Rg.move rfl rfl ?_
          refine Rg.gyes rfl rfl ?_
          refine Rg.call rfl rfl E15 (Size_spec (M := M) (s7.lt hM) hrm) (fun r9 w9 h9 => ?_)
          obtain ⟨rfl, s9⟩ := h9
          refine Rg.gyes rfl rfl ?_
          refine Rg.move rfl rfl ?_
          refine Rg.gyes rfl rfl ?_
          refine Rg.call rfl rfl E15 (Size_spec (M := M) (s9.lt (s7.lt hM)) hrk) (fun r10 w10 h10 => ?_)
          obtain ⟨rfl, s10⟩ := h10
          replace s7 := (s7.trans0 s9).trans0 s10
          refine Rg.gyes rfl rfl ?_
          refine Rg.ile rfl rfl rfl ?_
          refine Rg.gyes rfl rfl ?_
          refine Rg.pickf rfl rfl rfl ?_
          refine Rg.pickt rfl rfl rfl ?_
          refine Rg.move rfl rfl ?_
          refine Rg.gtrue (g := 56) rfl ((by have := put_mono (show m ≤ k by omega); omega)) ?_
          refine Rg.gyes rfl rfl ?_
          refine Rg.call rfl rfl E12 (lives_spec (M := M) (s7.lt hM)) (fun rL wL hL => ?_)
          obtain ⟨rfl, sL⟩ := hL
          refine Rg.pickt rfl rfl rfl ?_
          refine Rg.assign rfl rfl ?_
          refine Rg.nil ?_
          refine T.ret ?_
          exact Kret1 rfl rfl ⟨rfl, s7.trans0 sL⟩
  · -- c1 False
    obtain ⟨m, rfl⟩ : ∃ k : Nat, n = k := ⟨_, (Int.toNat_of_nonneg (by omega)).symm⟩
    have hrm : m ≤ 9223372036854775807 := by omega
    refine T.skip ?_
    refine T.seq ?_
    refine T.seq ?_
    refine T.region ?_ -- region 3
    refine Rg.move rfl rfl ?_
    refine Rg.ilt rfl rfl rfl ?_
    refine Rg.nil ?_
    refine T.ifp rfl (fun c3 => ?_) (fun c3 => ?_)
    · -- c3 True
      refine T.region ?_ -- region 4
      refine Rg.move rfl rfl ?_
      refine Rg.iadd rfl rfl rfl (by omega) ?_
      refine Rg.neg rfl rfl (by omega) ?_
      obtain ⟨k, hk⟩ : ∃ k : Nat, (k : Int) = -(n2 + 1) := ⟨_, Int.toNat_of_nonneg (by omega)⟩
      refine Rg.eqv (v' := .int .i64 (k : Int)) (by rw [hk]) ?_
      have hrk : k ≤ 9223372036854775807 := by omega
      refine Rg.assign rfl rfl ?_
      refine Rg.nil ?_
      refine T.seq ?_
      refine T.seq ?_
      refine T.region ?_ -- region 5
      refine Rg.move rfl rfl ?_
      refine Rg.ilt rfl rfl rfl ?_
      refine Rg.nil ?_
      refine T.ifp rfl (fun c5 => ?_) (fun c5 => ?_)
      · -- c5 True
        refine T.region ?_ -- region 6
        refine Rg.move rfl rfl ?_
        refine Rg.iadd rfl rfl rfl (by omega) ?_
        refine Rg.neg rfl rfl (by omega) ?_
        obtain ⟨c, hc⟩ : ∃ c : Nat, (c : Int) = -(n3 + 1) := ⟨_, Int.toNat_of_nonneg (by omega)⟩
        refine Rg.eqv (v' := .int .i64 (c : Int)) (by rw [hc]) ?_
        have hrc : c ≤ 9223372036854775807 := by omega
        refine Rg.assign rfl rfl ?_
        refine Rg.nil ?_
        refine T.seq ?_
        refine T.region ?_ -- region 7
        refine Rg.move rfl rfl ?_
        refine Rg.call rfl rfl E13 (Put_spec (M := M) (b := []) hM V_nil (by simp) hrm) (fun u7 w7 h7 => ?_)
        obtain ⟨s7, hu7⟩ := h7
        rw [List.nil_append] at hu7
        have hp := put_pos m
        have h9 := put_len9 hrm
        refine Rg.assign rfl rfl ?_
        refine Rg.nil ?_
        refine T.seq ?_
        refine T.seq ?_
        refine T.region ?_ -- region 8
        refine Rg.move rfl rfl ?_
        first | refine Rg.lensl Try.underlying22 rfl (by assumption) rfl ?_ | refine Rg.lenown Try.underlying22 rfl (by assumption) rfl ?_
        refine Rg.ieq rfl rfl rfl ?_
        refine Rg.nil ?_
        refine T.iffp rfl ((by omega)) ?_
        refine T.skip ?_
        refine T.seq ?_
        refine T.region ?_ -- region 10
        refine Rg.move rfl rfl ?_
        refine Rg.move rfl rfl ?_
        refine Rg.move rfl rfl ?_
        first | refine Rg.lensl Try.underlying22 rfl (by assumption) rfl ?_ | refine Rg.lenown Try.underlying22 rfl (by assumption) rfl ?_
        refine Rg.imod rfl rfl rfl (by omega) ?_
        obtain ⟨j, hj, hjl⟩ : ∃ j : Nat, ((c : Int) % ((put m).length : Int)) = j ∧ j < (put m).length := ⟨c % (put m).length, by simp, Nat.mod_lt _ hp⟩
        refine Rg.eqv (congrArg _ hj) ?_
        refine Rg.slice_h Try.underlying22 I5 rfl rfl rfl (by assumption) (by omega) (fun u10_5 hu10_5 => ?_)
        rw [Int.toNat_natCast] at hu10_5
        refine Rg.call rfl rfl E10 (Get_spec hu10_5 (by omega)) (fun r8 w8 h8 => ?_)
        obtain ⟨h8, rfl⟩ := h8
        rw [get_short hjl] at h8
        subst h8
        refine Rg.move rfl rfl ?_
        refine Rg.extract rfl rfl rfl ?_
        refine Rg.extract rfl rfl rfl ?_
        refine Rg.extract rfl rfl rfl ?_
        refine Rg.assign rfl rfl ?_
        refine Rg.assign rfl rfl ?_
        refine Rg.assign rfl rfl ?_
        refine Rg.nil ?_
        refine T.seq ?_
        refine T.region ?_ -- region 11
        refine Rg.move rfl rfl ?_
        refine Rg.ieq rfl rfl rfl ?_
        refine Rg.move rfl rfl ?_
        refine Rg.gtrue (g := 44) rfl (rfl) ?_
        refine Rg.gyes rfl rfl ?_
        refine Rg.move rfl rfl ?_
        refine Rg.gyes rfl rfl ?_
        refine Rg.move rfl rfl ?_
        refine Rg.gyes rfl rfl ?_
        refine Rg.igt rfl rfl rfl ?_
        refine Rg.gyes rfl rfl ?_
        refine Rg.move rfl rfl ?_
        refine Rg.gsplitp (g := 48) rfl (fun g11_6 => ?_) (fun g11_6 => ?_)
        · -- g11_6 True
          refine Rg.gno rfl rfl rfl rfl ?_
          refine Rg.gno rfl rfl rfl rfl ?_
          refine Rg.gno rfl rfl rfl rfl ?_
          refine Rg.gno rfl rfl rfl rfl ?_
          refine Rg.gno rfl rfl rfl rfl ?_
          refine Rg.gyes rfl rfl ?_
          refine Rg.pickt rfl rfl rfl ?_
          refine Rg.pickt rfl rfl rfl ?_
          refine Rg.move rfl rfl ?_
          refine Rg.gyes rfl rfl ?_
          refine Rg.call rfl rfl E12 (lives_spec (M := M) (s7.lt hM)) (fun rL wL hL => ?_)
          obtain ⟨rfl, sL⟩ := hL
          refine Rg.pickt rfl rfl rfl ?_
          refine Rg.assign rfl rfl ?_
          refine Rg.nil ?_
          refine T.ret ?_
          exact Kret1 rfl rfl ⟨rfl, s7.trans0 sL⟩
        · -- g11_6 False
          refine Rg.gyes rfl rfl ?_
          refine Rg.move rfl rfl ?_
          refine Rg.gyes rfl rfl ?_
          refine Rg.call rfl rfl E15 (Size_spec (M := M) (s7.lt hM) hrm) (fun r9 w9 h9 => ?_)
          obtain ⟨rfl, s9⟩ := h9
          refine Rg.gyes rfl rfl ?_
          refine Rg.move rfl rfl ?_
          refine Rg.gyes rfl rfl ?_
          refine Rg.call rfl rfl E15 (Size_spec (M := M) (s9.lt (s7.lt hM)) hrk) (fun r10 w10 h10 => ?_)
          obtain ⟨rfl, s10⟩ := h10
          replace s7 := (s7.trans0 s9).trans0 s10
          refine Rg.gyes rfl rfl ?_
          refine Rg.ile rfl rfl rfl ?_
          refine Rg.gyes rfl rfl ?_
          refine Rg.pickf rfl rfl rfl ?_
          refine Rg.pickt rfl rfl rfl ?_
          refine Rg.move rfl rfl ?_
          refine Rg.gtrue (g := 56) rfl ((by have := put_mono (show m ≤ k by omega); omega)) ?_
          refine Rg.gyes rfl rfl ?_
          refine Rg.call rfl rfl E12 (lives_spec (M := M) (s7.lt hM)) (fun rL wL hL => ?_)
          obtain ⟨rfl, sL⟩ := hL
          refine Rg.pickt rfl rfl rfl ?_
          refine Rg.assign rfl rfl ?_
          refine Rg.nil ?_
          refine T.ret ?_
          exact Kret1 rfl rfl ⟨rfl, s7.trans0 sL⟩
      · -- c5 False
        obtain ⟨c, rfl⟩ : ∃ k : Nat, n3 = k := ⟨_, (Int.toNat_of_nonneg (by omega)).symm⟩
        have hrc : c ≤ 9223372036854775807 := by omega
        refine T.skip ?_
        refine T.seq ?_
        refine T.region ?_ -- region 7
        refine Rg.move rfl rfl ?_
        refine Rg.call rfl rfl E13 (Put_spec (M := M) (b := []) hM V_nil (by simp) hrm) (fun u7 w7 h7 => ?_)
        obtain ⟨s7, hu7⟩ := h7
        rw [List.nil_append] at hu7
        have hp := put_pos m
        have h9 := put_len9 hrm
        refine Rg.assign rfl rfl ?_
        refine Rg.nil ?_
        refine T.seq ?_
        refine T.seq ?_
        refine T.region ?_ -- region 8
        refine Rg.move rfl rfl ?_
        first | refine Rg.lensl Try.underlying22 rfl (by assumption) rfl ?_ | refine Rg.lenown Try.underlying22 rfl (by assumption) rfl ?_
        refine Rg.ieq rfl rfl rfl ?_
        refine Rg.nil ?_
        refine T.iffp rfl ((by omega)) ?_
        refine T.skip ?_
        refine T.seq ?_
        refine T.region ?_ -- region 10
        refine Rg.move rfl rfl ?_
        refine Rg.move rfl rfl ?_
        refine Rg.move rfl rfl ?_
        first | refine Rg.lensl Try.underlying22 rfl (by assumption) rfl ?_ | refine Rg.lenown Try.underlying22 rfl (by assumption) rfl ?_
        refine Rg.imod rfl rfl rfl (by omega) ?_
        obtain ⟨j, hj, hjl⟩ : ∃ j : Nat, ((c : Int) % ((put m).length : Int)) = j ∧ j < (put m).length := ⟨c % (put m).length, by simp, Nat.mod_lt _ hp⟩
        refine Rg.eqv (congrArg _ hj) ?_
        refine Rg.slice_h Try.underlying22 I5 rfl rfl rfl (by assumption) (by omega) (fun u10_5 hu10_5 => ?_)
        rw [Int.toNat_natCast] at hu10_5
        refine Rg.call rfl rfl E10 (Get_spec hu10_5 (by omega)) (fun r8 w8 h8 => ?_)
        obtain ⟨h8, rfl⟩ := h8
        rw [get_short hjl] at h8
        subst h8
        refine Rg.move rfl rfl ?_
        refine Rg.extract rfl rfl rfl ?_
        refine Rg.extract rfl rfl rfl ?_
        refine Rg.extract rfl rfl rfl ?_
        refine Rg.assign rfl rfl ?_
        refine Rg.assign rfl rfl ?_
        refine Rg.assign rfl rfl ?_
        refine Rg.nil ?_
        refine T.seq ?_
        refine T.region ?_ -- region 11
        refine Rg.move rfl rfl ?_
        refine Rg.ieq rfl rfl rfl ?_
        refine Rg.move rfl rfl ?_
        refine Rg.gtrue (g := 44) rfl (rfl) ?_
        refine Rg.gyes rfl rfl ?_
        refine Rg.move rfl rfl ?_
        refine Rg.gyes rfl rfl ?_
        refine Rg.move rfl rfl ?_
        refine Rg.gyes rfl rfl ?_
        refine Rg.igt rfl rfl rfl ?_
        refine Rg.gyes rfl rfl ?_
        refine Rg.move rfl rfl ?_
        refine Rg.gsplitp (g := 48) rfl (fun g11_6 => ?_) (fun g11_6 => ?_)
        · -- g11_6 True
          refine Rg.gno rfl rfl rfl rfl ?_
          refine Rg.gno rfl rfl rfl rfl ?_
          refine Rg.gno rfl rfl rfl rfl ?_
          refine Rg.gno rfl rfl rfl rfl ?_
          refine Rg.gno rfl rfl rfl rfl ?_
          refine Rg.gyes rfl rfl ?_
          refine Rg.pickt rfl rfl rfl ?_
          refine Rg.pickt rfl rfl rfl ?_
          refine Rg.move rfl rfl ?_
          refine Rg.gyes rfl rfl ?_
          refine Rg.call rfl rfl E12 (lives_spec (M := M) (s7.lt hM)) (fun rL wL hL => ?_)
          obtain ⟨rfl, sL⟩ := hL
          refine Rg.pickt rfl rfl rfl ?_
          refine Rg.assign rfl rfl ?_
          refine Rg.nil ?_
          refine T.ret ?_
          exact Kret1 rfl rfl ⟨rfl, s7.trans0 sL⟩
        · -- g11_6 False
          refine Rg.gyes rfl rfl ?_
          refine Rg.move rfl rfl ?_
          refine Rg.gyes rfl rfl ?_
          refine Rg.call rfl rfl E15 (Size_spec (M := M) (s7.lt hM) hrm) (fun r9 w9 h9 => ?_)
          obtain ⟨rfl, s9⟩ := h9
          refine Rg.gyes rfl rfl ?_
          refine Rg.move rfl rfl ?_
          refine Rg.gyes rfl rfl ?_
          refine Rg.call rfl rfl E15 (Size_spec (M := M) (s9.lt (s7.lt hM)) hrk) (fun r10 w10 h10 => ?_)
          obtain ⟨rfl, s10⟩ := h10
          replace s7 := (s7.trans0 s9).trans0 s10
          refine Rg.gyes rfl rfl ?_
          refine Rg.ile rfl rfl rfl ?_
          refine Rg.gyes rfl rfl ?_
          refine Rg.pickf rfl rfl rfl ?_
          refine Rg.pickt rfl rfl rfl ?_
          refine Rg.move rfl rfl ?_
          refine Rg.gtrue (g := 56) rfl ((by have := put_mono (show m ≤ k by omega); omega)) ?_
          refine Rg.gyes rfl rfl ?_
          refine Rg.call rfl rfl E12 (lives_spec (M := M) (s7.lt hM)) (fun rL wL hL => ?_)
          obtain ⟨rfl, sL⟩ := hL
          refine Rg.pickt rfl rfl rfl ?_
          refine Rg.assign rfl rfl ?_
          refine Rg.nil ?_
          refine T.ret ?_
          exact Kret1 rfl rfl ⟨rfl, s7.trans0 sL⟩
    · -- c3 False
      obtain ⟨k, rfl⟩ : ∃ k : Nat, n2 = k := ⟨_, (Int.toNat_of_nonneg (by omega)).symm⟩
      have hrk : k ≤ 9223372036854775807 := by omega
      refine T.skip ?_
      refine T.seq ?_
      refine T.seq ?_
      refine T.region ?_ -- region 5
      refine Rg.move rfl rfl ?_
      refine Rg.ilt rfl rfl rfl ?_
      refine Rg.nil ?_
      refine T.ifp rfl (fun c5 => ?_) (fun c5 => ?_)
      · -- c5 True
        refine T.region ?_ -- region 6
        refine Rg.move rfl rfl ?_
        refine Rg.iadd rfl rfl rfl (by omega) ?_
        refine Rg.neg rfl rfl (by omega) ?_
        obtain ⟨c, hc⟩ : ∃ c : Nat, (c : Int) = -(n3 + 1) := ⟨_, Int.toNat_of_nonneg (by omega)⟩
        refine Rg.eqv (v' := .int .i64 (c : Int)) (by rw [hc]) ?_
        have hrc : c ≤ 9223372036854775807 := by omega
        refine Rg.assign rfl rfl ?_
        refine Rg.nil ?_
        refine T.seq ?_
        refine T.region ?_ -- region 7
        refine Rg.move rfl rfl ?_
        refine Rg.call rfl rfl E13 (Put_spec (M := M) (b := []) hM V_nil (by simp) hrm) (fun u7 w7 h7 => ?_)
        obtain ⟨s7, hu7⟩ := h7
        rw [List.nil_append] at hu7
        have hp := put_pos m
        have h9 := put_len9 hrm
        refine Rg.assign rfl rfl ?_
        refine Rg.nil ?_
        refine T.seq ?_
        refine T.seq ?_
        refine T.region ?_ -- region 8
        refine Rg.move rfl rfl ?_
        first | refine Rg.lensl Try.underlying22 rfl (by assumption) rfl ?_ | refine Rg.lenown Try.underlying22 rfl (by assumption) rfl ?_
        refine Rg.ieq rfl rfl rfl ?_
        refine Rg.nil ?_
        refine T.iffp rfl ((by omega)) ?_
        refine T.skip ?_
        refine T.seq ?_
        refine T.region ?_ -- region 10
        refine Rg.move rfl rfl ?_
        refine Rg.move rfl rfl ?_
        refine Rg.move rfl rfl ?_
        first | refine Rg.lensl Try.underlying22 rfl (by assumption) rfl ?_ | refine Rg.lenown Try.underlying22 rfl (by assumption) rfl ?_
        refine Rg.imod rfl rfl rfl (by omega) ?_
        obtain ⟨j, hj, hjl⟩ : ∃ j : Nat, ((c : Int) % ((put m).length : Int)) = j ∧ j < (put m).length := ⟨c % (put m).length, by simp, Nat.mod_lt _ hp⟩
        refine Rg.eqv (congrArg _ hj) ?_
        refine Rg.slice_h Try.underlying22 I5 rfl rfl rfl (by assumption) (by omega) (fun u10_5 hu10_5 => ?_)
        rw [Int.toNat_natCast] at hu10_5
        refine Rg.call rfl rfl E10 (Get_spec hu10_5 (by omega)) (fun r8 w8 h8 => ?_)
        obtain ⟨h8, rfl⟩ := h8
        rw [get_short hjl] at h8
        subst h8
        refine Rg.move rfl rfl ?_
        refine Rg.extract rfl rfl rfl ?_
        refine Rg.extract rfl rfl rfl ?_
        refine Rg.extract rfl rfl rfl ?_
        refine Rg.assign rfl rfl ?_
        refine Rg.assign rfl rfl ?_
        refine Rg.assign rfl rfl ?_
        refine Rg.nil ?_
        refine T.seq ?_
        refine T.region ?_ -- region 11
        refine Rg.move rfl rfl ?_
        refine Rg.ieq rfl rfl rfl ?_
        refine Rg.move rfl rfl ?_
        refine Rg.gtrue (g := 44) rfl (rfl) ?_
        refine Rg.gyes rfl rfl ?_
        refine Rg.move rfl rfl ?_
        refine Rg.gyes rfl rfl ?_
        refine Rg.move rfl rfl ?_
        refine Rg.gyes rfl rfl ?_
        refine Rg.igt rfl rfl rfl ?_
        refine Rg.gyes rfl rfl ?_
        refine Rg.move rfl rfl ?_
        refine Rg.gsplitp (g := 48) rfl (fun g11_6 => ?_) (fun g11_6 => ?_)
        · -- g11_6 True
          refine Rg.gno rfl rfl rfl rfl ?_
          refine Rg.gno rfl rfl rfl rfl ?_
          refine Rg.gno rfl rfl rfl rfl ?_
          refine Rg.gno rfl rfl rfl rfl ?_
          refine Rg.gno rfl rfl rfl rfl ?_
          refine Rg.gyes rfl rfl ?_
          refine Rg.pickt rfl rfl rfl ?_
          refine Rg.pickt rfl rfl rfl ?_
          refine Rg.move rfl rfl ?_
          refine Rg.gyes rfl rfl ?_
          refine Rg.call rfl rfl E12 (lives_spec (M := M) (s7.lt hM)) (fun rL wL hL => ?_)
          obtain ⟨rfl, sL⟩ := hL
          refine Rg.pickt rfl rfl rfl ?_
          refine Rg.assign rfl rfl ?_
          refine Rg.nil ?_
          refine T.ret ?_
          exact Kret1 rfl rfl ⟨rfl, s7.trans0 sL⟩
        · -- g11_6 False
          refine Rg.gyes rfl rfl ?_
          refine Rg.move rfl rfl ?_
          refine Rg.gyes rfl rfl ?_
          refine Rg.call rfl rfl E15 (Size_spec (M := M) (s7.lt hM) hrm) (fun r9 w9 h9 => ?_)
          obtain ⟨rfl, s9⟩ := h9
          refine Rg.gyes rfl rfl ?_
          refine Rg.move rfl rfl ?_
          refine Rg.gyes rfl rfl ?_
          refine Rg.call rfl rfl E15 (Size_spec (M := M) (s9.lt (s7.lt hM)) hrk) (fun r10 w10 h10 => ?_)
          obtain ⟨rfl, s10⟩ := h10
          replace s7 := (s7.trans0 s9).trans0 s10
          refine Rg.gyes rfl rfl ?_
          refine Rg.ile rfl rfl rfl ?_
          refine Rg.gyes rfl rfl ?_
          refine Rg.pickf rfl rfl rfl ?_
          refine Rg.pickt rfl rfl rfl ?_
          refine Rg.move rfl rfl ?_
          refine Rg.gtrue (g := 56) rfl ((by have := put_mono (show m ≤ k by omega); omega)) ?_
          refine Rg.gyes rfl rfl ?_
          refine Rg.call rfl rfl E12 (lives_spec (M := M) (s7.lt hM)) (fun rL wL hL => ?_)
          obtain ⟨rfl, sL⟩ := hL
          refine Rg.pickt rfl rfl rfl ?_
          refine Rg.assign rfl rfl ?_
          refine Rg.nil ?_
          refine T.ret ?_
          exact Kret1 rfl rfl ⟨rfl, s7.trans0 sL⟩
      · -- c5 False
        obtain ⟨c, rfl⟩ : ∃ k : Nat, n3 = k := ⟨_, (Int.toNat_of_nonneg (by omega)).symm⟩
        have hrc : c ≤ 9223372036854775807 := by omega
        refine T.skip ?_
        refine T.seq ?_
        refine T.region ?_ -- region 7
        refine Rg.move rfl rfl ?_
        refine Rg.call rfl rfl E13 (Put_spec (M := M) (b := []) hM V_nil (by simp) hrm) (fun u7 w7 h7 => ?_)
        obtain ⟨s7, hu7⟩ := h7
        rw [List.nil_append] at hu7
        have hp := put_pos m
        have h9 := put_len9 hrm
        refine Rg.assign rfl rfl ?_
        refine Rg.nil ?_
        refine T.seq ?_
        refine T.seq ?_
        refine T.region ?_ -- region 8
        refine Rg.move rfl rfl ?_
        first | refine Rg.lensl Try.underlying22 rfl (by assumption) rfl ?_ | refine Rg.lenown Try.underlying22 rfl (by assumption) rfl ?_
        refine Rg.ieq rfl rfl rfl ?_
        refine Rg.nil ?_
        refine T.iffp rfl ((by omega)) ?_
        refine T.skip ?_
        refine T.seq ?_
        refine T.region ?_ -- region 10
        refine Rg.move rfl rfl ?_
        refine Rg.move rfl rfl ?_
        refine Rg.move rfl rfl ?_
        first | refine Rg.lensl Try.underlying22 rfl (by assumption) rfl ?_ | refine Rg.lenown Try.underlying22 rfl (by assumption) rfl ?_
        refine Rg.imod rfl rfl rfl (by omega) ?_
        obtain ⟨j, hj, hjl⟩ : ∃ j : Nat, ((c : Int) % ((put m).length : Int)) = j ∧ j < (put m).length := ⟨c % (put m).length, by simp, Nat.mod_lt _ hp⟩
        refine Rg.eqv (congrArg _ hj) ?_
        refine Rg.slice_h Try.underlying22 I5 rfl rfl rfl (by assumption) (by omega) (fun u10_5 hu10_5 => ?_)
        rw [Int.toNat_natCast] at hu10_5
        refine Rg.call rfl rfl E10 (Get_spec hu10_5 (by omega)) (fun r8 w8 h8 => ?_)
        obtain ⟨h8, rfl⟩ := h8
        rw [get_short hjl] at h8
        subst h8
        refine Rg.move rfl rfl ?_
        refine Rg.extract rfl rfl rfl ?_
        refine Rg.extract rfl rfl rfl ?_
        refine Rg.extract rfl rfl rfl ?_
        refine Rg.assign rfl rfl ?_
        refine Rg.assign rfl rfl ?_
        refine Rg.assign rfl rfl ?_
        refine Rg.nil ?_
        refine T.seq ?_
        refine T.region ?_ -- region 11
        refine Rg.move rfl rfl ?_
        refine Rg.ieq rfl rfl rfl ?_
        refine Rg.move rfl rfl ?_
        refine Rg.gtrue (g := 44) rfl (rfl) ?_
        refine Rg.gyes rfl rfl ?_
        refine Rg.move rfl rfl ?_
        refine Rg.gyes rfl rfl ?_
        refine Rg.move rfl rfl ?_
        refine Rg.gyes rfl rfl ?_
        refine Rg.igt rfl rfl rfl ?_
        refine Rg.gyes rfl rfl ?_
        refine Rg.move rfl rfl ?_
        refine Rg.gsplitp (g := 48) rfl (fun g11_6 => ?_) (fun g11_6 => ?_)
        · -- g11_6 True
          refine Rg.gno rfl rfl rfl rfl ?_
          refine Rg.gno rfl rfl rfl rfl ?_
          refine Rg.gno rfl rfl rfl rfl ?_
          refine Rg.gno rfl rfl rfl rfl ?_
          refine Rg.gno rfl rfl rfl rfl ?_
          refine Rg.gyes rfl rfl ?_
          refine Rg.pickt rfl rfl rfl ?_
          refine Rg.pickt rfl rfl rfl ?_
          refine Rg.move rfl rfl ?_
          refine Rg.gyes rfl rfl ?_
          refine Rg.call rfl rfl E12 (lives_spec (M := M) (s7.lt hM)) (fun rL wL hL => ?_)
          obtain ⟨rfl, sL⟩ := hL
          refine Rg.pickt rfl rfl rfl ?_
          refine Rg.assign rfl rfl ?_
          refine Rg.nil ?_
          refine T.ret ?_
          exact Kret1 rfl rfl ⟨rfl, s7.trans0 sL⟩
        · -- g11_6 False
          refine Rg.gyes rfl rfl ?_
          refine Rg.move rfl rfl ?_
          refine Rg.gyes rfl rfl ?_
          refine Rg.call rfl rfl E15 (Size_spec (M := M) (s7.lt hM) hrm) (fun r9 w9 h9 => ?_)
          obtain ⟨rfl, s9⟩ := h9
          refine Rg.gyes rfl rfl ?_
          refine Rg.move rfl rfl ?_
          refine Rg.gyes rfl rfl ?_
          refine Rg.call rfl rfl E15 (Size_spec (M := M) (s9.lt (s7.lt hM)) hrk) (fun r10 w10 h10 => ?_)
          obtain ⟨rfl, s10⟩ := h10
          replace s7 := (s7.trans0 s9).trans0 s10
          refine Rg.gyes rfl rfl ?_
          refine Rg.ile rfl rfl rfl ?_
          refine Rg.gyes rfl rfl ?_
          refine Rg.pickf rfl rfl rfl ?_
          refine Rg.pickt rfl rfl rfl ?_
          refine Rg.move rfl rfl ?_
          refine Rg.gtrue (g := 56) rfl ((by have := put_mono (show m ≤ k by omega); omega)) ?_
          refine Rg.gyes rfl rfl ?_
          refine Rg.call rfl rfl E12 (lives_spec (M := M) (s7.lt hM)) (fun rL wL hL => ?_)
          obtain ⟨rfl, sL⟩ := hL
          refine Rg.pickt rfl rfl rfl ?_
          refine Rg.assign rfl rfl ?_
          refine Rg.nil ?_
          refine T.ret ?_
          exact Kret1 rfl rfl ⟨rfl, s7.trans0 sL⟩

/-- 'concordance/concordancelaw04.VintRows' -/
theorem VintRows_spec {M : PSet} {w0 : World} {v : Value} {l : List Int} (hM : Lt M w0) (hv : ((RT.int .i64).sl).V M w0 l v) :
    Spec Try.prog 6 #[v] w0 (fun v' w' => v' = .bool true ∧ Step M w0 M w' none') := by
  have hlen := V_sl_len hv
  refine spec_of (args := [v]) (fn := Try.f6) Try.func6 rfl (n := 91) Try.ntmps6 ?_
  refine T.seq ?_
  refine T.region ?_ -- region 0
  refine Rg.assign rfl rfl ?_
  refine Rg.nil ?_
  refine T.seq ?_
  refine T.region ?_ -- region 1
  refine Rg.assign rfl rfl ?_
  refine Rg.nil ?_
  refine T.seq ?_
  refine T.region ?_ -- region 2
  refine Rg.assign rfl rfl ?_
  refine Rg.nil ?_
  refine T.seq ?_
  refine T.seq ?_
  refine T.region ?_ -- region 3
  refine Rg.assign rfl rfl ?_
  refine Rg.nil ?_
  refine T.block ?_
  refine T.loop (σ := Nat × Value × Value × List Nat) (fun s => [(0, v), (3, s.2.1), (4, s.2.2.1), (5, .int .i64 s.1)]) (fun s w => s.2.2.2.length = s.1 ∧ s.1 ≤ 20 ∧ (∀ x ∈ s.2.2.2, x ≤ 9223372036854775807) ∧ (s.2.2.2.flatMap put).length ≤ 9 * s.1 ∧ ∃ M1, Lt M1 w ∧ Step M w0 M1 w none' ∧ Own (RT.int .i64) 3 M1 w w0.heap.size s.2.2.1 (s.2.2.2.map fun (x : Nat) => (x : Int)) ∧ (RT.u8.sl).V M1 w (s.2.2.2.flatMap put) s.2.1) (fun s => 20 - s.1) (0, _, _, []) (.cons rfl (.cons rfl (.cons rfl (.cons rfl .nil)))) ?_ ?_ -- loop 0
  · exact ⟨rfl, by decide, by simp, by simp, M, hM, Step.refl _ _, Own.nil _ _ _ _ _, V_nil⟩
  · rintro ⟨i, bv, nv, ns⟩ w1 ⟨hnl, hi, hns, hbl, M1, hM1, S, ho, hb⟩
    dsimp only at hnl hi hns hbl ho hb ⊢
    refine T.seq ?_
    refine T.seq ?_
    refine T.region ?_ -- region 4
    refine Rg.move rfl rfl ?_
    refine Rg.move rfl rfl ?_
    first | refine Rg.lensl Try.underlying34 rfl (by assumption) rfl ?_ | refine Rg.lenown Try.underlying34 rfl (by assumption) rfl ?_
    refine Rg.ilt rfl rfl rfl ?_
    refine Rg.move rfl rfl ?_
    refine Rg.gsplitp (g := 19) rfl (fun g4_4 => ?_) (fun g4_4 => ?_)
    · -- g4_4 True
      refine Rg.gyes rfl rfl ?_
      refine Rg.move rfl rfl ?_
      refine Rg.gyes rfl rfl ?_
      refine Rg.ilt rfl rfl rfl ?_
      refine Rg.pickt rfl rfl rfl ?_
      refine Rg.nil ?_
      refine T.ifp rfl (fun c4 => ?_) (fun c4 => ?_)
      · -- c4 True
        refine T.skip ?_
        refine T.seq ?_
        refine T.block ?_
        refine T.seq ?_
        refine T.region ?_ -- region 6
        refine Rg.move rfl rfl ?_
        refine Rg.move rfl rfl ?_
        refine Rg.idx (M := M) Try.underlying34 I3 rfl rfl rfl (hv.le S.back.le) (Le.refl _ _) (by omega) (fun u6_2 a6_2 hg6_2 hu6_2 => ?_)
        refine Rg.loadi64 (M := M) Try.underlying3 rfl rfl hu6_2 (Le.refl _ _) (fun ha6 => ?_)
        refine Rg.assign rfl rfl ?_
        refine Rg.nil ?_
        refine T.seq ?_
        refine T.seq ?_
        refine T.region ?_ -- region 7
        refine Rg.move rfl rfl ?_
        refine Rg.ilt rfl rfl rfl ?_
        refine Rg.nil ?_
        refine T.ifp rfl (fun c7 => ?_) (fun c7 => ?_)
        · -- c7 True
          refine T.region ?_ -- region 8
          refine Rg.move rfl rfl ?_
          refine Rg.iadd rfl rfl rfl (by omega) ?_
          refine Rg.neg rfl rfl (by omega) ?_
          obtain ⟨m, hm⟩ : ∃ m : Nat, (m : Int) = -(a6_2 + 1) := ⟨_, Int.toNat_of_nonneg (by omega)⟩
          refine Rg.eqv (v' := .int .i64 (m : Int)) (by rw [hm]) ?_
          have hrm : m ≤ 9223372036854775807 := by omega
          refine Rg.assign rfl rfl ?_
          refine Rg.nil ?_
          refine T.seq ?_
          refine T.region ?_ -- region 9
          refine Rg.move rfl rfl ?_
          refine Rg.move rfl rfl ?_
          refine Rg.sl1 (A := RT.int .i64) (hn := by decide) (M := M1) Try.underlying34 I3 (by decide) rfl rfl hM1 (V_i64 (by omega)) (.inr ⟨rfl, rfl⟩) (fun u2 w2 hu2 s2 => ?_)
          refine Rg.append (M := M1) (base := w0.heap.size) Try.underlying34 I3 rfl rfl rfl rfl (ho.step0 s2) hu2 (Le.refl _ _) (by simp; omega) (by simp; omega) (Nat.le_trans S.size s2.size) (fun v3 M3 w3 ho3 s3 => ?_)
          have hM3 := s3.lt (s2.lt hM1)
          refine Rg.assign rfl rfl ?_
          refine Rg.nil ?_
          refine T.region ?_ -- region 10
          refine Rg.move rfl rfl ?_
          refine Rg.move rfl rfl ?_
          refine Rg.call rfl rfl E13 (Put_spec (M := M3) hM3 ((hb.le s2.le).le s3.le) (by omega) hrm) (fun u4 w4 h4 => ?_)
          obtain ⟨s4, hu4⟩ := h4
          have h9 := put_len9 hrm
          refine Rg.assign rfl rfl ?_
          refine Rg.nil ?_
          refine T.region ?_ -- region 5
          refine Rg.move rfl rfl ?_
          refine Rg.iadd rfl rfl rfl (by omega) ?_
          refine Rg.assign rfl rfl ?_
          refine Rg.nil ?_
          refine ⟨rfl, (i + 1, u4, v3, ns ++ [m]), (.cons rfl (.cons rfl (.cons rfl (.cons rfl .nil)))), ?_, ?_⟩
          · refine ⟨by simp [hnl], by simp only; omega, ?_, by simp only [List.flatMap_append, List.flatMap_singleton, List.length_append]; omega, M3, s4.lt hM3, ((S.trans0 s2).transBlk s3 (ho.step0 s2) (Nat.le_refl _)).trans0 s4, ?_, ?_⟩
            · intro x hx; rcases List.mem_append.1 hx with h | h
              · exact hns x h
              · simp at h; subst h; exact hrm
            · simp only [List.map_append]; exact ho3.step0 s4
            · simp only [List.flatMap_append, List.flatMap_singleton]; exact hu4
          · simp only; omega
        · -- c7 False
          obtain ⟨m, rfl⟩ : ∃ k : Nat, a6_2 = k := ⟨_, (Int.toNat_of_nonneg (by omega)).symm⟩
          have hrm : m ≤ 9223372036854775807 := by omega
          refine T.skip ?_
          refine T.seq ?_
          refine T.region ?_ -- region 9
          refine Rg.move rfl rfl ?_
          refine Rg.move rfl rfl ?_
          refine Rg.sl1 (A := RT.int .i64) (hn := by decide) (M := M1) Try.underlying34 I3 (by decide) rfl rfl hM1 (V_i64 (by omega)) (.inr ⟨rfl, rfl⟩) (fun u2 w2 hu2 s2 => ?_)
          refine Rg.append (M := M1) (base := w0.heap.size) Try.underlying34 I3 rfl rfl rfl rfl (ho.step0 s2) hu2 (Le.refl _ _) (by simp; omega) (by simp; omega) (Nat.le_trans S.size s2.size) (fun v3 M3 w3 ho3 s3 => ?_)
          have hM3 := s3.lt (s2.lt hM1)
          refine Rg.assign rfl rfl ?_
          refine Rg.nil ?_
          refine T.region ?_ -- region 10
          refine Rg.move rfl rfl ?_
          refine Rg.move rfl rfl ?_
          refine Rg.call rfl rfl E13 (Put_spec (M := M3) hM3 ((hb.le s2.le).le s3.le) (by omega) hrm) (fun u4 w4 h4 => ?_)
          obtain ⟨s4, hu4⟩ := h4
          have h9 := put_len9 hrm
          refine Rg.assign rfl rfl ?_
          refine Rg.nil ?_
          refine T.region ?_ -- region 5
          refine Rg.move rfl rfl ?_
          refine Rg.iadd rfl rfl rfl (by omega) ?_
          refine Rg.assign rfl rfl ?_
          refine Rg.nil ?_
          refine ⟨rfl, (i + 1, u4, v3, ns ++ [m]), (.cons rfl (.cons rfl (.cons rfl (.cons rfl .nil)))), ?_, ?_⟩
          · refine ⟨by simp [hnl], by simp only; omega, ?_, by simp only [List.flatMap_append, List.flatMap_singleton, List.length_append]; omega, M3, s4.lt hM3, ((S.trans0 s2).transBlk s3 (ho.step0 s2) (Nat.le_refl _)).trans0 s4, ?_, ?_⟩
            · intro x hx; rcases List.mem_append.1 hx with h | h
              · exact hns x h
              · simp at h; subst h; exact hrm
            · simp only [List.map_append]; exact ho3.step0 s4
            · simp only [List.flatMap_append, List.flatMap_singleton]; exact hu4
          · simp only; omega
      · -- c4 False
        refine T.exit ?_
        refine T.seq ?_
        refine T.region ?_ -- region 11
        refine Rg.assign rfl rfl ?_
        refine Rg.nil ?_
        refine T.seq ?_
        refine T.seq ?_
        refine T.region ?_ -- region 12
        refine Rg.assign rfl rfl ?_
        refine Rg.nil ?_
        refine T.block ?_
        have hnl2 : (ns.map fun (x : Nat) => (x : Int)).length ≤ 20 := by simp; omega
        have hnl := Own.close (hn := by decide) hM S ho (by omega)
        replace hb := hb.le (Le.close hM S)
        replace S := S.back
        have hMw := S.lt hM
        refine T.loop (σ := Nat × Nat) (fun s => [(3, bv), (4, nv), (7, .int .i64 s.2), (8, .int .i64 s.1)]) (fun s w => s.1 ≤ ns.length ∧ s.2 = ((ns.take s.1).flatMap put).length ∧ Step M w1 M w none') (fun s => ns.length - s.1) (0, 0) (.cons rfl (.cons rfl (.cons rfl (.cons rfl .nil)))) ?_ ?_ -- loop 1
        · exact ⟨Nat.zero_le _, rfl, Step.refl _ _⟩
        · rintro ⟨j, a⟩ w2 ⟨hj, ha, sw⟩
          dsimp only at hj ha ⊢
          have hal : a ≤ 180 := by rw [ha]; have := flat_take put ns j; omega
          refine T.seq ?_
          refine T.seq ?_
          refine T.region ?_ -- region 13
          refine Rg.move rfl rfl ?_
          refine Rg.move rfl rfl ?_
          refine Rg.lensl Try.underlying34 rfl hnl rfl ?_
          refine Rg.eqv (v' := .int .i64 ns.length) (by simp) ?_
          refine Rg.ilt rfl rfl rfl ?_
          refine Rg.nil ?_
          refine T.ifp rfl (fun c13 => ?_) (fun c13 => ?_)
          · -- c13 True
            refine T.skip ?_
            refine T.seq ?_
            refine T.block ?_
            refine T.seq ?_
            refine T.region ?_ -- region 15
            refine Rg.move rfl rfl ?_
            refine Rg.move rfl rfl ?_
            obtain ⟨x, hx⟩ : ∃ x, ns[j]? = some x := ⟨_, List.getElem?_eq_getElem (by omega)⟩
            have hxr := hns x (List.mem_of_getElem? hx)
            have hB := flat_at put hx
            refine Rg.call rfl rfl E10 (Get_spec (hb.le sw.le) (by omega)) (fun r5 w5 h5 => ?_)
            obtain ⟨h5, rfl⟩ := h5
            rw [hB, ha, get_put _ _ hxr] at h5
            subst h5
            have h9 := put_len9 hxr
            refine Rg.move rfl rfl ?_
            refine Rg.extract rfl rfl rfl ?_
            refine Rg.extract rfl rfl rfl ?_
            refine Rg.extract rfl rfl rfl ?_
            refine Rg.assign rfl rfl ?_
            refine Rg.assign rfl rfl ?_
            refine Rg.assign rfl rfl ?_
            refine Rg.nil ?_
            refine T.seq ?_
            refine T.seq ?_
            refine T.region ?_ -- region 16
            refine Rg.move rfl rfl ?_
            refine Rg.move rfl rfl ?_
            refine Rg.move rfl rfl ?_
            refine Rg.idx (M := M) Try.underlying34 I3 rfl rfl rfl (hnl.le sw.le) (Le.refl _ _) (by simp only [List.length_map]; omega) (fun u16_3 a16_3 hg16_3 hu16_3 => ?_)
            obtain rfl : a16_3 = (x : Int) := Option.some.inj (hg16_3.symm.trans (by simp [hx]))
            refine Rg.loadi64 (M := M) Try.underlying3 rfl rfl hu16_3 (Le.refl _ _) (fun _ => ?_)
            refine Rg.ine rfl rfl rfl ?_
            refine Rg.move rfl rfl ?_
            refine Rg.gfalse (g := 60) rfl ((fun h => h rfl)) ?_
            refine Rg.gyes rfl rfl ?_
            refine Rg.move rfl rfl ?_
            refine Rg.gyes rfl rfl ?_
            refine Rg.ine rfl rfl rfl ?_
            refine Rg.pickf rfl rfl rfl ?_
            refine Rg.move rfl rfl ?_
            refine Rg.gfalse (g := 64) rfl ((fun h => h rfl)) ?_
            refine Rg.gyes rfl rfl ?_
            refine Rg.move rfl rfl ?_
            refine Rg.gyes rfl rfl ?_
            refine Rg.move rfl rfl ?_
            refine Rg.gyes rfl rfl ?_
            refine Rg.move rfl rfl ?_
            refine Rg.gyes rfl rfl ?_
            refine Rg.call rfl rfl E15 (Size_spec (M := M) (sw.lt hMw) hxr) (fun r6 w6 h6 => ?_)
            obtain ⟨rfl, s6⟩ := h6
            replace sw := sw.trans0 s6
            refine Rg.gyes rfl rfl ?_
            refine Rg.iadd rfl rfl rfl (by omega) ?_
            refine Rg.gyes rfl rfl ?_
            refine Rg.ine rfl rfl rfl ?_
            refine Rg.pickf rfl rfl rfl ?_
            refine Rg.nil ?_
            refine T.iffp rfl ((by simp only; omega)) ?_
            refine T.skip ?_
            refine T.region ?_ -- region 18
            refine Rg.move rfl rfl ?_
            refine Rg.assign rfl rfl ?_
            refine Rg.nil ?_
            refine T.region ?_ -- region 14
            refine Rg.move rfl rfl ?_
            refine Rg.iadd rfl rfl rfl (by omega) ?_
            refine Rg.assign rfl rfl ?_
            refine Rg.nil ?_
            refine ⟨rfl, (j + 1, ((ns.take j).flatMap put).length + (put x).length), (.cons rfl (.cons rfl (.cons rfl (.cons rfl .nil)))), ?_, ?_⟩
            · refine ⟨by simp only; omega, ?_, sw⟩
              simp only [flat_succ put hx, List.length_append]
            · simp only; omega
          · -- c13 False
            refine T.exit ?_
            refine T.seq ?_
            refine T.region ?_ -- region 19
            refine Rg.move rfl rfl ?_
            refine Rg.move rfl rfl ?_
            have hj : j = ns.length := by omega
            have hfl : (ns.take j).flatMap put = ns.flatMap put := by rw [hj, List.take_length]
            rw [hfl] at ha
            refine Rg.call rfl rfl E10 (Get_spec (hb.le sw.le) (by omega)) (fun r5 w5 h5 => ?_)
            obtain ⟨h5, rfl⟩ := h5
            rw [ha, get_end] at h5
            subst h5
            refine Rg.move rfl rfl ?_
            refine Rg.extract rfl rfl rfl ?_
            refine Rg.extract rfl rfl rfl ?_
            refine Rg.extract rfl rfl rfl ?_
            refine Rg.assign rfl rfl ?_
            refine Rg.assign rfl rfl ?_
            refine Rg.assign rfl rfl ?_
            refine Rg.nil ?_
            refine T.seq ?_
            refine T.region ?_ -- region 20
            refine Rg.move rfl rfl ?_
            refine Rg.move rfl rfl ?_
            refine Rg.lensl Try.underlying22 rfl hb rfl ?_
            refine Rg.ieq rfl rfl rfl ?_
            refine Rg.move rfl rfl ?_
            refine Rg.gtrue (g := 84) rfl ((by omega)) ?_
            refine Rg.gyes rfl rfl ?_
            refine Rg.move rfl rfl ?_
            refine Rg.gyes rfl rfl ?_
            refine Rg.ieq rfl rfl rfl ?_
            refine Rg.pickt rfl rfl rfl ?_
            refine Rg.move rfl rfl ?_
            refine Rg.gtrue (g := 88) rfl (rfl) ?_
            refine Rg.gyes rfl rfl ?_
            refine Rg.call rfl rfl E12 (lives_spec (M := M) (sw.lt hMw)) (fun rL wL hL => ?_)
            obtain ⟨rfl, sL⟩ := hL
            refine Rg.pickt rfl rfl rfl ?_
            refine Rg.assign rfl rfl ?_
            refine Rg.nil ?_
            refine T.ret ?_
            exact Kret1 rfl rfl ⟨rfl, (S.trans0 sw).trans0 sL⟩
    · -- g4_4 False
      refine Rg.gno rfl rfl rfl rfl ?_
      refine Rg.gno rfl rfl rfl rfl ?_
      refine Rg.pickf rfl rfl rfl ?_
      refine Rg.nil ?_
      refine T.iff rfl ?_
      refine T.exit ?_
      refine T.seq ?_
      refine T.region ?_ -- region 11
      refine Rg.assign rfl rfl ?_
      refine Rg.nil ?_
      refine T.seq ?_
      refine T.seq ?_
      refine T.region ?_ -- region 12
      refine Rg.assign rfl rfl ?_
      refine Rg.nil ?_
      refine T.block ?_
      have hnl2 : (ns.map fun (x : Nat) => (x : Int)).length ≤ 20 := by simp; omega
      have hnl := Own.close (hn := by decide) hM S ho (by omega)
      replace hb := hb.le (Le.close hM S)
      replace S := S.back
      have hMw := S.lt hM
      refine T.loop (σ := Nat × Nat) (fun s => [(3, bv), (4, nv), (7, .int .i64 s.2), (8, .int .i64 s.1)]) (fun s w => s.1 ≤ ns.length ∧ s.2 = ((ns.take s.1).flatMap put).length ∧ Step M w1 M w none') (fun s => ns.length - s.1) (0, 0) (.cons rfl (.cons rfl (.cons rfl (.cons rfl .nil)))) ?_ ?_ -- loop 1
      · exact ⟨Nat.zero_le _, rfl, Step.refl _ _⟩
      · rintro ⟨j, a⟩ w2 ⟨hj, ha, sw⟩
        dsimp only at hj ha ⊢
        have hal : a ≤ 180 := by rw [ha]; have := flat_take put ns j; omega
        refine T.seq ?_
        refine T.seq ?_
        refine T.region ?_ -- region 13
        refine Rg.move rfl rfl ?_
        refine Rg.move rfl rfl ?_
        refine Rg.lensl Try.underlying34 rfl hnl rfl ?_
        refine Rg.eqv (v' := .int .i64 ns.length) (by simp) ?_
        refine Rg.ilt rfl rfl rfl ?_
        refine Rg.nil ?_
        refine T.ifp rfl (fun c13 => ?_) (fun c13 => ?_)
        · -- c13 True
          refine T.skip ?_
          refine T.seq ?_
          refine T.block ?_
          refine T.seq ?_
          refine T.region ?_ -- region 15
          refine Rg.move rfl rfl ?_
          refine Rg.move rfl rfl ?_
          obtain ⟨x, hx⟩ : ∃ x, ns[j]? = some x := ⟨_, List.getElem?_eq_getElem (by omega)⟩
          have hxr := hns x (List.mem_of_getElem? hx)
          have hB := flat_at put hx
          refine Rg.call rfl rfl E10 (Get_spec (hb.le sw.le) (by omega)) (fun r5 w5 h5 => ?_)
          obtain ⟨h5, rfl⟩ := h5
          rw [hB, ha, get_put _ _ hxr] at h5
          subst h5
          have h9 := put_len9 hxr
          refine Rg.move rfl rfl ?_
          refine Rg.extract rfl rfl rfl ?_
          refine Rg.extract rfl rfl rfl ?_
          refine Rg.extract rfl rfl rfl ?_
          refine Rg.assign rfl rfl ?_
          refine Rg.assign rfl rfl ?_
          refine Rg.assign rfl rfl ?_
          refine Rg.nil ?_
          refine T.seq ?_
          refine T.seq ?_
          refine T.region ?_ -- region 16
          refine Rg.move rfl rfl ?_
          refine Rg.move rfl rfl ?_
          refine Rg.move rfl rfl ?_
          refine Rg.idx (M := M) Try.underlying34 I3 rfl rfl rfl (hnl.le sw.le) (Le.refl _ _) (by simp only [List.length_map]; omega) (fun u16_3 a16_3 hg16_3 hu16_3 => ?_)
          obtain rfl : a16_3 = (x : Int) := Option.some.inj (hg16_3.symm.trans (by simp [hx]))
          refine Rg.loadi64 (M := M) Try.underlying3 rfl rfl hu16_3 (Le.refl _ _) (fun _ => ?_)
          refine Rg.ine rfl rfl rfl ?_
          refine Rg.move rfl rfl ?_
          refine Rg.gfalse (g := 60) rfl ((fun h => h rfl)) ?_
          refine Rg.gyes rfl rfl ?_
          refine Rg.move rfl rfl ?_
          refine Rg.gyes rfl rfl ?_
          refine Rg.ine rfl rfl rfl ?_
          refine Rg.pickf rfl rfl rfl ?_
          refine Rg.move rfl rfl ?_
          refine Rg.gfalse (g := 64) rfl ((fun h => h rfl)) ?_
          refine Rg.gyes rfl rfl ?_
          refine Rg.move rfl rfl ?_
          refine Rg.gyes rfl rfl ?_
          refine Rg.move rfl rfl ?_
          refine Rg.gyes rfl rfl ?_
          refine Rg.move rfl rfl ?_
          refine Rg.gyes rfl rfl ?_
          refine Rg.call rfl rfl E15 (Size_spec (M := M) (sw.lt hMw) hxr) (fun r6 w6 h6 => ?_)
          obtain ⟨rfl, s6⟩ := h6
          replace sw := sw.trans0 s6
          refine Rg.gyes rfl rfl ?_
          refine Rg.iadd rfl rfl rfl (by omega) ?_
          refine Rg.gyes rfl rfl ?_
          refine Rg.ine rfl rfl rfl ?_
          refine Rg.pickf rfl rfl rfl ?_
          refine Rg.nil ?_
          refine T.iffp rfl ((by simp only; omega)) ?_
          refine T.skip ?_
          refine T.region ?_ -- region 18
          refine Rg.move rfl rfl ?_
          refine Rg.assign rfl rfl ?_
          refine Rg.nil ?_
          refine T.region ?_ -- region 14
          refine Rg.move rfl rfl ?_
          refine Rg.iadd rfl rfl rfl (by omega) ?_
          refine Rg.assign rfl rfl ?_
          refine Rg.nil ?_
          refine ⟨rfl, (j + 1, ((ns.take j).flatMap put).length + (put x).length), (.cons rfl (.cons rfl (.cons rfl (.cons rfl .nil)))), ?_, ?_⟩
          · refine ⟨by simp only; omega, ?_, sw⟩
            simp only [flat_succ put hx, List.length_append]
          · simp only; omega
        · -- c13 False
          refine T.exit ?_
          refine T.seq ?_
          refine T.region ?_ -- region 19
          refine Rg.move rfl rfl ?_
          refine Rg.move rfl rfl ?_
          have hj : j = ns.length := by omega
          have hfl : (ns.take j).flatMap put = ns.flatMap put := by rw [hj, List.take_length]
          rw [hfl] at ha
          refine Rg.call rfl rfl E10 (Get_spec (hb.le sw.le) (by omega)) (fun r5 w5 h5 => ?_)
          obtain ⟨h5, rfl⟩ := h5
          rw [ha, get_end] at h5
          subst h5
          refine Rg.move rfl rfl ?_
          refine Rg.extract rfl rfl rfl ?_
          refine Rg.extract rfl rfl rfl ?_
          refine Rg.extract rfl rfl rfl ?_
          refine Rg.assign rfl rfl ?_
          refine Rg.assign rfl rfl ?_
          refine Rg.assign rfl rfl ?_
          refine Rg.nil ?_
          refine T.seq ?_
          refine T.region ?_ -- region 20
          refine Rg.move rfl rfl ?_
          refine Rg.move rfl rfl ?_
          refine Rg.lensl Try.underlying22 rfl hb rfl ?_
          refine Rg.ieq rfl rfl rfl ?_
          refine Rg.move rfl rfl ?_
          refine Rg.gtrue (g := 84) rfl ((by omega)) ?_
          refine Rg.gyes rfl rfl ?_
          refine Rg.move rfl rfl ?_
          refine Rg.gyes rfl rfl ?_
          refine Rg.ieq rfl rfl rfl ?_
          refine Rg.pickt rfl rfl rfl ?_
          refine Rg.move rfl rfl ?_
          refine Rg.gtrue (g := 88) rfl (rfl) ?_
          refine Rg.gyes rfl rfl ?_
          refine Rg.call rfl rfl E12 (lives_spec (M := M) (sw.lt hMw)) (fun rL wL hL => ?_)
          obtain ⟨rfl, sL⟩ := hL
          refine Rg.pickt rfl rfl rfl ?_
          refine Rg.assign rfl rfl ?_
          refine Rg.nil ?_
          refine T.ret ?_
          exact Kret1 rfl rfl ⟨rfl, (S.trans0 sw).trans0 sL⟩

/-- 'concordance/concordancelaw04.VintRising' -/
theorem VintRising_spec {M : PSet} {w0 : World} {v u z : Value} {l : List Int} {b c : List UInt8} (hM : Lt M w0) (hv : ((RT.int .i64).sl).V M w0 l v) (hb : (RT.u8.sl).V M w0 b u) (hc : (RT.u8.sl).V M w0 c z) :
    Spec Try.prog 7 #[v, u, z] w0 (fun v' w' => v' = .bool true ∧ Step M w0 M w' none') := by
  refine spec_of (args := [v, u, z]) (fn := Try.f7) Try.func7 rfl (n := 96) Try.ntmps7 ?_
  refine T.seq ?_
  refine T.region ?_ -- region 0
  refine Rg.assign rfl rfl ?_
  refine Rg.nil ?_
  refine T.seq ?_
  refine T.seq ?_
  refine T.region ?_ -- region 1
  refine Rg.move rfl rfl ?_
  first | refine Rg.lensl Try.underlying34 rfl (by assumption) rfl ?_ | refine Rg.lenown Try.underlying34 rfl (by assumption) rfl ?_
  refine Rg.igt rfl rfl rfl ?_
  refine Rg.nil ?_
  refine T.ifp rfl (fun c1 => ?_) (fun c1 => ?_)
  · -- c1 True
    refine T.region ?_ -- region 2
    refine Rg.move rfl rfl ?_
    refine Rg.slice_h Try.underlying34 I3 rfl rfl rfl hv (by omega) (fun u2 hu2 => ?_)
    obtain ⟨l1, hl1, hll⟩ : ∃ l1, ((RT.int .i64).sl).V M w0 l1 u2 ∧ l1.length ≤ 20 := ⟨_, hu2, by rw [List.length_take]; exact Nat.min_le_left _ _⟩
    clear hu2 hv
    refine Rg.assign rfl rfl ?_
    refine Rg.nil ?_
    refine T.seq ?_
    refine T.region ?_ -- region 3
    refine Rg.move rfl rfl ?_
    refine Rg.call rfl rfl E9 (few_spec (M := M) (hb)) (fun u3 w3 h3 => ?_)
    obtain ⟨hu3, rfl⟩ := h3
    have hbl : (b.take 60).length ≤ 60 := (by rw [List.length_take]; omega)
    generalize b.take 60 = b1 at hu3 hbl
    refine Rg.assign rfl rfl ?_
    refine Rg.nil ?_
    refine T.seq ?_
    refine T.region ?_ -- region 4
    refine Rg.move rfl rfl ?_
    refine Rg.call rfl rfl E16 (Rises_spec (M := M) hM hl1) (fun r4 w4 h4 => ?_)
    obtain ⟨rfl, s4⟩ := h4
    refine Rg.assign rfl rfl ?_
    refine Rg.nil ?_
    refine T.seq ?_
    refine T.region ?_ -- region 5
    refine Rg.move rfl rfl ?_
    refine Rg.move rfl rfl ?_
    refine Rg.call rfl rfl E17 (PutRising_spec (M := M) (s4.lt hM) (hu3.le s4.le) (hl1.le s4.le) (by omega)) (fun r5 w5 h5 => ?_)
    obtain ⟨x5, s5, rfl, hx5⟩ := h5
    refine Rg.move rfl rfl ?_
    refine Rg.extract rfl rfl rfl ?_
    refine Rg.extract rfl rfl rfl ?_
    refine Rg.assign rfl rfl ?_
    refine Rg.assign rfl rfl ?_
    refine Rg.nil ?_
    refine T.seq ?_
    refine T.seq ?_
    refine T.region ?_ -- region 6
    refine Rg.move rfl rfl ?_
    refine Rg.ieq rfl rfl rfl ?_
    refine Rg.move rfl rfl ?_
    refine Rg.bne Try.underlying4 rfl rfl rfl ?_
    refine Rg.move rfl rfl ?_
    refine Rg.gfalse (g := 35) rfl ((by cases rises (-1) l1 <;> simp)) ?_
    refine Rg.gyes rfl rfl ?_
    refine Rg.move rfl rfl ?_
    refine Rg.gyes rfl rfl ?_
    refine Rg.not rfl rfl ?_
    refine Rg.eqv (v' := .bool (decide (¬ rises (-1) l1 = true))) (by simp) ?_
    refine Rg.gyes rfl rfl ?_
    refine Rg.move rfl rfl ?_
    refine Rg.gsplitp (g := 38) rfl (fun g6_7 => ?_) (fun g6_7 => ?_)
    · -- g6_7 True
      refine Rg.gyes rfl rfl ?_
      refine Rg.move rfl rfl ?_
      refine Rg.gyes rfl rfl ?_
      first | refine Rg.lensl Try.underlying22 rfl (by assumption) rfl ?_ | refine Rg.lenown Try.underlying22 rfl (by assumption) rfl ?_
      refine Rg.gyes rfl rfl ?_
      refine Rg.ine rfl rfl rfl ?_
      refine Rg.gyes rfl rfl ?_
      refine Rg.move rfl rfl ?_
      refine Rg.gfalse (g := 42) rfl ((by rw [if_neg g6_7]; simp)) ?_
      refine Rg.gyes rfl rfl ?_
      refine Rg.move rfl rfl ?_
      refine Rg.gyes rfl rfl ?_
      refine Rg.ine rfl rfl rfl ?_
      refine Rg.gyes rfl rfl ?_
      refine Rg.pickf rfl rfl rfl ?_
      refine Rg.gyes rfl rfl ?_
      refine Rg.pickt rfl rfl rfl ?_
      refine Rg.pickf rfl rfl rfl ?_
      refine Rg.nil ?_
      refine T.iffp rfl ((by rw [if_neg g6_7]; simp)) ?_
      refine T.skip ?_
      refine T.seq ?_
      refine T.region ?_ -- region 8
      refine Rg.move rfl rfl ?_
      refine Rg.call rfl rfl E18 (Good_spec (M := M) (most := 20) (s5.lt (s4.lt hM)) ((hl1.le s4.le).le s5.le) (by decide)) (fun u8 w8 h8 => ?_)
      obtain ⟨s8, hu8⟩ := h8
      have S8 := (s4.trans0 s5).trans0 s8
      have hgr := good_rises l1 20
      have hgn := good_len l1 20
      have hgl := good_le l1 20
      generalize good l1 20 = g at hu8 hgr hgn hgl
      replace hu3 := hu3.le S8.le
      refine Rg.assign rfl rfl ?_
      refine Rg.nil ?_
      refine T.seq ?_
      refine T.region ?_ -- region 9
      refine Rg.move rfl rfl ?_
      refine Rg.move rfl rfl ?_
      refine Rg.call rfl rfl E17 (PutRising_own (M := M) (S8.lt hM) hu3 hu8 (by omega)) (fun r9 w9 h9 => ?_)
      obtain ⟨M2, x9, s9, h9, ho⟩ := h9
      simp only [hgr, if_true] at h9 ho
      subst h9
      have hpr : (putRising g).length ≤ 9 * (g.length + 1) := by have h1 := put_len9 (n := g.length) (by omega); have h2 := putR_len g (-1) (by decide) (fun x hx => by have := hgl x hx; omega) hgr; simp only [putRising, List.length_append]; omega
      have hl11 : (b1 ++ putRising g).length = b1.length + (putRising g).length := List.length_append
      have S9 := S8.trans0 s9
      have ho9 : Own RT.u8 5 M2 w9 w0.heap.size x9 (b1 ++ putRising g) := ho.rebase S8.size
      have hv9 : (RT.u8.sl).V M w9 (b1 ++ putRising g) x9 := Own.close hM S9 ho9 (by omega)
      have hMw := S9.back.lt hM
      have hg2 := hu8.le s9.le
      replace hu3 := hu3.le s9.back.le
      replace hu8 := hu8.le s9.back.le
      refine Rg.move rfl rfl ?_
      refine Rg.extract rfl rfl rfl ?_
      refine Rg.extract rfl rfl rfl ?_
      refine Rg.assign rfl rfl ?_
      refine Rg.assign rfl rfl ?_
      refine Rg.nil ?_
      refine T.seq ?_
      refine T.seq ?_
      by_cases g10_9 : b1 ++ putRising g ≠ b1 ++ putRising g
      · -- g10_9 True
        exact absurd rfl g10_9
      · -- g10_9 False
        apply T.draw (M := M) mixed [Asr.eq _, Asr.eq _, Asr.eq _, Asr.eq _, Asr.eq _, Asr.V (RT.u8.sl) (putRising g), Asr.eq _, Asr.eq _, Asr.eq _, Asr.eq (.bool false), Asr.eq _, Asr.eq _, Asr.eq _] -- region 10
        · rfl
        · -- its operations
          refine Obls.cons ?_ ?_
          · intro wD E sD -- 0
            refine Rg.move rfl rfl ?_
            exact Rg.nil ⟨rfl, rfl, _, rfl, rfl, Step.refl _ _⟩
          refine Obls.cons ?_ ?_
          · intro wD E sD -- 1
            rintro _ rfl
            refine Rg.b2s (M := M) Try.underlying22 Try.underlying5 Try.underlying9 rfl rfl (by assumption) (by repeat (first | exact Le.refl _ _ | refine Le.trans (Step.le (by assumption)) ?_)) ?_
            exact Rg.nil ⟨rfl, rfl, _, rfl, rfl, Step.refl _ _⟩
          refine Obls.cons ?_ ?_
          · intro wD E sD -- 2
            refine Rg.move rfl rfl ?_
            exact Rg.nil ⟨rfl, rfl, _, rfl, rfl, Step.refl _ _⟩
          refine Obls.cons ?_ ?_
          · intro wD E sD -- 3
            rintro _ rfl
            refine Rg.b2s (M := M) Try.underlying22 Try.underlying5 Try.underlying9 rfl rfl (by assumption) (by repeat (first | exact Le.refl _ _ | refine Le.trans (Step.le (by assumption)) ?_)) ?_
            exact Rg.nil ⟨rfl, rfl, _, rfl, rfl, Step.refl _ _⟩
          refine Obls.cons ?_ ?_
          · intro wD E sD -- 4
            refine Rg.move rfl rfl ?_
            exact Rg.nil ⟨rfl, rfl, _, rfl, rfl, Step.refl _ _⟩
          refine Obls.cons ?_ ?_
          · intro wD E sD -- 5
            rintro _ rfl
            refine Rg.call rfl rfl E19 (rPutRising_spec (M := M) (sD.lt hMw) (hu8.le sD.le) hgr (by omega)) (fun v w2 h2 => ?_)
            exact Rg.nil ⟨rfl, rfl, _, rfl, h2.2, h2.1⟩
          refine Obls.cons ?_ ?_
          · intro wD E sD -- 6
            intro v5 hv5
            refine Rg.b2s (M := M) Try.underlying22 Try.underlying5 Try.underlying9 rfl rfl (by assumption) (by repeat (first | exact Le.refl _ _ | refine Le.trans (Step.le (by assumption)) ?_)) ?_
            exact Rg.nil ⟨rfl, rfl, _, rfl, rfl, Step.refl _ _⟩
          refine Obls.cons ?_ ?_
          · intro wD E sD -- 7
            rintro _ rfl
            rintro _ rfl
            refine Rg.cat rfl rfl rfl (by first | omega | (simp; omega)) ?_
            exact Rg.nil ⟨rfl, rfl, _, rfl, rfl, Step.refl _ _⟩
          refine Obls.cons ?_ ?_
          · intro wD E sD -- 8
            rintro _ rfl
            rintro _ rfl
            refine Rg.strne rfl rfl rfl ?_
            exact Rg.nil ⟨rfl, rfl, _, rfl, rfl, Step.refl _ _⟩
          refine Obls.cons ?_ ?_
          · intro wD E sD -- 9
            rintro _ rfl
            intro v5 hv5
            refine Rg.move rfl rfl ?_
            refine Rg.nil ⟨rfl, rfl, _, rfl, ?_, Step.refl _ _⟩
            exact congrArg Value.bool (decide_eq_false g10_9)
          refine Obls.cons ?_ ?_
          · intro wD E sD -- 10
            rintro _ rfl
            refine Rg.gyes rfl rfl ?_
            refine Rg.move rfl rfl ?_
            exact Rg.nil ⟨rfl, rfl, _, rfl, rfl, Step.refl _ _⟩
          refine Obls.cons ?_ ?_
          · intro wD E sD -- 11
            rintro _ rfl
            rintro _ rfl
            refine Rg.gyes rfl rfl ?_
            refine Rg.ine rfl rfl rfl ?_
            exact Rg.nil ⟨rfl, rfl, _, rfl, rfl, Step.refl _ _⟩
          refine Obls.cons ?_ ?_
          · intro wD E sD -- 12
            rintro _ rfl
            rintro _ rfl
            refine Rg.pickf rfl rfl rfl ?_
            exact Rg.nil ⟨rfl, rfl, _, rfl, rfl, Step.refl _ _⟩
          exact Obls.nil
        · -- behind it
          intro wD10 sD10
          rintro _ rfl
          rintro _ rfl
          rintro _ rfl
          rintro _ rfl
          rintro _ rfl
          intro v10_5 hv10_5
          rintro _ rfl
          rintro _ rfl
          rintro _ rfl
          rintro _ rfl
          rintro _ rfl
          rintro _ rfl
          rintro _ rfl
          replace ho9 := ho9.step0 (sD10.any M2)
          replace S9 := S9.trans0 (sD10.any M2)
          replace hu8 := hu8.le sD10.le
          replace hg2 := hg2.le (sD10.any M2).le
          refine T.iffp rfl ((fun h => h rfl)) ?_
          refine T.skip ?_
          refine T.seq ?_
          refine T.region ?_ -- region 12
          refine Rg.move rfl rfl ?_
          refine Rg.move rfl rfl ?_
          refine Rg.call rfl rfl E9 (few_spec (M := M2) (hc.le S9.le)) (fun u12 w12 h12 => ?_)
          obtain ⟨hu12, rfl⟩ := h12
          have hcl : (c.take 60).length ≤ 60 := (by rw [List.length_take]; omega)
          generalize c.take 60 = c1 at hu12 hcl
          refine Rg.append (M := M2) (base := w0.heap.size) Try.underlying22 I5 rfl rfl rfl rfl ho9 hu12 (Le.refl _ _) (by omega) (by omega) S9.size (fun v3 M3 w3 ho3 s3 => ?_)
          have S3 := S9.transBlk s3 ho9 (Nat.le_refl _)
          have hg3 := (hg2.le s3.le).le (Le.close hM S3)
          have hv3 : (RT.u8.sl).V M w3 (b1 ++ putRising g ++ c1) v3 := Own.close hM S3 ho3 (by simp only [List.length_append]; omega)
          refine Rg.move rfl rfl ?_
          first | refine Rg.lensl Try.underlying22 rfl (by assumption) rfl ?_ | refine Rg.lenown Try.underlying22 rfl (by assumption) rfl ?_
          refine Rg.call rfl rfl E20 (GetRising_spec (M := M) (S3.back.lt hM) hv3 (by omega) (by simp only [List.length_append]; omega)) (fun r13 w13 h13 => ?_)
          obtain ⟨y, h13, hy, s13⟩ := h13
          rw [getRising_put b1 c1 hgr (fun x hx => by have := hgl x hx; omega) (by omega)] at h13 hy
          subst h13
          have S13 := S3.back.trans0 s13
          refine Rg.move rfl rfl ?_
          refine Rg.extract rfl rfl rfl ?_
          refine Rg.extract rfl rfl rfl ?_
          refine Rg.extract rfl rfl rfl ?_
          refine Rg.assign rfl rfl ?_
          refine Rg.assign rfl rfl ?_
          refine Rg.assign rfl rfl ?_
          refine Rg.nil ?_
          refine T.seq ?_
          refine T.region ?_ -- region 13
          refine Rg.move rfl rfl ?_
          refine Rg.move rfl rfl ?_
          refine Rg.call rfl rfl E21 (Same_spec (M := M) (S13.lt hM) hy (hg3.le s13.le)) (fun r14 w14 h14 => ?_)
          obtain ⟨rfl, s14⟩ := h14
          replace S13 := S13.trans0 s14
          refine Rg.move rfl rfl ?_
          refine Rg.gtrue (g := 83) rfl (rfl) ?_
          refine Rg.gyes rfl rfl ?_
          refine Rg.move rfl rfl ?_
          refine Rg.gyes rfl rfl ?_
          refine Rg.move rfl rfl ?_
          refine Rg.gyes rfl rfl ?_
          first | refine Rg.lensl Try.underlying22 rfl (by assumption) rfl ?_ | refine Rg.lenown Try.underlying22 rfl (by assumption) rfl ?_
          refine Rg.gyes rfl rfl ?_
          refine Rg.ieq rfl rfl rfl ?_
          refine Rg.pickt rfl rfl rfl ?_
          refine Rg.move rfl rfl ?_
          refine Rg.gtrue (g := 89) rfl ((by rw [hl11])) ?_
          refine Rg.gyes rfl rfl ?_
          refine Rg.move rfl rfl ?_
          refine Rg.gyes rfl rfl ?_
          refine Rg.ieq rfl rfl rfl ?_
          refine Rg.pickt rfl rfl rfl ?_
          refine Rg.move rfl rfl ?_
          refine Rg.gtrue (g := 93) rfl (rfl) ?_
          refine Rg.gyes rfl rfl ?_
          refine Rg.call rfl rfl E12 (lives_spec (M := M) (S13.lt hM)) (fun rL wL hL => ?_)
          obtain ⟨rfl, sL⟩ := hL
          refine Rg.pickt rfl rfl rfl ?_
          refine Rg.assign rfl rfl ?_
          refine Rg.nil ?_
          refine T.ret ?_
          exact Kret1 rfl rfl ⟨rfl, S13.trans0 sL⟩
    · -- g6_7 False
      refine Rg.gno rfl rfl rfl rfl ?_
      refine Rg.gno rfl rfl rfl rfl ?_
      refine Rg.gno rfl rfl rfl rfl ?_
      refine Rg.gno rfl rfl rfl rfl ?_
      refine Rg.gnox rfl rfl rfl ?_
      refine Rg.gnox rfl rfl rfl ?_
      refine Rg.gno rfl rfl rfl rfl ?_
      refine Rg.gyes rfl rfl ?_
      refine Rg.pickf rfl rfl rfl ?_
      refine Rg.pickf rfl rfl rfl ?_
      refine Rg.nil ?_
      refine T.iff rfl ?_
      refine T.skip ?_
      refine T.seq ?_
      refine T.region ?_ -- region 8
      refine Rg.move rfl rfl ?_
      refine Rg.call rfl rfl E18 (Good_spec (M := M) (most := 20) (s5.lt (s4.lt hM)) ((hl1.le s4.le).le s5.le) (by decide)) (fun u8 w8 h8 => ?_)
      obtain ⟨s8, hu8⟩ := h8
      have S8 := (s4.trans0 s5).trans0 s8
      have hgr := good_rises l1 20
      have hgn := good_len l1 20
      have hgl := good_le l1 20
      generalize good l1 20 = g at hu8 hgr hgn hgl
      replace hu3 := hu3.le S8.le
      refine Rg.assign rfl rfl ?_
      refine Rg.nil ?_
      refine T.seq ?_
      refine T.region ?_ -- region 9
      refine Rg.move rfl rfl ?_
      refine Rg.move rfl rfl ?_
      refine Rg.call rfl rfl E17 (PutRising_own (M := M) (S8.lt hM) hu3 hu8 (by omega)) (fun r9 w9 h9 => ?_)
      obtain ⟨M2, x9, s9, h9, ho⟩ := h9
      simp only [hgr, if_true] at h9 ho
      subst h9
      have hpr : (putRising g).length ≤ 9 * (g.length + 1) := by have h1 := put_len9 (n := g.length) (by omega); have h2 := putR_len g (-1) (by decide) (fun x hx => by have := hgl x hx; omega) hgr; simp only [putRising, List.length_append]; omega
      have hl11 : (b1 ++ putRising g).length = b1.length + (putRising g).length := List.length_append
      have S9 := S8.trans0 s9
      have ho9 : Own RT.u8 5 M2 w9 w0.heap.size x9 (b1 ++ putRising g) := ho.rebase S8.size
      have hv9 : (RT.u8.sl).V M w9 (b1 ++ putRising g) x9 := Own.close hM S9 ho9 (by omega)
      have hMw := S9.back.lt hM
      have hg2 := hu8.le s9.le
      replace hu3 := hu3.le s9.back.le
      replace hu8 := hu8.le s9.back.le
      refine Rg.move rfl rfl ?_
      refine Rg.extract rfl rfl rfl ?_
      refine Rg.extract rfl rfl rfl ?_
      refine Rg.assign rfl rfl ?_
      refine Rg.assign rfl rfl ?_
      refine Rg.nil ?_
      refine T.seq ?_
      refine T.seq ?_
      by_cases g10_9 : b1 ++ putRising g ≠ b1 ++ putRising g
      · -- g10_9 True
        exact absurd rfl g10_9
      · -- g10_9 False
        apply T.draw (M := M) mixed [Asr.eq _, Asr.eq _, Asr.eq _, Asr.eq _, Asr.eq _, Asr.V (RT.u8.sl) (putRising g), Asr.eq _, Asr.eq _, Asr.eq _, Asr.eq (.bool false), Asr.eq _, Asr.eq _, Asr.eq _] -- region 10
        · rfl
        · -- its operations
          refine Obls.cons ?_ ?_
          · intro wD E sD -- 0
            refine Rg.move rfl rfl ?_
            exact Rg.nil ⟨rfl, rfl, _, rfl, rfl, Step.refl _ _⟩
          refine Obls.cons ?_ ?_
          · intro wD E sD -- 1
            rintro _ rfl
            refine Rg.b2s (M := M) Try.underlying22 Try.underlying5 Try.underlying9 rfl rfl (by assumption) (by repeat (first | exact Le.refl _ _ | refine Le.trans (Step.le (by assumption)) ?_)) ?_
            exact Rg.nil ⟨rfl, rfl, _, rfl, rfl, Step.refl _ _⟩
          refine Obls.cons ?_ ?_
          · intro wD E sD -- 2
            refine Rg.move rfl rfl ?_
            exact Rg.nil ⟨rfl, rfl, _, rfl, rfl, Step.refl _ _⟩
          refine Obls.cons ?_ ?_
          · intro wD E sD -- 3
            rintro _ rfl
            refine Rg.b2s (M := M) Try.underlying22 Try.underlying5 Try.underlying9 rfl rfl (by assumption) (by repeat (first | exact Le.refl _ _ | refine Le.trans (Step.le (by assumption)) ?_)) ?_
            exact Rg.nil ⟨rfl, rfl, _, rfl, rfl, Step.refl _ _⟩
          refine Obls.cons ?_ ?_
          · intro wD E sD -- 4
            refine Rg.move rfl rfl ?_
            exact Rg.nil ⟨rfl, rfl, _, rfl, rfl, Step.refl _ _⟩
          refine Obls.cons ?_ ?_
          · intro wD E sD -- 5
            rintro _ rfl
            refine Rg.call rfl rfl E19 (rPutRising_spec (M := M) (sD.lt hMw) (hu8.le sD.le) hgr (by omega)) (fun v w2 h2 => ?_)
            exact Rg.nil ⟨rfl, rfl, _, rfl, h2.2, h2.1⟩
          refine Obls.cons ?_ ?_
          · intro wD E sD -- 6
            intro v5 hv5
            refine Rg.b2s (M := M) Try.underlying22 Try.underlying5 Try.underlying9 rfl rfl (by assumption) (by repeat (first | exact Le.refl _ _ | refine Le.trans (Step.le (by assumption)) ?_)) ?_
            exact Rg.nil ⟨rfl, rfl, _, rfl, rfl, Step.refl _ _⟩
          refine Obls.cons ?_ ?_
          · intro wD E sD -- 7
            rintro _ rfl
            rintro _ rfl
            refine Rg.cat rfl rfl rfl (by first | omega | (simp; omega)) ?_
            exact Rg.nil ⟨rfl, rfl, _, rfl, rfl, Step.refl _ _⟩
          refine Obls.cons ?_ ?_
          · intro wD E sD -- 8
            rintro _ rfl
            rintro _ rfl
            refine Rg.strne rfl rfl rfl ?_
            exact Rg.nil ⟨rfl, rfl, _, rfl, rfl, Step.refl _ _⟩
          refine Obls.cons ?_ ?_
          · intro wD E sD -- 9
            rintro _ rfl
            intro v5 hv5
            refine Rg.move rfl rfl ?_
            refine Rg.nil ⟨rfl, rfl, _, rfl, ?_, Step.refl _ _⟩
            exact congrArg Value.bool (decide_eq_false g10_9)
          refine Obls.cons ?_ ?_
          · intro wD E sD -- 10
            rintro _ rfl
            refine Rg.gyes rfl rfl ?_
            refine Rg.move rfl rfl ?_
            exact Rg.nil ⟨rfl, rfl, _, rfl, rfl, Step.refl _ _⟩
          refine Obls.cons ?_ ?_
          · intro wD E sD -- 11
            rintro _ rfl
            rintro _ rfl
            refine Rg.gyes rfl rfl ?_
            refine Rg.ine rfl rfl rfl ?_
            exact Rg.nil ⟨rfl, rfl, _, rfl, rfl, Step.refl _ _⟩
          refine Obls.cons ?_ ?_
          · intro wD E sD -- 12
            rintro _ rfl
            rintro _ rfl
            refine Rg.pickf rfl rfl rfl ?_
            exact Rg.nil ⟨rfl, rfl, _, rfl, rfl, Step.refl _ _⟩
          exact Obls.nil
        · -- behind it
          intro wD10 sD10
          rintro _ rfl
          rintro _ rfl
          rintro _ rfl
          rintro _ rfl
          rintro _ rfl
          intro v10_5 hv10_5
          rintro _ rfl
          rintro _ rfl
          rintro _ rfl
          rintro _ rfl
          rintro _ rfl
          rintro _ rfl
          rintro _ rfl
          replace ho9 := ho9.step0 (sD10.any M2)
          replace S9 := S9.trans0 (sD10.any M2)
          replace hu8 := hu8.le sD10.le
          replace hg2 := hg2.le (sD10.any M2).le
          refine T.iffp rfl ((fun h => h rfl)) ?_
          refine T.skip ?_
          refine T.seq ?_
          refine T.region ?_ -- region 12
          refine Rg.move rfl rfl ?_
          refine Rg.move rfl rfl ?_
          refine Rg.call rfl rfl E9 (few_spec (M := M2) (hc.le S9.le)) (fun u12 w12 h12 => ?_)
          obtain ⟨hu12, rfl⟩ := h12
          have hcl : (c.take 60).length ≤ 60 := (by rw [List.length_take]; omega)
          generalize c.take 60 = c1 at hu12 hcl
          refine Rg.append (M := M2) (base := w0.heap.size) Try.underlying22 I5 rfl rfl rfl rfl ho9 hu12 (Le.refl _ _) (by omega) (by omega) S9.size (fun v3 M3 w3 ho3 s3 => ?_)
          have S3 := S9.transBlk s3 ho9 (Nat.le_refl _)
          have hg3 := (hg2.le s3.le).le (Le.close hM S3)
          have hv3 : (RT.u8.sl).V M w3 (b1 ++ putRising g ++ c1) v3 := Own.close hM S3 ho3 (by simp only [List.length_append]; omega)
          refine Rg.move rfl rfl ?_
          first | refine Rg.lensl Try.underlying22 rfl (by assumption) rfl ?_ | refine Rg.lenown Try.underlying22 rfl (by assumption) rfl ?_
          refine Rg.call rfl rfl E20 (GetRising_spec (M := M) (S3.back.lt hM) hv3 (by omega) (by simp only [List.length_append]; omega)) (fun r13 w13 h13 => ?_)
          obtain ⟨y, h13, hy, s13⟩ := h13
          rw [getRising_put b1 c1 hgr (fun x hx => by have := hgl x hx; omega) (by omega)] at h13 hy
          subst h13
          have S13 := S3.back.trans0 s13
          refine Rg.move rfl rfl ?_
          refine Rg.extract rfl rfl rfl ?_
          refine Rg.extract rfl rfl rfl ?_
          refine Rg.extract rfl rfl rfl ?_
          refine Rg.assign rfl rfl ?_
          refine Rg.assign rfl rfl ?_
          refine Rg.assign rfl rfl ?_
          refine Rg.nil ?_
          refine T.seq ?_
          refine T.region ?_ -- region 13
          refine Rg.move rfl rfl ?_
          refine Rg.move rfl rfl ?_
          refine Rg.call rfl rfl E21 (Same_spec (M := M) (S13.lt hM) hy (hg3.le s13.le)) (fun r14 w14 h14 => ?_)
          obtain ⟨rfl, s14⟩ := h14
          replace S13 := S13.trans0 s14
          refine Rg.move rfl rfl ?_
          refine Rg.gtrue (g := 83) rfl (rfl) ?_
          refine Rg.gyes rfl rfl ?_
          refine Rg.move rfl rfl ?_
          refine Rg.gyes rfl rfl ?_
          refine Rg.move rfl rfl ?_
          refine Rg.gyes rfl rfl ?_
          first | refine Rg.lensl Try.underlying22 rfl (by assumption) rfl ?_ | refine Rg.lenown Try.underlying22 rfl (by assumption) rfl ?_
          refine Rg.gyes rfl rfl ?_
          refine Rg.ieq rfl rfl rfl ?_
          refine Rg.pickt rfl rfl rfl ?_
          refine Rg.move rfl rfl ?_
          refine Rg.gtrue (g := 89) rfl ((by rw [hl11])) ?_
          refine Rg.gyes rfl rfl ?_
          refine Rg.move rfl rfl ?_
          refine Rg.gyes rfl rfl ?_
          refine Rg.ieq rfl rfl rfl ?_
          refine Rg.pickt rfl rfl rfl ?_
          refine Rg.move rfl rfl ?_
          refine Rg.gtrue (g := 93) rfl (rfl) ?_
          refine Rg.gyes rfl rfl ?_
          refine Rg.call rfl rfl E12 (lives_spec (M := M) (S13.lt hM)) (fun rL wL hL => ?_)
          obtain ⟨rfl, sL⟩ := hL
          refine Rg.pickt rfl rfl rfl ?_
          refine Rg.assign rfl rfl ?_
          refine Rg.nil ?_
          refine T.ret ?_
          exact Kret1 rfl rfl ⟨rfl, S13.trans0 sL⟩
  · -- c1 False
    obtain ⟨l1, hl1, hll⟩ : ∃ l1, ((RT.int .i64).sl).V M w0 l1 v ∧ l1.length ≤ 20 := ⟨l, hv, by omega⟩
    clear hv
    refine T.skip ?_
    refine T.seq ?_
    refine T.region ?_ -- region 3
    refine Rg.move rfl rfl ?_
    refine Rg.call rfl rfl E9 (few_spec (M := M) (hb)) (fun u3 w3 h3 => ?_)
    obtain ⟨hu3, rfl⟩ := h3
    have hbl : (b.take 60).length ≤ 60 := (by rw [List.length_take]; omega)
    generalize b.take 60 = b1 at hu3 hbl
    refine Rg.assign rfl rfl ?_
    refine Rg.nil ?_
    refine T.seq ?_
    refine T.region ?_ -- region 4
    refine Rg.move rfl rfl ?_
    refine Rg.call rfl rfl E16 (Rises_spec (M := M) hM hl1) (fun r4 w4 h4 => ?_)
    obtain ⟨rfl, s4⟩ := h4
    refine Rg.assign rfl rfl ?_
    refine Rg.nil ?_
    refine T.seq ?_
    refine T.region ?_ -- region 5
    refine Rg.move rfl rfl ?_
    refine Rg.move rfl rfl ?_
    refine Rg.call rfl rfl E17 (PutRising_spec (M := M) (s4.lt hM) (hu3.le s4.le) (hl1.le s4.le) (by omega)) (fun r5 w5 h5 => ?_)
    obtain ⟨x5, s5, rfl, hx5⟩ := h5
    refine Rg.move rfl rfl ?_
    refine Rg.extract rfl rfl rfl ?_
    refine Rg.extract rfl rfl rfl ?_
    refine Rg.assign rfl rfl ?_
    refine Rg.assign rfl rfl ?_
    refine Rg.nil ?_
    refine T.seq ?_
    refine T.seq ?_
    refine T.region ?_ -- region 6
    refine Rg.move rfl rfl ?_
    refine Rg.ieq rfl rfl rfl ?_
    refine Rg.move rfl rfl ?_
    refine Rg.bne Try.underlying4 rfl rfl rfl ?_
    refine Rg.move rfl rfl ?_
    refine Rg.gfalse (g := 35) rfl ((by cases rises (-1) l1 <;> simp)) ?_
    refine Rg.gyes rfl rfl ?_
    refine Rg.move rfl rfl ?_
    refine Rg.gyes rfl rfl ?_
    refine Rg.not rfl rfl ?_
    refine Rg.eqv (v' := .bool (decide (¬ rises (-1) l1 = true))) (by simp) ?_
    refine Rg.gyes rfl rfl ?_
    refine Rg.move rfl rfl ?_
    refine Rg.gsplitp (g := 38) rfl (fun g6_7 => ?_) (fun g6_7 => ?_)
    · -- g6_7 True
      refine Rg.gyes rfl rfl ?_
      refine Rg.move rfl rfl ?_
      refine Rg.gyes rfl rfl ?_
      first | refine Rg.lensl Try.underlying22 rfl (by assumption) rfl ?_ | refine Rg.lenown Try.underlying22 rfl (by assumption) rfl ?_
      refine Rg.gyes rfl rfl ?_
      refine Rg.ine rfl rfl rfl ?_
      refine Rg.gyes rfl rfl ?_
      refine Rg.move rfl rfl ?_
      refine Rg.gfalse (g := 42) rfl ((by rw [if_neg g6_7]; simp)) ?_
      refine Rg.gyes rfl rfl ?_
      refine Rg.move rfl rfl ?_
      refine Rg.gyes rfl rfl ?_
      refine Rg.ine rfl rfl rfl ?_
      refine Rg.gyes rfl rfl ?_
      refine Rg.pickf rfl rfl rfl ?_
      refine Rg.gyes rfl rfl ?_
      refine Rg.pickt rfl rfl rfl ?_
      refine Rg.pickf rfl rfl rfl ?_
      refine Rg.nil ?_
      refine T.iffp rfl ((by rw [if_neg g6_7]; simp)) ?_
      refine T.skip ?_
      refine T.seq ?_
      refine T.region ?_ -- region 8
      refine Rg.move rfl rfl ?_
      refine Rg.call rfl rfl E18 (Good_spec (M := M) (most := 20) (s5.lt (s4.lt hM)) ((hl1.le s4.le).le s5.le) (by decide)) (fun u8 w8 h8 => ?_)
      obtain ⟨s8, hu8⟩ := h8
      have S8 := (s4.trans0 s5).trans0 s8
      have hgr := good_rises l1 20
      have hgn := good_len l1 20
      have hgl := good_le l1 20
      generalize good l1 20 = g at hu8 hgr hgn hgl
      replace hu3 := hu3.le S8.le
      refine Rg.assign rfl rfl ?_
      refine Rg.nil ?_
      refine T.seq ?_
      refine T.region ?_ -- region 9
      refine Rg.move rfl rfl ?_
      refine Rg.move rfl rfl ?_
      refine Rg.call rfl rfl E17 (PutRising_own (M := M) (S8.lt hM) hu3 hu8 (by omega)) (fun r9 w9 h9 => ?_)
      obtain ⟨M2, x9, s9, h9, ho⟩ := h9
      simp only [hgr, if_true] at h9 ho
      subst h9
      have hpr : (putRising g).length ≤ 9 * (g.length + 1) := by have h1 := put_len9 (n := g.length) (by omega); have h2 := putR_len g (-1) (by decide) (fun x hx => by have := hgl x hx; omega) hgr; simp only [putRising, List.length_append]; omega
      have hl11 : (b1 ++ putRising g).length = b1.length + (putRising g).length := List.length_append
      have S9 := S8.trans0 s9
      have ho9 : Own RT.u8 5 M2 w9 w0.heap.size x9 (b1 ++ putRising g) := ho.rebase S8.size
      have hv9 : (RT.u8.sl).V M w9 (b1 ++ putRising g) x9 := Own.close hM S9 ho9 (by omega)
      have hMw := S9.back.lt hM
      have hg2 := hu8.le s9.le
      replace hu3 := hu3.le s9.back.le
      replace hu8 := hu8.le s9.back.le
      refine Rg.move rfl rfl ?_
      refine Rg.extract rfl rfl rfl ?_
      refine Rg.extract rfl rfl rfl ?_
      refine Rg.assign rfl rfl ?_
      refine Rg.assign rfl rfl ?_
      refine Rg.nil ?_
      refine T.seq ?_
      refine T.seq ?_
      by_cases g10_9 : b1 ++ putRising g ≠ b1 ++ putRising g
      · -- g10_9 True
        exact absurd rfl g10_9
      · -- g10_9 False
        apply T.draw (M := M) mixed [Asr.eq _, Asr.eq _, Asr.eq _, Asr.eq _, Asr.eq _, Asr.V (RT.u8.sl) (putRising g), Asr.eq _, Asr.eq _, Asr.eq _, Asr.eq (.bool false), Asr.eq _, Asr.eq _, Asr.eq _] -- region 10
        · rfl
        · -- its operations
          refine Obls.cons ?_ ?_
          · intro wD E sD -- 0
            refine Rg.move rfl rfl ?_
            exact Rg.nil ⟨rfl, rfl, _, rfl, rfl, Step.refl _ _⟩
          refine Obls.cons ?_ ?_
          · intro wD E sD -- 1
            rintro _ rfl
            refine Rg.b2s (M := M) Try.underlying22 Try.underlying5 Try.underlying9 rfl rfl (by assumption) (by repeat (first | exact Le.refl _ _ | refine Le.trans (Step.le (by assumption)) ?_)) ?_
            exact Rg.nil ⟨rfl, rfl, _, rfl, rfl, Step.refl _ _⟩
          refine Obls.cons ?_ ?_
          · intro wD E sD -- 2
            refine Rg.move rfl rfl ?_
            exact Rg.nil ⟨rfl, rfl, _, rfl, rfl, Step.refl _ _⟩
          refine Obls.cons ?_ ?_
          · intro wD E sD -- 3
            rintro _ rfl
            refine Rg.b2s (M := M) Try.underlying22 Try.underlying5 Try.underlying9 rfl rfl (by assumption) (by repeat (first | exact Le.refl _ _ | refine Le.trans (Step.le (by assumption)) ?_)) ?_
            exact Rg.nil ⟨rfl, rfl, _, rfl, rfl, Step.refl _ _⟩
          refine Obls.cons ?_ ?_
          · intro wD E sD -- 4
            refine Rg.move rfl rfl ?_
            exact Rg.nil ⟨rfl, rfl, _, rfl, rfl, Step.refl _ _⟩
          refine Obls.cons ?_ ?_
          · intro wD E sD -- 5
            rintro _ rfl
            refine Rg.call rfl rfl E19 (rPutRising_spec (M := M) (sD.lt hMw) (hu8.le sD.le) hgr (by omega)) (fun v w2 h2 => ?_)
            exact Rg.nil ⟨rfl, rfl, _, rfl, h2.2, h2.1⟩
          refine Obls.cons ?_ ?_
          · intro wD E sD -- 6
            intro v5 hv5
            refine Rg.b2s (M := M) Try.underlying22 Try.underlying5 Try.underlying9 rfl rfl (by assumption) (by repeat (first | exact Le.refl _ _ | refine Le.trans (Step.le (by assumption)) ?_)) ?_
            exact Rg.nil ⟨rfl, rfl, _, rfl, rfl, Step.refl _ _⟩
          refine Obls.cons ?_ ?_
          · intro wD E sD -- 7
            rintro _ rfl
            rintro _ rfl
            refine Rg.cat rfl rfl rfl (by first | omega | (simp; omega)) ?_
            exact Rg.nil ⟨rfl, rfl, _, rfl, rfl, Step.refl _ _⟩
          refine Obls.cons ?_ ?_
          · intro wD E sD -- 8
            rintro _ rfl
            rintro _ rfl
            refine Rg.strne rfl rfl rfl ?_
            exact Rg.nil ⟨rfl, rfl, _, rfl, rfl, Step.refl _ _⟩
          refine Obls.cons ?_ ?_
          · intro wD E sD -- 9
            rintro _ rfl
            intro v5 hv5
            refine Rg.move rfl rfl ?_
            refine Rg.nil ⟨rfl, rfl, _, rfl, ?_, Step.refl _ _⟩
            exact congrArg Value.bool (decide_eq_false g10_9)
          refine Obls.cons ?_ ?_
          · intro wD E sD -- 10
            rintro _ rfl
            refine Rg.gyes rfl rfl ?_
            refine Rg.move rfl rfl ?_
            exact Rg.nil ⟨rfl, rfl, _, rfl, rfl, Step.refl _ _⟩
          refine Obls.cons ?_ ?_
          · intro wD E sD -- 11
            rintro _ rfl
            rintro _ rfl
            refine Rg.gyes rfl rfl ?_
            refine Rg.ine rfl rfl rfl ?_
            exact Rg.nil ⟨rfl, rfl, _, rfl, rfl, Step.refl _ _⟩
          refine Obls.cons ?_ ?_
          · intro wD E sD -- 12
            rintro _ rfl
            rintro _ rfl
            refine Rg.pickf rfl rfl rfl ?_
            exact Rg.nil ⟨rfl, rfl, _, rfl, rfl, Step.refl _ _⟩
          exact Obls.nil
        · -- behind it
          intro wD10 sD10
          rintro _ rfl
          rintro _ rfl
          rintro _ rfl
          rintro _ rfl
          rintro _ rfl
          intro v10_5 hv10_5
          rintro _ rfl
          rintro _ rfl
          rintro _ rfl
          rintro _ rfl
          rintro _ rfl
          rintro _ rfl
          rintro _ rfl
          replace ho9 := ho9.step0 (sD10.any M2)
          replace S9 := S9.trans0 (sD10.any M2)
          replace hu8 := hu8.le sD10.le
          replace hg2 := hg2.le (sD10.any M2).le
          refine T.iffp rfl ((fun h => h rfl)) ?_
          refine T.skip ?_
          refine T.seq ?_
          refine T.region ?_ -- region 12
          refine Rg.move rfl rfl ?_
          refine Rg.move rfl rfl ?_
          refine Rg.call rfl rfl E9 (few_spec (M := M2) (hc.le S9.le)) (fun u12 w12 h12 => ?_)
          obtain ⟨hu12, rfl⟩ := h12
          have hcl : (c.take 60).length ≤ 60 := (by rw [List.length_take]; omega)
          generalize c.take 60 = c1 at hu12 hcl
          refine Rg.append (M := M2) (base := w0.heap.size) Try.underlying22 I5 rfl rfl rfl rfl ho9 hu12 (Le.refl _ _) (by omega) (by omega) S9.size (fun v3 M3 w3 ho3 s3 => ?_)
          have S3 := S9.transBlk s3 ho9 (Nat.le_refl _)
          have hg3 := (hg2.le s3.le).le (Le.close hM S3)
          have hv3 : (RT.u8.sl).V M w3 (b1 ++ putRising g ++ c1) v3 := Own.close hM S3 ho3 (by simp only [List.length_append]; omega)
          refine Rg.move rfl rfl ?_
          first | refine Rg.lensl Try.underlying22 rfl (by assumption) rfl ?_ | refine Rg.lenown Try.underlying22 rfl (by assumption) rfl ?_
          refine Rg.call rfl rfl E20 (GetRising_spec (M := M) (S3.back.lt hM) hv3 (by omega) (by simp only [List.length_append]; omega)) (fun r13 w13 h13 => ?_)
          obtain ⟨y, h13, hy, s13⟩ := h13
          rw [getRising_put b1 c1 hgr (fun x hx => by have := hgl x hx; omega) (by omega)] at h13 hy
          subst h13
          have S13 := S3.back.trans0 s13
          refine Rg.move rfl rfl ?_
          refine Rg.extract rfl rfl rfl ?_
          refine Rg.extract rfl rfl rfl ?_
          refine Rg.extract rfl rfl rfl ?_
          refine Rg.assign rfl rfl ?_
          refine Rg.assign rfl rfl ?_
          refine Rg.assign rfl rfl ?_
          refine Rg.nil ?_
          refine T.seq ?_
          refine T.region ?_ -- region 13
          refine Rg.move rfl rfl ?_
          refine Rg.move rfl rfl ?_
          refine Rg.call rfl rfl E21 (Same_spec (M := M) (S13.lt hM) hy (hg3.le s13.le)) (fun r14 w14 h14 => ?_)
          obtain ⟨rfl, s14⟩ := h14
          replace S13 := S13.trans0 s14
          refine Rg.move rfl rfl ?_
          refine Rg.gtrue (g := 83) rfl (rfl) ?_
          refine Rg.gyes rfl rfl ?_
          refine Rg.move rfl rfl ?_
          refine Rg.gyes rfl rfl ?_
          refine Rg.move rfl rfl ?_
          refine Rg.gyes rfl rfl ?_
          first | refine Rg.lensl Try.underlying22 rfl (by assumption) rfl ?_ | refine Rg.lenown Try.underlying22 rfl (by assumption) rfl ?_
          refine Rg.gyes rfl rfl ?_
          refine Rg.ieq rfl rfl rfl ?_
          refine Rg.pickt rfl rfl rfl ?_
          refine Rg.move rfl rfl ?_
          refine Rg.gtrue (g := 89) rfl ((by rw [hl11])) ?_
          refine Rg.gyes rfl rfl ?_
          refine Rg.move rfl rfl ?_
          refine Rg.gyes rfl rfl ?_
          refine Rg.ieq rfl rfl rfl ?_
          refine Rg.pickt rfl rfl rfl ?_
          refine Rg.move rfl rfl ?_
          refine Rg.gtrue (g := 93) rfl (rfl) ?_
          refine Rg.gyes rfl rfl ?_
          refine Rg.call rfl rfl E12 (lives_spec (M := M) (S13.lt hM)) (fun rL wL hL => ?_)
          obtain ⟨rfl, sL⟩ := hL
          refine Rg.pickt rfl rfl rfl ?_
          refine Rg.assign rfl rfl ?_
          refine Rg.nil ?_
          refine T.ret ?_
          exact Kret1 rfl rfl ⟨rfl, S13.trans0 sL⟩
    · -- g6_7 False
      refine Rg.gno rfl rfl rfl rfl ?_
      refine Rg.gno rfl rfl rfl rfl ?_
      refine Rg.gno rfl rfl rfl rfl ?_
      refine Rg.gno rfl rfl rfl rfl ?_
      refine Rg.gnox rfl rfl rfl ?_
      refine Rg.gnox rfl rfl rfl ?_
      refine Rg.gno rfl rfl rfl rfl ?_
      refine Rg.gyes rfl rfl ?_
      refine Rg.pickf rfl rfl rfl ?_
      refine Rg.pickf rfl rfl rfl ?_
      refine Rg.nil ?_
      refine T.iff rfl ?_
      refine T.skip ?_
      refine T.seq ?_
      refine T.region ?_ -- region 8
      refine Rg.move rfl rfl ?_
      refine Rg.call rfl rfl E18 (Good_spec (M := M) (most := 20) (s5.lt (s4.lt hM)) ((hl1.le s4.le).le s5.le) (by decide)) (fun u8 w8 h8 => ?_)
      obtain ⟨s8, hu8⟩ := h8
      have S8 := (s4.trans0 s5).trans0 s8
      have hgr := good_rises l1 20
      have hgn := good_len l1 20
      have hgl := good_le l1 20
      generalize good l1 20 = g at hu8 hgr hgn hgl
      replace hu3 := hu3.le S8.le
      refine Rg.assign rfl rfl ?_
      refine Rg.nil ?_
      refine T.seq ?_
      refine T.region ?_ -- region 9
      refine Rg.move rfl rfl ?_
      refine Rg.move rfl rfl ?_
      refine Rg.call rfl rfl E17 (PutRising_own (M := M) (S8.lt hM) hu3 hu8 (by omega)) (fun r9 w9 h9 => ?_)
      obtain ⟨M2, x9, s9, h9, ho⟩ := h9
      simp only [hgr, if_true] at h9 ho
      subst h9
      have hpr : (putRising g).length ≤ 9 * (g.length + 1) := by have h1 := put_len9 (n := g.length) (by omega); have h2 := putR_len g (-1) (by decide) (fun x hx => by have := hgl x hx; omega) hgr; simp only [putRising, List.length_append]; omega
      have hl11 : (b1 ++ putRising g).length = b1.length + (putRising g).length := List.length_append
      have S9 := S8.trans0 s9
      have ho9 : Own RT.u8 5 M2 w9 w0.heap.size x9 (b1 ++ putRising g) := ho.rebase S8.size
      have hv9 : (RT.u8.sl).V M w9 (b1 ++ putRising g) x9 := Own.close hM S9 ho9 (by omega)
      have hMw := S9.back.lt hM
      have hg2 := hu8.le s9.le
      replace hu3 := hu3.le s9.back.le
      replace hu8 := hu8.le s9.back.le
      refine Rg.move rfl rfl ?_
      refine Rg.extract rfl rfl rfl ?_
      refine Rg.extract rfl rfl rfl ?_
      refine Rg.assign rfl rfl ?_
      refine Rg.assign rfl rfl ?_
      refine Rg.nil ?_
      refine T.seq ?_
      refine T.seq ?_
      by_cases g10_9 : b1 ++ putRising g ≠ b1 ++ putRising g
      · -- g10_9 True
        exact absurd rfl g10_9
      · -- g10_9 False
        apply T.draw (M := M) mixed [Asr.eq _, Asr.eq _, Asr.eq _, Asr.eq _, Asr.eq _, Asr.V (RT.u8.sl) (putRising g), Asr.eq _, Asr.eq _, Asr.eq _, Asr.eq (.bool false), Asr.eq _, Asr.eq _, Asr.eq _] -- region 10
        · rfl
        · -- its operations
          refine Obls.cons ?_ ?_
          · intro wD E sD -- 0
            refine Rg.move rfl rfl ?_
            exact Rg.nil ⟨rfl, rfl, _, rfl, rfl, Step.refl _ _⟩
          refine Obls.cons ?_ ?_
          · intro wD E sD -- 1
            rintro _ rfl
            refine Rg.b2s (M := M) Try.underlying22 Try.underlying5 Try.underlying9 rfl rfl (by assumption) (by repeat (first | exact Le.refl _ _ | refine Le.trans (Step.le (by assumption)) ?_)) ?_
            exact Rg.nil ⟨rfl, rfl, _, rfl, rfl, Step.refl _ _⟩
          refine Obls.cons ?_ ?_
          · intro wD E sD -- 2
            refine Rg.move rfl rfl ?_
            exact Rg.nil ⟨rfl, rfl, _, rfl, rfl, Step.refl _ _⟩
          refine Obls.cons ?_ ?_
          · intro wD E sD -- 3
            rintro _ rfl
            refine Rg.b2s (M := M) Try.underlying22 Try.underlying5 Try.underlying9 rfl rfl (by assumption) (by repeat (first | exact Le.refl _ _ | refine Le.trans (Step.le (by assumption)) ?_)) ?_
            exact Rg.nil ⟨rfl, rfl, _, rfl, rfl, Step.refl _ _⟩
          refine Obls.cons ?_ ?_
          · intro wD E sD -- 4
            refine Rg.move rfl rfl ?_
            exact Rg.nil ⟨rfl, rfl, _, rfl, rfl, Step.refl _ _⟩
          refine Obls.cons ?_ ?_
          · intro wD E sD -- 5
            rintro _ rfl
            refine Rg.call rfl rfl E19 (rPutRising_spec (M := M) (sD.lt hMw) (hu8.le sD.le) hgr (by omega)) (fun v w2 h2 => ?_)
            exact Rg.nil ⟨rfl, rfl, _, rfl, h2.2, h2.1⟩
          refine Obls.cons ?_ ?_
          · intro wD E sD -- 6
            intro v5 hv5
            refine Rg.b2s (M := M) Try.underlying22 Try.underlying5 Try.underlying9 rfl rfl (by assumption) (by repeat (first | exact Le.refl _ _ | refine Le.trans (Step.le (by assumption)) ?_)) ?_
            exact Rg.nil ⟨rfl, rfl, _, rfl, rfl, Step.refl _ _⟩
          refine Obls.cons ?_ ?_
          · intro wD E sD -- 7
            rintro _ rfl
            rintro _ rfl
            refine Rg.cat rfl rfl rfl (by first | omega | (simp; omega)) ?_
            exact Rg.nil ⟨rfl, rfl, _, rfl, rfl, Step.refl _ _⟩
          refine Obls.cons ?_ ?_
          · intro wD E sD -- 8
            rintro _ rfl
            rintro _ rfl
            refine Rg.strne rfl rfl rfl ?_
            exact Rg.nil ⟨rfl, rfl, _, rfl, rfl, Step.refl _ _⟩
          refine Obls.cons ?_ ?_
          · intro wD E sD -- 9
            rintro _ rfl
            intro v5 hv5
            refine Rg.move rfl rfl ?_
            refine Rg.nil ⟨rfl, rfl, _, rfl, ?_, Step.refl _ _⟩
            exact congrArg Value.bool (decide_eq_false g10_9)
          refine Obls.cons ?_ ?_
          · intro wD E sD -- 10
            rintro _ rfl
            refine Rg.gyes rfl rfl ?_
            refine Rg.move rfl rfl ?_
            exact Rg.nil ⟨rfl, rfl, _, rfl, rfl, Step.refl _ _⟩
          refine Obls.cons ?_ ?_
          · intro wD E sD -- 11
            rintro _ rfl
            rintro _ rfl
            refine Rg.gyes rfl rfl ?_
            refine Rg.ine rfl rfl rfl ?_
            exact Rg.nil ⟨rfl, rfl, _, rfl, rfl, Step.refl _ _⟩
          refine Obls.cons ?_ ?_
          · intro wD E sD -- 12
            rintro _ rfl
            rintro _ rfl
            refine Rg.pickf rfl rfl rfl ?_
            exact Rg.nil ⟨rfl, rfl, _, rfl, rfl, Step.refl _ _⟩
          exact Obls.nil
        · -- behind it
          intro wD10 sD10
          rintro _ rfl
          rintro _ rfl
          rintro _ rfl
          rintro _ rfl
          rintro _ rfl
          intro v10_5 hv10_5
          rintro _ rfl
          rintro _ rfl
          rintro _ rfl
          rintro _ rfl
          rintro _ rfl
          rintro _ rfl
          rintro _ rfl
          replace ho9 := ho9.step0 (sD10.any M2)
          replace S9 := S9.trans0 (sD10.any M2)
          replace hu8 := hu8.le sD10.le
          replace hg2 := hg2.le (sD10.any M2).le
          refine T.iffp rfl ((fun h => h rfl)) ?_
          refine T.skip ?_
          refine T.seq ?_
          refine T.region ?_ -- region 12
          refine Rg.move rfl rfl ?_
          refine Rg.move rfl rfl ?_
          refine Rg.call rfl rfl E9 (few_spec (M := M2) (hc.le S9.le)) (fun u12 w12 h12 => ?_)
          obtain ⟨hu12, rfl⟩ := h12
          have hcl : (c.take 60).length ≤ 60 := (by rw [List.length_take]; omega)
          generalize c.take 60 = c1 at hu12 hcl
          refine Rg.append (M := M2) (base := w0.heap.size) Try.underlying22 I5 rfl rfl rfl rfl ho9 hu12 (Le.refl _ _) (by omega) (by omega) S9.size (fun v3 M3 w3 ho3 s3 => ?_)
          have S3 := S9.transBlk s3 ho9 (Nat.le_refl _)
          have hg3 := (hg2.le s3.le).le (Le.close hM S3)
          have hv3 : (RT.u8.sl).V M w3 (b1 ++ putRising g ++ c1) v3 := Own.close hM S3 ho3 (by simp only [List.length_append]; omega)
          refine Rg.move rfl rfl ?_
          first | refine Rg.lensl Try.underlying22 rfl (by assumption) rfl ?_ | refine Rg.lenown Try.underlying22 rfl (by assumption) rfl ?_
          refine Rg.call rfl rfl E20 (GetRising_spec (M := M) (S3.back.lt hM) hv3 (by omega) (by simp only [List.length_append]; omega)) (fun r13 w13 h13 => ?_)
          obtain ⟨y, h13, hy, s13⟩ := h13
          rw [getRising_put b1 c1 hgr (fun x hx => by have := hgl x hx; omega) (by omega)] at h13 hy
          subst h13
          have S13 := S3.back.trans0 s13
          refine Rg.move rfl rfl ?_
          refine Rg.extract rfl rfl rfl ?_
          refine Rg.extract rfl rfl rfl ?_
          refine Rg.extract rfl rfl rfl ?_
          refine Rg.assign rfl rfl ?_
          refine Rg.assign rfl rfl ?_
          refine Rg.assign rfl rfl ?_
          refine Rg.nil ?_
          refine T.seq ?_
          refine T.region ?_ -- region 13
          refine Rg.move rfl rfl ?_
          refine Rg.move rfl rfl ?_
          refine Rg.call rfl rfl E21 (Same_spec (M := M) (S13.lt hM) hy (hg3.le s13.le)) (fun r14 w14 h14 => ?_)
          obtain ⟨rfl, s14⟩ := h14
          replace S13 := S13.trans0 s14
          refine Rg.move rfl rfl ?_
          refine Rg.gtrue (g := 83) rfl (rfl) ?_
          refine Rg.gyes rfl rfl ?_
          refine Rg.move rfl rfl ?_
          refine Rg.gyes rfl rfl ?_
          refine Rg.move rfl rfl ?_
          refine Rg.gyes rfl rfl ?_
          first | refine Rg.lensl Try.underlying22 rfl (by assumption) rfl ?_ | refine Rg.lenown Try.underlying22 rfl (by assumption) rfl ?_
          refine Rg.gyes rfl rfl ?_
          refine Rg.ieq rfl rfl rfl ?_
          refine Rg.pickt rfl rfl rfl ?_
          refine Rg.move rfl rfl ?_
          refine Rg.gtrue (g := 89) rfl ((by rw [hl11])) ?_
          refine Rg.gyes rfl rfl ?_
          refine Rg.move rfl rfl ?_
          refine Rg.gyes rfl rfl ?_
          refine Rg.ieq rfl rfl rfl ?_
          refine Rg.pickt rfl rfl rfl ?_
          refine Rg.move rfl rfl ?_
          refine Rg.gtrue (g := 93) rfl (rfl) ?_
          refine Rg.gyes rfl rfl ?_
          refine Rg.call rfl rfl E12 (lives_spec (M := M) (S13.lt hM)) (fun rL wL hL => ?_)
          obtain ⟨rfl, sL⟩ := hL
          refine Rg.pickt rfl rfl rfl ?_
          refine Rg.assign rfl rfl ?_
          refine Rg.nil ?_
          refine T.ret ?_
          exact Kret1 rfl rfl ⟨rfl, S13.trans0 sL⟩

/-- 'concordance/concordancelaw04.VintTakes' -/
theorem VintTakes_spec {M : PSet} {w0 : World} {v : Value} {b : List UInt8} {at_ : Int} (hM : Lt M w0) (hv : (RT.u8.sl).V M w0 b v) (hat : -9223372036854775808 ≤ at_ ∧ at_ ≤ 9223372036854775807) :
    Spec Try.prog 8 #[v, .int .i64 at_] w0 (fun v' w' => v' = .bool true ∧ Step M w0 M w' none') := by
  refine spec_of (args := [v, .int .i64 at_]) (fn := Try.f8) Try.func8 rfl (n := 43) Try.ntmps8 ?_
  refine T.seq ?_
  refine T.region ?_ -- region 0
  refine Rg.assign rfl rfl ?_
  refine Rg.nil ?_
  refine T.seq ?_
  refine T.region ?_ -- region 1
  refine Rg.move rfl rfl ?_
  refine Rg.call rfl rfl E9 (few_spec (M := M) (hv)) (fun u1 w1 h1 => ?_)
  obtain ⟨hu1, rfl⟩ := h1
  have hbl : (b.take 60).length ≤ 60 := (by rw [List.length_take]; omega)
  generalize b.take 60 = b1 at hu1 hbl
  refine Rg.assign rfl rfl ?_
  refine Rg.nil ?_
  refine T.seq ?_
  refine T.region ?_ -- region 2
  refine Rg.move rfl rfl ?_
  refine Rg.move rfl rfl ?_
  refine Rg.call rfl rfl E20 (GetRising_spec (M := M) hM hu1 hat (by omega)) (fun r2 w2 h2 => ?_)
  obtain ⟨x2, rfl, hx2, s2⟩ := h2
  refine Rg.move rfl rfl ?_
  refine Rg.extract rfl rfl rfl ?_
  refine Rg.extract rfl rfl rfl ?_
  refine Rg.extract rfl rfl rfl ?_
  refine Rg.assign rfl rfl ?_
  refine Rg.assign rfl rfl ?_
  refine Rg.assign rfl rfl ?_
  refine Rg.nil ?_
  refine T.seq ?_
  refine T.region ?_ -- region 3
  refine Rg.move rfl rfl ?_
  refine Rg.move rfl rfl ?_
  refine Rg.call rfl rfl E22 (rGetRising_spec (M := M) (s2.lt hM) (hu1.le s2.le) hat (by omega)) (fun r3 w3 h3 => ?_)
  obtain ⟨x3, rfl, hx3, s3⟩ := h3
  refine Rg.move rfl rfl ?_
  refine Rg.extract rfl rfl rfl ?_
  refine Rg.extract rfl rfl rfl ?_
  refine Rg.extract rfl rfl rfl ?_
  refine Rg.assign rfl rfl ?_
  refine Rg.assign rfl rfl ?_
  refine Rg.assign rfl rfl ?_
  refine Rg.nil ?_
  refine T.seq ?_
  refine T.region ?_ -- region 4
  refine Rg.move rfl rfl ?_
  refine Rg.move rfl rfl ?_
  refine Rg.call rfl rfl E21 (Same_spec (M := M) (s3.lt (s2.lt hM)) (hx2.le s3.le) hx3) (fun r4 w4 h4 => ?_)
  obtain ⟨rfl, s4⟩ := h4
  have S := (s2.trans0 s3).trans0 s4
  refine Rg.move rfl rfl ?_
  refine Rg.gtrue (g := 30) rfl (rfl) ?_
  refine Rg.gyes rfl rfl ?_
  refine Rg.move rfl rfl ?_
  refine Rg.gyes rfl rfl ?_
  refine Rg.move rfl rfl ?_
  refine Rg.gyes rfl rfl ?_
  refine Rg.ieq rfl rfl rfl ?_
  refine Rg.pickt rfl rfl rfl ?_
  refine Rg.move rfl rfl ?_
  refine Rg.gtrue (g := 35) rfl (rfl) ?_
  refine Rg.gyes rfl rfl ?_
  refine Rg.move rfl rfl ?_
  refine Rg.gyes rfl rfl ?_
  refine Rg.move rfl rfl ?_
  refine Rg.gyes rfl rfl ?_
  refine Rg.ieq rfl rfl rfl ?_
  refine Rg.pickt rfl rfl rfl ?_
  refine Rg.move rfl rfl ?_
  refine Rg.gtrue (g := 40) rfl (rfl) ?_
  refine Rg.gyes rfl rfl ?_
  refine Rg.call rfl rfl E12 (lives_spec (M := M) (S.lt hM)) (fun rL wL hL => ?_)
  obtain ⟨rfl, sL⟩ := hL
  refine Rg.pickt rfl rfl rfl ?_
  refine Rg.assign rfl rfl ?_
  refine Rg.nil ?_
  refine T.ret ?_
  exact Kret1 rfl rfl ⟨rfl, S.trans0 sL⟩

end Go.K

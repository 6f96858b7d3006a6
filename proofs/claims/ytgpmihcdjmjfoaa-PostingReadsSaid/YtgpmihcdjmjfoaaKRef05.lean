/- The walks of Go functions, operation by operation. -/
import Derived.Test.YtgpmihcdjmjfoaaKTypes
import Derived.Test.YtgpmihcdjmjfoaaKNum
import Derived.Test.YtgpmihcdjmjfoaaKPost
import Derived.Test.YtgpmihcdjmjfoaaKDraw
import Derived.Test.YtgpmihcdjmjfoaaKRange
import Derived.Test.YtgpmihcdjmjfoaaKRef04
import Derived.Test.YtgpmihcdjmjfoaaKPosting
import Derived.Test.YtgpmihcdjmjfoaaProg
import Derived.KernelRfl
namespace Go.K
open Go.Proofs
namespace TKRef05
theorem I23 : TI Try.prog 23 (.slice none 0 0) 1 24 := by unfold TI; kernel_rfl -- []int
theorem I37 : TI Try.prog 37 (.agg #[(.int .i64 0), (.slice none 0 0)]) 2 32 := by unfold TI; kernel_rfl -- api.Posting
theorem I74 : TI Try.prog 74 (.slice none 0 0) 1 24 := by unfold TI; kernel_rfl -- []posting.block
theorem E21 : Enters Try.prog 21 := enters Try.func21 rfl (by decide) -- (*concordance/posting.List).Block
theorem E23 : Enters Try.prog 23 := enters Try.func23 rfl (by decide) -- concordance/concordanceref01.Same
theorem E58 : Enters Try.prog 58 := enters Try.func58 rfl (by decide) -- concordance/concordanceref05.Blocks
end TKRef05
open TKRef05
set_option linter.unusedVariables false
set_option linter.unusedSimpArgs false
set_option maxRecDepth 10000

/-- 'concordance/concordanceref05.Blocks' -/
theorem rBlocks_spec {w0 : World} {n : Nat} (hn : n ≤ 4611686018427387904) :
    Spec Try.prog 58 #[.int .i64 n] w0 (fun v' w' => v' = .int .i64 (((n + 7) / 8 : Nat) : Int) ∧ w0 = w') := by
  refine spec_of (args := [.int .i64 n]) (fn := Try.f58) Try.func58 rfl (n := 6) Try.ntmps58 ?_
  refine T.seq ?_
  refine T.region ?_ -- region 0
  refine Rg.assign rfl rfl ?_
  refine Rg.nil ?_
  refine T.seq ?_
  refine T.region ?_ -- region 1
  refine Rg.move rfl rfl ?_
  refine Rg.iadd rfl rfl rfl (by omega) ?_
  refine Rg.idiv rfl rfl rfl (by omega) ?_
  refine Rg.assign rfl rfl ?_
  refine Rg.nil ?_
  refine T.ret ?_
  exact Kret1 rfl rfl ⟨congrArg _ (by omega), rfl⟩

/-- 'concordance/concordanceref05.Block' -/
theorem rBlock_spec {M : PSet} {w0 : World} {v : Value} {l : List Po} {k : Int} (hv : ((RT.po).sl).V M w0 l v) (hk : -9223372036854775808 ≤ k ∧ k ≤ 9223372036854775807) :
    Spec Try.prog 60 #[v, .int .i64 k] w0 (fun v' w' => ((RT.po).sl).V M w0 (if isB ((l.length + 7) / 8) k then (l.drop (8 * k.toNat)).take 8 else []) v' ∧ w0 = w') := by
  have hlen := V_sl_len hv
  refine spec_of (args := [v, .int .i64 k]) (fn := Try.f60) Try.func60 rfl (n := 24) Try.ntmps60 ?_
  refine T.seq ?_
  refine T.region ?_ -- region 0
  refine Rg.assign rfl rfl ?_
  refine Rg.nil ?_
  refine T.seq ?_
  refine T.seq ?_
  refine T.region ?_ -- region 1
  refine Rg.move rfl rfl ?_
  refine Rg.ilt rfl rfl rfl ?_
  refine Rg.move rfl rfl ?_
  refine Rg.gsplitp (g := 7) rfl (fun g1_2 => ?_) (fun g1_2 => ?_)
  · -- g1_2 True
    refine Rg.gno rfl rfl rfl rfl ?_
    refine Rg.gno rfl rfl rfl rfl ?_
    refine Rg.gno rfl rfl rfl rfl ?_
    refine Rg.gno rfl rfl rfl rfl ?_
    refine Rg.gno rfl rfl rfl rfl ?_
    refine Rg.pickt rfl rfl rfl ?_
    refine Rg.nil ?_
    refine T.ift rfl ?_
    refine T.seq ?_
    refine T.region ?_ -- region 2
    refine Rg.assign rfl rfl ?_
    refine Rg.nil ?_
    refine T.ret ?_
    refine Kret1 rfl rfl ⟨?_, rfl⟩
    rw [if_neg (by unfold isB; simp; omega)]
    exact V_nil
  · -- g1_2 False
    refine Rg.gyes rfl rfl ?_
    refine Rg.move rfl rfl ?_
    refine Rg.gyes rfl rfl ?_
    refine Rg.move rfl rfl ?_
    refine Rg.gyes rfl rfl ?_
    first | refine Rg.lensl Try.underlying28 rfl (by assumption) rfl ?_ | refine Rg.lenown Try.underlying28 rfl (by assumption) rfl ?_
    refine Rg.gyes rfl rfl ?_
    refine Rg.call rfl rfl E58 (rBlocks_spec (by omega)) (fun r1 w1 h1 => ?_)
    obtain ⟨rfl, rfl⟩ := h1
    refine Rg.gyes rfl rfl ?_
    refine Rg.ige rfl rfl rfl ?_
    refine Rg.pickf rfl rfl rfl ?_
    refine Rg.nil ?_
    refine T.ifp rfl (fun c1 => ?_) (fun c1 => ?_)
    · -- c1 True
      refine T.seq ?_
      refine T.region ?_ -- region 2
      refine Rg.assign rfl rfl ?_
      refine Rg.nil ?_
      refine T.ret ?_
      refine Kret1 rfl rfl ⟨?_, rfl⟩
      rw [if_neg (by unfold isB; simp; omega)]
      exact V_nil
    · -- c1 False
      refine T.skip ?_
      refine T.seq ?_
      refine T.region ?_ -- region 3
      refine Rg.move rfl rfl ?_
      refine Rg.move rfl rfl ?_
      refine Rg.imul rfl rfl rfl (by omega) ?_
      refine Rg.move rfl rfl ?_
      refine Rg.imul rfl rfl rfl (by omega) ?_
      refine Rg.iadd rfl rfl rfl (by omega) ?_
      refine Rg.move rfl rfl ?_
      first | refine Rg.lensl Try.underlying28 rfl (by assumption) rfl ?_ | refine Rg.lenown Try.underlying28 rfl (by assumption) rfl ?_
      refine Rg.min2 rfl rfl rfl ?_
      refine Rg.slice_lh (A := RT.po) (hn := by decide) Try.underlying28 I37 rfl rfl rfl rfl hv (by omega) (fun u hu => ?_)
      have he : (l.take (min (8 * k + 8) (l.length : Int)).toNat).drop (8 * k).toNat = (l.drop (8 * k.toNat)).take 8 := by
        rw [List.drop_take, show (8 * k).toNat = 8 * k.toNat from by omega, List.take_eq_take_iff, List.length_drop]; omega
      rw [he] at hu
      refine Rg.assign rfl rfl ?_
      refine Rg.nil ?_
      refine T.ret ?_
      refine Kret1 rfl rfl ⟨?_, rfl⟩
      rw [if_pos (by unfold isB; simp; omega)]
      exact hu

/-- 'concordance/concordanceref05.Same' -/
theorem Same5_spec {M : PSet} {w0 : World} {v u : Value} {a b : List Po} (hM : Lt M w0) (hv : ((RT.po).sl).V M w0 a v) (hu : ((RT.po).sl).V M w0 b u) :
    Spec Try.prog 61 #[v, u] w0 (fun v' w' => v' = .bool (decide (a = b)) ∧ Step M w0 M w' none') := by
  have hla := V_sl_len hv
  have hlb := V_sl_len hu
  refine spec_of (args := [v, u]) (fn := Try.f61) Try.func61 rfl (n := 44) Try.ntmps61 ?_
  refine T.seq ?_
  refine T.region ?_ -- region 0
  refine Rg.assign rfl rfl ?_
  refine Rg.nil ?_
  refine T.seq ?_
  refine T.seq ?_
  refine T.region ?_ -- region 1
  refine Rg.move rfl rfl ?_
  refine Rg.lensl Try.underlying28 rfl hv rfl ?_
  refine Rg.move rfl rfl ?_
  refine Rg.lensl Try.underlying28 rfl hu rfl ?_
  refine Rg.ine rfl rfl rfl ?_
  refine Rg.nil ?_
  refine T.ifp rfl (fun c1 => ?_) (fun c1 => ?_)
  · -- c1 True
    refine T.seq ?_
    refine T.region ?_ -- region 2
    refine Rg.assign rfl rfl ?_
    refine Rg.nil ?_
    refine T.ret ?_
    refine Kret1 rfl rfl ⟨?_, Step.refl _ _⟩
    rw [decide_eq_false]
    rintro rfl; exact c1 rfl
  · -- c1 False
    obtain hlen : a.length = b.length := by omega
    refine T.skip ?_
    refine T.seq ?_
    refine T.seq ?_
    refine T.region ?_ -- region 3
    refine Rg.assign rfl rfl ?_
    refine Rg.nil ?_
    refine T.block ?_
    refine T.loop (σ := Nat) (fun s => [(0, v), (1, u), (5, .int .i64 s)]) (fun s w => s ≤ a.length ∧ a.take s = b.take s ∧ Step M w0 M w none') (fun s => a.length - s) 0 (.cons rfl (.cons rfl (.cons rfl .nil))) ?_ ?_ -- loop 0
    · exact ⟨Nat.zero_le _, by simp, Step.refl _ _⟩
    · rintro k w1 ⟨hk, heq, S⟩
      refine T.seq ?_
      refine T.seq ?_
      refine T.region ?_ -- region 4
      refine Rg.move rfl rfl ?_
      refine Rg.move rfl rfl ?_
      refine Rg.lensl Try.underlying28 rfl hv rfl ?_
      refine Rg.ilt rfl rfl rfl ?_
      refine Rg.nil ?_
      refine T.ifp rfl (fun c4 => ?_) (fun c4 => ?_)
      · -- c4 True
        refine T.skip ?_
        refine T.seq ?_
        refine T.block ?_
        refine T.seq ?_
        obtain ⟨⟨d, ps⟩, hx⟩ : ∃ x, a[k]? = some x := ⟨_, List.getElem?_eq_getElem (by omega)⟩
        obtain ⟨⟨e, qs⟩, hy⟩ : ∃ y, b[k]? = some y := ⟨_, List.getElem?_eq_getElem (by omega)⟩
        have hMw := S.lt hM
        apply T.draw (M := M) mixed [Asr.eq _, Asr.eq _, Asr.ptr RT.po (d, ps), Asr.ptr ((RT.int .i64).sl) ps, Asr.V ((RT.int .i64).sl) ps, Asr.eq _, Asr.eq _, Asr.ptr RT.po (e, qs), Asr.ptr ((RT.int .i64).sl) qs, Asr.V ((RT.int .i64).sl) qs, Asr.eq (.bool (decide (ps = qs))), Asr.eq _] -- region 6
        · rfl
        · -- its operations
          refine Obls.cons ?_ ?_
          · intro wD E sD -- 0
            refine Rg.move rfl rfl ?_
            exact Rg.nil ⟨rfl, rfl, _, rfl, rfl, Step.refl _ _⟩
          refine Obls.cons ?_ ?_
          · intro wD E sD -- 1
            refine Rg.move rfl rfl ?_
            exact Rg.nil ⟨rfl, rfl, _, rfl, rfl, Step.refl _ _⟩
          refine Obls.cons ?_ ?_
          · intro wD E sD -- 2
            intro x_ hx_; have hx_ : x_ = _ := hx_; subst x_
            intro x_ hx_; have hx_ : x_ = _ := hx_; subst x_
            refine Rg.idx (M := M) Try.underlying28 I37 rfl rfl rfl (hv.le (S.trans0 sD).le) (Le.refl _ _) (by omega) (fun ui ai hgi hui => ?_)
            obtain rfl : (d, ps) = ai := Eq.symm (Option.some.inj (hgi.symm.trans (by simpa using hx)))
            exact Rg.nil ⟨rfl, rfl, _, rfl, hui, Step.refl _ _⟩
          refine Obls.cons ?_ ?_
          · intro wD E sD -- 3
            intro v2 hv2
            refine Rg.fieldAddr (M := M) (A := RT.po) (B := ((RT.int .i64).sl)) Try.underlying37 rfl rfl I23 (by decide) po1 rfl rfl (by decide) (show PtrTo RT.po M wD v2 (d, ps) from hv2) (Le.refl _ _) (fun uf huf => ?_)
            exact Rg.nil ⟨rfl, rfl, _, rfl, huf, Step.refl _ _⟩
          refine Obls.cons ?_ ?_
          · intro wD E sD -- 4
            intro v3 hv3
            refine Rg.load (M := M) Try.underlying23 rfl rfl rfl rfl rfl (show PtrTo ((RT.int .i64).sl) M wD v3 ps from hv3) (Le.refl _ _) (fun uf huf => ?_)
            exact Rg.nil ⟨rfl, rfl, _, rfl, huf, Step.refl _ _⟩
          refine Obls.cons ?_ ?_
          · intro wD E sD -- 5
            refine Rg.move rfl rfl ?_
            exact Rg.nil ⟨rfl, rfl, _, rfl, rfl, Step.refl _ _⟩
          refine Obls.cons ?_ ?_
          · intro wD E sD -- 6
            refine Rg.move rfl rfl ?_
            exact Rg.nil ⟨rfl, rfl, _, rfl, rfl, Step.refl _ _⟩
          refine Obls.cons ?_ ?_
          · intro wD E sD -- 7
            intro x_ hx_; have hx_ : x_ = _ := hx_; subst x_
            intro x_ hx_; have hx_ : x_ = _ := hx_; subst x_
            refine Rg.idx (M := M) Try.underlying28 I37 rfl rfl rfl (hu.le (S.trans0 sD).le) (Le.refl _ _) (by omega) (fun ui ai hgi hui => ?_)
            obtain rfl : (e, qs) = ai := Eq.symm (Option.some.inj (hgi.symm.trans (by simpa using hy)))
            exact Rg.nil ⟨rfl, rfl, _, rfl, hui, Step.refl _ _⟩
          refine Obls.cons ?_ ?_
          · intro wD E sD -- 8
            intro v7 hv7
            refine Rg.fieldAddr (M := M) (A := RT.po) (B := ((RT.int .i64).sl)) Try.underlying37 rfl rfl I23 (by decide) po1 rfl rfl (by decide) (show PtrTo RT.po M wD v7 (e, qs) from hv7) (Le.refl _ _) (fun uf huf => ?_)
            exact Rg.nil ⟨rfl, rfl, _, rfl, huf, Step.refl _ _⟩
          refine Obls.cons ?_ ?_
          · intro wD E sD -- 9
            intro v8 hv8
            refine Rg.load (M := M) Try.underlying23 rfl rfl rfl rfl rfl (show PtrTo ((RT.int .i64).sl) M wD v8 qs from hv8) (Le.refl _ _) (fun uf huf => ?_)
            exact Rg.nil ⟨rfl, rfl, _, rfl, huf, Step.refl _ _⟩
          refine Obls.cons ?_ ?_
          · intro wD E sD -- 10
            intro v4 hv4
            intro v9 hv9
            refine Rg.call rfl rfl E23 (Same_spec (M := M) (sD.lt hMw) (show ((RT.int .i64).sl).V M wD ps v4 from hv4) (show ((RT.int .i64).sl).V M wD qs v9 from hv9)) (fun r1 w1 h1 => ?_)
            obtain ⟨rfl, s1⟩ := h1
            exact Rg.nil ⟨rfl, rfl, _, rfl, rfl, s1⟩
          refine Obls.cons ?_ ?_
          · intro wD E sD -- 11
            intro x_ hx_; have hx_ : x_ = _ := hx_; subst x_
            intro x_ hx_; have hx_ : x_ = _ := hx_; subst x_
            intro x_ hx_; have hx_ : x_ = _ := hx_; subst x_
            intro x_ hx_; have hx_ : x_ = _ := hx_; subst x_
            intro v2 hv2
            intro v3 hv3
            intro v4 hv4
            intro x_ hx_; have hx_ : x_ = _ := hx_; subst x_
            intro x_ hx_; have hx_ : x_ = _ := hx_; subst x_
            intro v7 hv7
            intro v8 hv8
            intro v9 hv9
            intro x_ hx_; have hx_ : x_ = _ := hx_; subst x_
            refine Rg.assign rfl rfl ?_
            exact Rg.nil ⟨rfl, rfl, _, rfl, rfl, Step.refl _ _⟩
          exact Obls.nil
        · -- behind it
          intro wD6 sD6
          intro x_ hx_; have hx_ : x_ = _ := hx_; subst x_
          intro x_ hx_; have hx_ : x_ = _ := hx_; subst x_
          intro v6_2 hv6_2
          intro v6_3 hv6_3
          intro v6_4 hv6_4
          intro x_ hx_; have hx_ : x_ = _ := hx_; subst x_
          intro x_ hx_; have hx_ : x_ = _ := hx_; subst x_
          intro v6_7 hv6_7
          intro v6_8 hv6_8
          intro v6_9 hv6_9
          intro x_ hx_; have hx_ : x_ = _ := hx_; subst x_
          intro x_ hx_; have hx_ : x_ = _ := hx_; subst x_
          refine T.seq ?_
          by_cases g7_11 : d ≠ e
          · -- g7_11 True
            apply T.draw (M := M) mixed [Asr.eq _, Asr.eq _, Asr.ptr RT.po (d, ps), Asr.ptr (RT.int .i64) d, Asr.eq (.int .i64 d), Asr.eq _, Asr.eq _, Asr.ptr RT.po (e, qs), Asr.ptr (RT.int .i64) e, Asr.eq (.int .i64 e), Asr.eq _, Asr.eq (.bool true), Asr.eq undef, Asr.eq undef, Asr.eq _] -- region 7
            · rfl
            · -- its operations
              refine Obls.cons ?_ ?_
              · intro wD E sD -- 0
                refine Rg.move rfl rfl ?_
                exact Rg.nil ⟨rfl, rfl, _, rfl, rfl, Step.refl _ _⟩
              refine Obls.cons ?_ ?_
              · intro wD E sD -- 1
                refine Rg.move rfl rfl ?_
                exact Rg.nil ⟨rfl, rfl, _, rfl, rfl, Step.refl _ _⟩
              refine Obls.cons ?_ ?_
              · intro wD E sD -- 2
                intro x_ hx_; have hx_ : x_ = _ := hx_; subst x_
                intro x_ hx_; have hx_ : x_ = _ := hx_; subst x_
                refine Rg.idx (M := M) Try.underlying28 I37 rfl rfl rfl (hv.le ((S.trans0 sD6).trans0 sD).le) (Le.refl _ _) (by omega) (fun ui ai hgi hui => ?_)
                obtain rfl : (d, ps) = ai := Eq.symm (Option.some.inj (hgi.symm.trans (by simpa using hx)))
                exact Rg.nil ⟨rfl, rfl, _, rfl, hui, Step.refl _ _⟩
              refine Obls.cons ?_ ?_
              · intro wD E sD -- 3
                intro v2 hv2
                refine Rg.fieldAddr (M := M) (A := RT.po) (B := RT.int .i64) Try.underlying37 rfl rfl I3 (by decide) po0 rfl rfl (by decide) (show PtrTo RT.po M wD v2 (d, ps) from hv2) (Le.refl _ _) (fun uf huf => ?_)
                exact Rg.nil ⟨rfl, rfl, _, rfl, huf, Step.refl _ _⟩
              refine Obls.cons ?_ ?_
              · intro wD E sD -- 4
                intro v3 hv3
                refine Rg.loadi64 (M := M) Try.underlying3 rfl rfl (by assumption) (by repeat (first | exact Le.refl _ _ | refine Le.trans (Step.le (by assumption)) ?_)) (fun in7_4 => ?_)
                exact Rg.nil ⟨rfl, rfl, _, rfl, rfl, Step.refl _ _⟩
              refine Obls.cons ?_ ?_
              · intro wD E sD -- 5
                refine Rg.move rfl rfl ?_
                exact Rg.nil ⟨rfl, rfl, _, rfl, rfl, Step.refl _ _⟩
              refine Obls.cons ?_ ?_
              · intro wD E sD -- 6
                refine Rg.move rfl rfl ?_
                exact Rg.nil ⟨rfl, rfl, _, rfl, rfl, Step.refl _ _⟩
              refine Obls.cons ?_ ?_
              · intro wD E sD -- 7
                intro x_ hx_; have hx_ : x_ = _ := hx_; subst x_
                intro x_ hx_; have hx_ : x_ = _ := hx_; subst x_
                refine Rg.idx (M := M) Try.underlying28 I37 rfl rfl rfl (hu.le ((S.trans0 sD6).trans0 sD).le) (Le.refl _ _) (by omega) (fun ui ai hgi hui => ?_)
                obtain rfl : (e, qs) = ai := Eq.symm (Option.some.inj (hgi.symm.trans (by simpa using hy)))
                exact Rg.nil ⟨rfl, rfl, _, rfl, hui, Step.refl _ _⟩
              refine Obls.cons ?_ ?_
              · intro wD E sD -- 8
                intro v7 hv7
                refine Rg.fieldAddr (M := M) (A := RT.po) (B := RT.int .i64) Try.underlying37 rfl rfl I3 (by decide) po0 rfl rfl (by decide) (show PtrTo RT.po M wD v7 (e, qs) from hv7) (Le.refl _ _) (fun uf huf => ?_)
                exact Rg.nil ⟨rfl, rfl, _, rfl, huf, Step.refl _ _⟩
              refine Obls.cons ?_ ?_
              · intro wD E sD -- 9
                intro v8 hv8
                refine Rg.loadi64 (M := M) Try.underlying3 rfl rfl (by assumption) (by repeat (first | exact Le.refl _ _ | refine Le.trans (Step.le (by assumption)) ?_)) (fun in7_9 => ?_)
                exact Rg.nil ⟨rfl, rfl, _, rfl, rfl, Step.refl _ _⟩
              refine Obls.cons ?_ ?_
              · intro wD E sD -- 10
                intro x_ hx_; have hx_ : x_ = _ := hx_; subst x_
                intro x_ hx_; have hx_ : x_ = _ := hx_; subst x_
                refine Rg.ine rfl rfl rfl ?_
                exact Rg.nil ⟨rfl, rfl, _, rfl, rfl, Step.refl _ _⟩
              refine Obls.cons ?_ ?_
              · intro wD E sD -- 11
                intro x_ hx_; have hx_ : x_ = _ := hx_; subst x_
                refine Rg.move rfl rfl ?_
                refine Rg.nil ⟨rfl, rfl, _, rfl, ?_, Step.refl _ _⟩
                exact congrArg Value.bool (decide_eq_true g7_11)
              refine Obls.cons ?_ ?_
              · intro wD E sD -- 12
                intro x_ hx_; have hx_ : x_ = _ := hx_; subst x_
                exact Rg.gno rfl rfl rfl rfl (Rg.nil ⟨rfl, rfl, _, rfl, rfl, Step.refl _ _⟩)
              refine Obls.cons ?_ ?_
              · intro wD E sD -- 13
                intro x_ hx_; have hx_ : x_ = _ := hx_; subst x_
                intro x_ hx_; have hx_ : x_ = _ := hx_; subst x_
                exact Rg.gno rfl rfl rfl rfl (Rg.nil ⟨rfl, rfl, _, rfl, rfl, Step.refl _ _⟩)
              refine Obls.cons ?_ ?_
              · intro wD E sD -- 14
                intro x_ hx_; have hx_ : x_ = _ := hx_; subst x_
                intro x_ hx_; have hx_ : x_ = _ := hx_; subst x_
                refine Rg.pickt rfl rfl rfl ?_
                exact Rg.nil ⟨rfl, rfl, _, rfl, rfl, Step.refl _ _⟩
              exact Obls.nil
            · -- behind it
              intro wD7 sD7
              intro x_ hx_; have hx_ : x_ = _ := hx_; subst x_
              intro x_ hx_; have hx_ : x_ = _ := hx_; subst x_
              intro v7_2 hv7_2
              intro v7_3 hv7_3
              intro x_ hx_; have hx_ : x_ = _ := hx_; subst x_
              intro x_ hx_; have hx_ : x_ = _ := hx_; subst x_
              intro x_ hx_; have hx_ : x_ = _ := hx_; subst x_
              intro v7_7 hv7_7
              intro v7_8 hv7_8
              intro x_ hx_; have hx_ : x_ = _ := hx_; subst x_
              intro x_ hx_; have hx_ : x_ = _ := hx_; subst x_
              intro x_ hx_; have hx_ : x_ = _ := hx_; subst x_
              intro x_ hx_; have hx_ : x_ = _ := hx_; subst x_
              intro x_ hx_; have hx_ : x_ = _ := hx_; subst x_
              intro x_ hx_; have hx_ : x_ = _ := hx_; subst x_
              refine T.ift rfl ?_
              refine T.seq ?_
              refine T.region ?_ -- region 8
              refine Rg.assign rfl rfl ?_
              refine Rg.nil ?_
              refine T.ret ?_
              refine Kret1 rfl rfl ⟨?_, (S.trans0 sD6).trans0 sD7⟩
              rw [decide_eq_false]
              rintro rfl; rw [hx] at hy; cases hy; first | exact g7_11 rfl | exact c7 rfl
          · -- g7_11 False
            apply T.draw (M := M) mixed [Asr.eq _, Asr.eq _, Asr.ptr RT.po (d, ps), Asr.ptr (RT.int .i64) d, Asr.eq (.int .i64 d), Asr.eq _, Asr.eq _, Asr.ptr RT.po (e, qs), Asr.ptr (RT.int .i64) e, Asr.eq (.int .i64 e), Asr.eq _, Asr.eq (.bool false), Asr.eq _, Asr.eq (.bool (decide (¬ ps = qs))), Asr.eq _] -- region 7
            · rfl
            · -- its operations
              refine Obls.cons ?_ ?_
              · intro wD E sD -- 0
                refine Rg.move rfl rfl ?_
                exact Rg.nil ⟨rfl, rfl, _, rfl, rfl, Step.refl _ _⟩
              refine Obls.cons ?_ ?_
              · intro wD E sD -- 1
                refine Rg.move rfl rfl ?_
                exact Rg.nil ⟨rfl, rfl, _, rfl, rfl, Step.refl _ _⟩
              refine Obls.cons ?_ ?_
              · intro wD E sD -- 2
                intro x_ hx_; have hx_ : x_ = _ := hx_; subst x_
                intro x_ hx_; have hx_ : x_ = _ := hx_; subst x_
                refine Rg.idx (M := M) Try.underlying28 I37 rfl rfl rfl (hv.le ((S.trans0 sD6).trans0 sD).le) (Le.refl _ _) (by omega) (fun ui ai hgi hui => ?_)
                obtain rfl : (d, ps) = ai := Eq.symm (Option.some.inj (hgi.symm.trans (by simpa using hx)))
                exact Rg.nil ⟨rfl, rfl, _, rfl, hui, Step.refl _ _⟩
              refine Obls.cons ?_ ?_
              · intro wD E sD -- 3
                intro v2 hv2
                refine Rg.fieldAddr (M := M) (A := RT.po) (B := RT.int .i64) Try.underlying37 rfl rfl I3 (by decide) po0 rfl rfl (by decide) (show PtrTo RT.po M wD v2 (d, ps) from hv2) (Le.refl _ _) (fun uf huf => ?_)
                exact Rg.nil ⟨rfl, rfl, _, rfl, huf, Step.refl _ _⟩
              refine Obls.cons ?_ ?_
              · intro wD E sD -- 4
                intro v3 hv3
                refine Rg.loadi64 (M := M) Try.underlying3 rfl rfl (by assumption) (by repeat (first | exact Le.refl _ _ | refine Le.trans (Step.le (by assumption)) ?_)) (fun in7_4 => ?_)
                exact Rg.nil ⟨rfl, rfl, _, rfl, rfl, Step.refl _ _⟩
              refine Obls.cons ?_ ?_
              · intro wD E sD -- 5
                refine Rg.move rfl rfl ?_
                exact Rg.nil ⟨rfl, rfl, _, rfl, rfl, Step.refl _ _⟩
              refine Obls.cons ?_ ?_
              · intro wD E sD -- 6
                refine Rg.move rfl rfl ?_
                exact Rg.nil ⟨rfl, rfl, _, rfl, rfl, Step.refl _ _⟩
              refine Obls.cons ?_ ?_
              · intro wD E sD -- 7
                intro x_ hx_; have hx_ : x_ = _ := hx_; subst x_
                intro x_ hx_; have hx_ : x_ = _ := hx_; subst x_
                refine Rg.idx (M := M) Try.underlying28 I37 rfl rfl rfl (hu.le ((S.trans0 sD6).trans0 sD).le) (Le.refl _ _) (by omega) (fun ui ai hgi hui => ?_)
                obtain rfl : (e, qs) = ai := Eq.symm (Option.some.inj (hgi.symm.trans (by simpa using hy)))
                exact Rg.nil ⟨rfl, rfl, _, rfl, hui, Step.refl _ _⟩
              refine Obls.cons ?_ ?_
              · intro wD E sD -- 8
                intro v7 hv7
                refine Rg.fieldAddr (M := M) (A := RT.po) (B := RT.int .i64) Try.underlying37 rfl rfl I3 (by decide) po0 rfl rfl (by decide) (show PtrTo RT.po M wD v7 (e, qs) from hv7) (Le.refl _ _) (fun uf huf => ?_)
                exact Rg.nil ⟨rfl, rfl, _, rfl, huf, Step.refl _ _⟩
              refine Obls.cons ?_ ?_
              · intro wD E sD -- 9
                intro v8 hv8
                refine Rg.loadi64 (M := M) Try.underlying3 rfl rfl (by assumption) (by repeat (first | exact Le.refl _ _ | refine Le.trans (Step.le (by assumption)) ?_)) (fun in7_9 => ?_)
                exact Rg.nil ⟨rfl, rfl, _, rfl, rfl, Step.refl _ _⟩
              refine Obls.cons ?_ ?_
              · intro wD E sD -- 10
                intro x_ hx_; have hx_ : x_ = _ := hx_; subst x_
                intro x_ hx_; have hx_ : x_ = _ := hx_; subst x_
                refine Rg.ine rfl rfl rfl ?_
                exact Rg.nil ⟨rfl, rfl, _, rfl, rfl, Step.refl _ _⟩
              refine Obls.cons ?_ ?_
              · intro wD E sD -- 11
                intro x_ hx_; have hx_ : x_ = _ := hx_; subst x_
                refine Rg.move rfl rfl ?_
                refine Rg.nil ⟨rfl, rfl, _, rfl, ?_, Step.refl _ _⟩
                exact congrArg Value.bool (decide_eq_false g7_11)
              refine Obls.cons ?_ ?_
              · intro wD E sD -- 12
                intro x_ hx_; have hx_ : x_ = _ := hx_; subst x_
                refine Rg.gyes rfl rfl ?_
                refine Rg.move rfl rfl ?_
                exact Rg.nil ⟨rfl, rfl, _, rfl, rfl, Step.refl _ _⟩
              refine Obls.cons ?_ ?_
              · intro wD E sD -- 13
                intro x_ hx_; have hx_ : x_ = _ := hx_; subst x_
                intro x_ hx_; have hx_ : x_ = _ := hx_; subst x_
                refine Rg.gyes rfl rfl ?_
                refine Rg.not rfl rfl ?_
                refine Rg.eqv (v' := .bool (decide (¬ ps = qs))) (by simp) ?_
                exact Rg.nil ⟨rfl, rfl, _, rfl, rfl, Step.refl _ _⟩
              refine Obls.cons ?_ ?_
              · intro wD E sD -- 14
                intro x_ hx_; have hx_ : x_ = _ := hx_; subst x_
                intro x_ hx_; have hx_ : x_ = _ := hx_; subst x_
                refine Rg.pickf rfl rfl rfl ?_
                exact Rg.nil ⟨rfl, rfl, _, rfl, rfl, Step.refl _ _⟩
              exact Obls.nil
            · -- behind it
              intro wD7 sD7
              intro x_ hx_; have hx_ : x_ = _ := hx_; subst x_
              intro x_ hx_; have hx_ : x_ = _ := hx_; subst x_
              intro v7_2 hv7_2
              intro v7_3 hv7_3
              intro x_ hx_; have hx_ : x_ = _ := hx_; subst x_
              intro x_ hx_; have hx_ : x_ = _ := hx_; subst x_
              intro x_ hx_; have hx_ : x_ = _ := hx_; subst x_
              intro v7_7 hv7_7
              intro v7_8 hv7_8
              intro x_ hx_; have hx_ : x_ = _ := hx_; subst x_
              intro x_ hx_; have hx_ : x_ = _ := hx_; subst x_
              intro x_ hx_; have hx_ : x_ = _ := hx_; subst x_
              intro x_ hx_; have hx_ : x_ = _ := hx_; subst x_
              intro x_ hx_; have hx_ : x_ = _ := hx_; subst x_
              intro x_ hx_; have hx_ : x_ = _ := hx_; subst x_
              refine T.ifp rfl (fun c7 => ?_) (fun c7 => ?_)
              · -- c7 True
                refine T.seq ?_
                refine T.region ?_ -- region 8
                refine Rg.assign rfl rfl ?_
                refine Rg.nil ?_
                refine T.ret ?_
                refine Kret1 rfl rfl ⟨?_, (S.trans0 sD6).trans0 sD7⟩
                rw [decide_eq_false]
                rintro rfl; rw [hx] at hy; cases hy; first | exact g7_11 rfl | exact c7 rfl
              · -- c7 False
                refine T.skip ?_
                refine T.region ?_ -- region 5
                refine Rg.move rfl rfl ?_
                refine Rg.iadd rfl rfl rfl (by omega) ?_
                refine Rg.assign rfl rfl ?_
                refine Rg.nil ?_
                refine ⟨rfl, k + 1, (.cons rfl (.cons rfl (.cons rfl .nil))), ?_, ?_⟩
                · refine ⟨by omega, ?_, (S.trans0 sD6).trans0 sD7⟩
                  obtain ⟨_, h1⟩ := List.getElem?_eq_some_iff.1 hx
                  obtain ⟨_, h2⟩ := List.getElem?_eq_some_iff.1 hy
                  rw [List.take_succ_eq_append_getElem (by omega), List.take_succ_eq_append_getElem (by omega), heq, h1, h2, Decidable.not_not.1 g7_11, Decidable.not_not.1 c7]
                · show a.length - (k + 1) < a.length - k; omega
      · -- c4 False
        refine T.exit ?_
        refine T.seq ?_
        refine T.region ?_ -- region 9
        refine Rg.assign rfl rfl ?_
        refine Rg.nil ?_
        refine T.ret ?_
        refine Kret1 rfl rfl ⟨?_, S⟩
        rw [decide_eq_true]
        rwa [List.take_of_length_le (by omega), List.take_of_length_le (by omega)] at heq

/-- '(*concordance/posting.List).each' -/
theorem each_spec {M : PSet} {w0 : World} {v : Value} (hM : Lt M w0) :
    Spec Try.prog 81 #[v] w0 (fun v' w' => ∃ bp, v' = .func (.func 85) [].toArray [.pointer (some ⟨bp, 0, none⟩)].toArray ∧ w'.heap[bp]? = some (.cells v.cells 30 (0, 0)) ∧ w0.heap.size ≤ bp ∧ Step M w0 M w' none') := by
  refine spec_of (args := [v]) (fn := Try.f81) Try.func81 rfl (n := 4) Try.ntmps81 ?_
  refine T.seq ?_
  refine T.region ?_ -- region 0
  refine Rg.box M rfl rfl (fun bp w1 h1 h1' hS s1 => ?_)
  refine Rg.assign rfl rfl ?_
  refine Rg.nil ?_
  refine T.seq ?_
  refine T.region ?_ -- region 1
  refine Rg.makeFunc (xs := []) (ys := [.tmp 1]) rfl rfl rfl ?_
  refine Rg.assign rfl rfl ?_
  refine Rg.nil ?_
  refine T.ret ?_
  exact Kret1 rfl rfl ⟨bp, rfl, hS, h1, s1.back⟩

/-- '(*concordance/posting.List).each$1' -/
theorem each1_spec {w0 : World} {bp yl : Nat} {v : Value} {l : List Po} {J : Nat → PSet → World → Prop} {M : PSet} {Jx : World → Prop} (hbx : ∀ i M w, J i M w → w.heap[bp]? = some (.cells #[v] 30 (0, 0)) ∧ Lt M w ∧ PtrTo RT.li M w v (mkLi l) ∧ ∀ w', Step M w M w' none' → J i M w') (hmay : mayPo (-1) l = true) (hps : ∀ p ∈ l, p.2.length ≤ 1099511627776) (hbl : (putPo (-1) l).length ≤ 1099511627776) (hll : l.length ≤ 1099511627776) (hy : ∀ (i : Nat) (M : PSet) (w : World) (u : Value), J i M w → i < (l.length + 7) / 8 → ((RT.po).sl).V M w ((l.drop (8 * i)).take 8) u → Yield Try.prog yl [u].toArray w (fun r w' => ∃ b, r = .bool b ∧ (b = true → ∃ M', J (i + 1) M' w') ∧ (b = false → Jx w'))) (h0 : J 0 M w0) :
    Spec Try.prog 85 #[.func (.yield yl) #[] #[], .pointer (some ⟨bp, 0, none⟩)] w0 (fun _ w' => (∃ M', J ((l.length + 7) / 8) M' w') ∨ Jx w') := by
  obtain ⟨hb0, hM, hp, hst⟩ := hbx _ _ _ h0
  have hnb : (mkLi l).2.1.length = (l.length + 7) / 8 := by simp [mkLi, blks]
  refine spec_of (args := [.func (.yield yl) #[] #[], .pointer (some ⟨bp, 0, none⟩)]) (fn := Try.f85) Try.func85 rfl (n := 19) Try.ntmps85 ?_
  refine T.seq ?_
  refine T.region ?_ -- region 0
  refine Rg.loadc Try.underlying30 rfl rfl rfl hb0 rfl ?_
  refine Rg.nilCheck rfl (PtrTo.isPtr hp) rfl ?_
  refine Rg.fieldAddr (M := M) (A := RT.li) (B := (RT.bl).sl) Try.underlying76 rfl rfl I74 (by decide) (li1) rfl rfl (by decide) (by assumption) (by repeat (first | exact Le.refl _ _ | refine Le.trans (Step.le (by assumption)) ?_)) (fun u0_2 hu0_2 => ?_)
  refine Rg.load (M := M) Try.underlying74 rfl rfl rfl rfl rfl (by assumption) (by repeat (first | exact Le.refl _ _ | refine Le.trans (Step.le (by assumption)) ?_)) (fun v0_3 hv0_3 => ?_)
  refine Rg.lensl Try.underlying74 rfl (by assumption) rfl ?_
  refine Rg.eqv (v' := .int .i64 (((l.length + 7) / 8 : Nat) : Int)) (by rw [hnb]) ?_
  refine Rg.move rfl rfl ?_
  refine Rg.nil ?_
  refine T.block ?_
  refine T.loop (σ := Nat) (fun s => [(0, .func (.yield yl) #[] #[]), (1, .pointer (some ⟨bp, 0, none⟩)), (8, .int .i64 (((l.length + 7) / 8 : Nat) : Int)), (9, .int .i64 s)]) (fun s w => (∃ M1, J s M1 w) ∧ s ≤ (l.length + 7) / 8) (fun s => (l.length + 7) / 8 - s) 0 (.cons rfl (.cons rfl (.cons rfl (.cons rfl .nil)))) ?_ ?_ -- loop 0
  · exact ⟨⟨_, h0⟩, Nat.zero_le _⟩
  · rintro k w1 ⟨⟨M1, hJ⟩, hk⟩
    refine T.seq ?_
    refine T.region ?_ -- region 1
    refine Rg.ilt rfl rfl rfl ?_
    refine Rg.nil ?_
    refine T.seq ?_
    refine T.ifp rfl (fun c1 => ?_) (fun c1 => ?_)
    · -- c1 True
      refine T.skip ?_
      refine T.seq ?_
      refine T.block ?_
      refine T.seq ?_
      refine T.region ?_ -- region 2
      refine Rg.move rfl rfl ?_
      refine Rg.assign rfl rfl ?_
      refine Rg.nil ?_
      refine T.seq ?_
      refine T.region ?_ -- region 3
      refine Rg.move rfl rfl ?_
      obtain ⟨hb1, hM1, hp1, hst1⟩ := hbx _ _ _ hJ
      refine Rg.loadc Try.underlying30 rfl rfl rfl hb1 rfl ?_
      refine Rg.move rfl rfl ?_
      refine Rg.call rfl rfl E21 (Block_spec (M := M1) (k := k) hM1 hp1 hmay hps hbl) (fun u w4 h4 => ?_)
      obtain ⟨s4, h4⟩ := h4
      rw [if_pos (by unfold isB; simp; omega), Int.toNat_natCast] at h4
      refine Rg.yield rfl (vs := [u]) rfl rfl (hy k M1 _ u (hst1 _ s4) (by omega) h4) (fun r4 w5 h5 => ?_)
      obtain ⟨b, rfl, hb5, hb6⟩ := h5
      refine Rg.not rfl rfl ?_
      refine Rg.eqv (v' := .bool (decide (¬ b = true))) (by simp) ?_
      refine Rg.nil ?_
      refine T.ifp rfl (fun c3 => ?_) (fun c3 => ?_)
      · -- c3 True
        refine T.ret ?_
        exact Kret0 rfl (.inr (hb6 (by simpa using c3)))
      · -- c3 False
        refine T.skip ?_
        refine T.region ?_ -- region 4
        refine Rg.iadd rfl rfl rfl (by omega) ?_
        refine Rg.move rfl rfl ?_
        refine Rg.nil ?_
        refine ⟨rfl, k + 1, (.cons rfl (.cons rfl (.cons rfl (.cons rfl .nil)))), ?_, ?_⟩
        · exact ⟨hb5 (Decidable.not_not.1 c3), by omega⟩
        · show _ - (k + 1) < _ - k; omega
    · -- c1 False
      refine T.exit ?_
      rw [show k = (l.length + 7) / 8 from by omega] at hJ
      change Kret Try.prog Try.f85 (fun _ w' => (∃ M', J ((l.length + 7) / 8) M' w') ∨ Jx w') .normal _ [] _
      exact Kret0n rfl (.inl ⟨_, hJ⟩)

end Go.K

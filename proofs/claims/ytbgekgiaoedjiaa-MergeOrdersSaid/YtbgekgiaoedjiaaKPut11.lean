/- The walks of Go functions, operation by operation. -/
import Derived.Test.YtbgekgiaoedjiaaKTypes
import Derived.Test.YtbgekgiaoedjiaaKNum
import Derived.Test.YtbgekgiaoedjiaaKBits
import Derived.Test.YtbgekgiaoedjiaaKHp
import Derived.Test.YtbgekgiaoedjiaaKQuiet
import Derived.Test.YtbgekgiaoedjiaaKHeads
import Derived.Test.YtbgekgiaoedjiaaKHeap11
import Derived.Test.YtbgekgiaoedjiaaProg
namespace Go.K
open Go.Proofs
set_option linter.unusedVariables false
set_option linter.unusedSimpArgs false
set_option maxRecDepth 10000

/-- 'concordance/merge.Order$2' -/
theorem put_spec {M : PSet} {w0 : World} {bl b4 bh base : Nat} {vl v : Value} {ls : List (List Int)} {hs : List Hd} {i k : Nat} (hM : Lt M w0) (hbl : w0.heap[bl]? = some (.cells #[vl] 22 (0, 0))) (hb4 : w0.heap[b4]? = some (.cells #[.pointer (some ⟨bh, 0, none⟩)] 37 (0, 0))) (hv : (((RT.int .i64).sl).sl).V M w0 ls vl) (h : HpS 39 42 M w0 bh base v hs) (hh : IsHp hs) (hi : i < ls.length) (hk : k ≤ 1099511627776) (hl : hs.length ≤ 1099511627776) :
    Spec Try.prog 13 #[.int .i64 i, .int .i64 k, .pointer (some ⟨bl, 0, none⟩), .pointer (some ⟨b4, 0, none⟩)] w0 (fun v' w' => ∃ M' v2 hs', HpS 39 42 M' w' bh base v2 hs' ∧ IsHp hs' ∧ hs'.Perm (hs ++ nxt ls i k) ∧ Lt M' w' ∧ Step M w0 M' w' (NB 42 M w0 bh base)) := by
  have hlen := V_sl_len hv
  obtain ⟨li, hli⟩ : ∃ x, ls[i]? = some x := ⟨_, List.getElem?_eq_getElem hi⟩
  have hgd : ls.getD i [] = li := by rw [List.getD_eq_getElem?_getD, hli]; rfl
  refine spec_of (args := [_, _, _, _]) (fn := Try.f13) Try.func13 rfl (n := 27) Try.ntmps13 ?_
  refine T.seq ?_
  refine T.region ?_ -- region 0
  refine Rg.move rfl rfl ?_
  refine Rg.loadc Try.underlying22 rfl rfl rfl hbl rfl ?_
  refine Rg.move rfl rfl ?_

  refine Rg.idx (M := M) Try.underlying22 I23 rfl rfl rfl (hv) (Le.refl _ _) (by omega) (fun u0_3 a0_3 hg0_3 hu0_3 => ?_)
  obtain rfl : li = a0_3 := Eq.symm (Option.some.inj (hg0_3.symm.trans (by rw [Int.toNat_natCast]; exact hli)))
  refine Rg.load (M := M) Try.underlying23 rfl rfl rfl rfl rfl (by assumption) (by repeat (first | exact Le.refl _ _ | refine Le.trans (Step.le (by assumption)) ?_)) (fun v0_4 hv0_4 => ?_)
  replace hv0_4 : (((RT.int .i64).sl)).V M _ li v0_4 := hv0_4
  first | refine Rg.lensl Try.underlying23 rfl (by assumption) rfl ?_ | refine Rg.lenown Try.underlying23 rfl (by assumption) rfl ?_
  refine Rg.ilt rfl rfl rfl ?_
  refine Rg.nil ?_
  refine T.ifp rfl (fun c0 => ?_) (fun c0 => ?_)
  · -- c0 True
    obtain ⟨n, hn⟩ : ∃ x, li[k]? = some x := ⟨_, List.getElem?_eq_getElem (by omega)⟩
    have rn : i64r n := i64_of hv0_4 hn
    have hnx : nxt ls i k = [(n, (i : Int), (k : Int))] := by unfold nxt; rw [hgd, hn]
    apply T.drawT (M := M) mixed [] [Asr.eq _, Asr.eq (.iface 37 (.pointer (some ⟨bh, 0, none⟩))), Asr.eq _, Asr.eq _, Asr.ptr (((RT.int .i64).sl)) li, Asr.V (((RT.int .i64).sl)) li, Asr.eq _, Asr.ptr (RT.int .i64) n, Asr.eq (.int .i64 n), Asr.eq _, Asr.eq _, Asr.eq (.agg #[.int .i64 n, .int .i64 i, .int .i64 k]), Asr.eq (.iface 42 (.agg #[.int .i64 n, .int .i64 i, .int .i64 k]))] 13 -- region 1
    · rfl
    · rfl
    · rfl
    · rfl
    · rfl
    · exact fun p hp => by cases hp
    · exact UOk.none
    · -- its operations
      refine OblsS.cons ?_ ?_
      · intro wD E sD -- 0
        refine Rg.loadc Try.underlying37 rfl rfl rfl (sD.same0 hb4) rfl ?_
        exact Rg.nil ⟨rfl, rfl, _, rfl, rfl, Step.refl _ _⟩
      refine OblsS.cons ?_ ?_
      · intro wD E sD -- 1
        intro x_ hx_; have hx_ : x_ = _ := hx_; subst x_
        refine Rg.mkIface Try.underlying37 rfl rfl rfl ?_
        exact Rg.nil ⟨rfl, rfl, _, rfl, rfl, Step.refl _ _⟩
      refine OblsS.cons ?_ ?_
      · intro wD E sD -- 2
        refine Rg.loadc Try.underlying22 rfl rfl rfl (sD.same0 hbl) rfl ?_
        exact Rg.nil ⟨rfl, rfl, _, rfl, rfl, Step.refl _ _⟩
      refine OblsS.cons ?_ ?_
      · intro wD E sD -- 3
        refine Rg.move rfl rfl ?_
        exact Rg.nil ⟨rfl, rfl, _, rfl, rfl, Step.refl _ _⟩
      refine OblsS.cons ?_ ?_
      · intro wD E sD -- 4
        intro x_ hx_; have hx_ : x_ = _ := hx_; subst x_
        intro x_ hx_; have hx_ : x_ = _ := hx_; subst x_
        refine Rg.idx (M := M) Try.underlying22 I23 rfl rfl rfl (hv.le sD.le) (Le.refl _ _) (by omega) (fun ui ai hgi hui => ?_)
        obtain rfl : li = ai := Eq.symm (Option.some.inj (hgi.symm.trans (by rw [Int.toNat_natCast]; exact hli)))
        exact Rg.nil ⟨rfl, rfl, _, rfl, hui, Step.refl _ _⟩
      refine OblsS.cons ?_ ?_
      · intro wD E sD -- 5
        intro v4 hv4
        refine Rg.load (M := M) Try.underlying23 rfl rfl rfl rfl rfl (show PtrTo (((RT.int .i64).sl)) M wD v4 li from hv4) (Le.refl _ _) (fun va hva => ?_)
        exact Rg.nil ⟨rfl, rfl, _, rfl, hva, Step.refl _ _⟩
      refine OblsS.cons ?_ ?_
      · intro wD E sD -- 6
        refine Rg.move rfl rfl ?_
        exact Rg.nil ⟨rfl, rfl, _, rfl, rfl, Step.refl _ _⟩
      refine OblsS.cons ?_ ?_
      · intro wD E sD -- 7
        intro v5 hv5
        intro x_ hx_; have hx_ : x_ = _ := hx_; subst x_
        refine Rg.idx (M := M) Try.underlying23 I3 rfl rfl rfl ((show ((RT.int .i64).sl).V M wD li v5 from hv5)) (Le.refl _ _) (by omega) (fun ui ai hgi hui => ?_)
        obtain rfl : n = ai := Eq.symm (Option.some.inj (hgi.symm.trans (by rw [Int.toNat_natCast]; exact hn)))
        exact Rg.nil ⟨rfl, rfl, _, rfl, hui, Step.refl _ _⟩
      refine OblsS.cons ?_ ?_
      · intro wD E sD -- 8
        intro v7 hv7
        refine Rg.loadi64 (M := M) Try.underlying3 rfl rfl (show PtrTo (RT.int .i64) M wD v7 n from hv7) (Le.refl _ _) (fun hin => ?_)
        exact Rg.nil ⟨rfl, rfl, _, rfl, rfl, Step.refl _ _⟩
      refine OblsS.cons ?_ ?_
      · intro wD E sD -- 9
        refine Rg.move rfl rfl ?_
        exact Rg.nil ⟨rfl, rfl, _, rfl, rfl, Step.refl _ _⟩
      refine OblsS.cons ?_ ?_
      · intro wD E sD -- 10
        refine Rg.move rfl rfl ?_
        exact Rg.nil ⟨rfl, rfl, _, rfl, rfl, Step.refl _ _⟩
      refine OblsS.cons ?_ ?_
      · intro wD E sD -- 11
        intro x_ hx_; have hx_ : x_ = _ := hx_; subst x_
        intro x_ hx_; have hx_ : x_ = _ := hx_; subst x_
        intro x_ hx_; have hx_ : x_ = _ := hx_; subst x_
        refine Rg.build (places := [(0, 1), (1, 1), (2, 1)]) Try.underlying42 I42 B42 rfl ⟨_, _, rfl, rfl, _, _, rfl, rfl, _, _, rfl, rfl, rfl⟩ (out := [_, _, _]) ⟨0, [_], rfl, rfl, by simp [Value.cells], 1, [_], rfl, rfl, by simp [Value.cells], 2, [_], rfl, rfl, by simp [Value.cells], rfl⟩ ?_
        exact Rg.nil ⟨rfl, rfl, _, rfl, rfl, Step.refl _ _⟩
      refine OblsS.cons ?_ ?_
      · intro wD E sD -- 12
        intro x_ hx_; have hx_ : x_ = _ := hx_; subst x_
        refine Rg.mkIface Try.underlying42 rfl rfl rfl ?_
        exact Rg.nil ⟨rfl, rfl, _, rfl, rfl, Step.refl _ _⟩
      exact OblsS.nil
    · -- behind it
      intro wD1 sD1
      intro x_ hx_; have hx_ : x_ = _ := hx_; subst x_
      intro x_ hx_; have hx_ : x_ = _ := hx_; subst x_
      intro x_ hx_; have hx_ : x_ = _ := hx_; subst x_
      intro x_ hx_; have hx_ : x_ = _ := hx_; subst x_
      intro v1_4 hv1_4
      intro v1_5 hv1_5
      intro x_ hx_; have hx_ : x_ = _ := hx_; subst x_
      intro v1_7 hv1_7
      intro x_ hx_; have hx_ : x_ = _ := hx_; subst x_
      intro x_ hx_; have hx_ : x_ = _ := hx_; subst x_
      intro x_ hx_; have hx_ : x_ = _ := hx_; subst x_
      intro x_ hx_; have hx_ : x_ = _ := hx_; subst x_
      intro x_ hx_; have hx_ : x_ = _ := hx_; subst x_
      refine Rg.call rfl rfl E14 (Push_spec (sD1.lt hM) (h.step0 sD1) hh rn (by unfold i64r; omega) (by unfold i64r; omega) hl) (fun r w1 hq => ?_)
      obtain ⟨M1, v1, hs', h1, hh1, hp1, hM1, s1⟩ := hq
      refine Rg.nil ?_
      first | refine EndP.nil ?_ | simp +decide only [Kseq, Kblock, if_true, if_false] | skip
      exact Kret0n rfl ⟨M1, v1, hs', h1, hh1, by rw [hnx]; exact hp1, hM1, sD1.nb0.nb s1⟩
  · -- c0 False
    have hnx : nxt ls i k = [] := by unfold nxt; rw [hgd, List.getElem?_eq_none (by omega)]
    refine T.skip ?_
    first | refine EndP.nil ?_ | simp +decide only [Kseq, Kblock, if_true, if_false] | skip
    exact Kret0n rfl ⟨M, v, hs, h, hh, by rw [hnx, List.append_nil], hM, (Step.refl _ _).nb0⟩

end Go.K

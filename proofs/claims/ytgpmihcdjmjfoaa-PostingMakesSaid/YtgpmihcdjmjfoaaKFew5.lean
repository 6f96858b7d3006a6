/- The walks of Go functions, operation by operation. -/
import Derived.Test.YtgpmihcdjmjfoaaKTypes
import Derived.Test.YtgpmihcdjmjfoaaKNum
import Derived.Test.YtgpmihcdjmjfoaaKPost
import Derived.Test.YtgpmihcdjmjfoaaKDraw
import Derived.Test.YtgpmihcdjmjfoaaKRef04
import Derived.Test.YtgpmihcdjmjfoaaKPosting
import Derived.Test.YtgpmihcdjmjfoaaKRef05
import Derived.Test.YtgpmihcdjmjfoaaProg
import Derived.KernelRfl
namespace Go.K
open Go.Proofs
namespace TKFew5
theorem I23 : TI Try.prog 23 (.slice none 0 0) 1 24 := by unfold TI; kernel_rfl -- []int
theorem I37 : TI Try.prog 37 (.agg #[(.int .i64 0), (.slice none 0 0)]) 2 32 := by unfold TI; kernel_rfl -- api.Posting
theorem B37 : placesOf Try.prog 37 = [(0, 1), (1, 1)].map some := by kernel_rfl
end TKFew5
open TKFew5
set_option linter.unusedVariables false
set_option linter.unusedSimpArgs false
set_option maxRecDepth 10000


def fewP (l : List Po) : List Po := (l.take 10).map fun p => (p.1, p.2.take 10)
theorem fewP_len (l : List Po) : (fewP l).length ≤ 10 := by simp [fewP]; omega
theorem fewP_small (l : List Po) : ∀ p ∈ fewP l, p.2.length ≤ 10 := fun p hp => by
  simp only [fewP, List.mem_map] at hp
  obtain ⟨q, _, rfl⟩ := hp
  simp only [List.length_take]; omega
theorem fewP_take {l : List Po} {i : Nat} {p : Po} (h : l[i]? = some p) : ((l.take (i + 1)).map fun p => (p.1, p.2.take 10)) = ((l.take i).map fun p => (p.1, p.2.take 10)) ++ [(p.1, p.2.take 10)] := by
  obtain ⟨h1, h2⟩ := List.getElem?_eq_some_iff.1 h
  rw [List.take_succ_eq_append_getElem h1, h2]; simp

/-- 'concordance/concordancelaw05.few' -/
theorem few_spec {M : PSet} {w0 : World} {v : Value} {l : List Po} (hM : Lt M w0) (hv : ((RT.po).sl).V M w0 l v) :
    Spec Try.prog 26 #[v] w0 (fun v' w' => Step M w0 M w' none' ∧ ((RT.po).sl).V M w' (fewP l) v') := by
  have hlen := V_sl_len hv
  refine spec_of (args := [v]) (fn := Try.f26) Try.func26 rfl (n := 38) Try.ntmps26 ?_
  refine T.seq ?_
  refine T.region ?_ -- region 0
  refine Rg.assign rfl rfl ?_
  refine Rg.nil ?_
  refine T.seq ?_
  refine T.region ?_ -- region 1
  refine Rg.assign rfl rfl ?_
  refine Rg.nil ?_
  refine T.seq ?_
  refine T.seq ?_
  refine T.region ?_ -- region 2
  refine Rg.assign rfl rfl ?_
  refine Rg.nil ?_
  refine T.block ?_
  refine T.loop (σ := Nat × Value) (fun s => [(0, v), (3, s.2), (4, .int .i64 s.1)]) (fun s w => s.1 ≤ 10 ∧ s.1 ≤ l.length ∧ ∃ M1, Lt M1 w ∧ Step M w0 M1 w none' ∧ Own RT.po 37 M1 w w0.heap.size s.2 ((l.take s.1).map fun p => (p.1, p.2.take 10))) (fun s => 10 - s.1) (0, _) (.cons rfl (.cons rfl (.cons rfl .nil))) ?_ ?_ -- loop 0
  · exact ⟨Nat.zero_le _, Nat.zero_le _, M, hM, Step.refl _ _, Own.nil _ _ _ _ _⟩
  · rintro ⟨i, u0⟩ w1 ⟨hi, hil, M1, hM1, S, ho⟩
    dsimp only at hi hil ho ⊢
    refine T.seq ?_
    refine T.seq ?_
    refine T.region ?_ -- region 3
    refine Rg.move rfl rfl ?_
    refine Rg.move rfl rfl ?_
    refine Rg.lensl Try.underlying28 rfl hv rfl ?_
    refine Rg.ilt rfl rfl rfl ?_
    refine Rg.move rfl rfl ?_
    refine Rg.gsplitp (g := 9) rfl (fun g3_4 => ?_) (fun g3_4 => ?_)
    · -- g3_4 True
      refine Rg.gyes rfl rfl ?_
      refine Rg.move rfl rfl ?_
      refine Rg.gyes rfl rfl ?_
      refine Rg.ilt rfl rfl rfl ?_
      refine Rg.pickt rfl rfl rfl ?_
      refine Rg.nil ?_
      refine T.ifp rfl (fun c3 => ?_) (fun c3 => ?_)
      · -- c3 True
        refine T.skip ?_
        refine T.seq ?_
        refine T.block ?_
        obtain ⟨⟨d, ps⟩, hx⟩ : ∃ x, l[i]? = some x := ⟨_, List.getElem?_eq_getElem (by omega)⟩
        have hvM := hv.le S.le
        have hd := po_rng hvM hx
        have hpl := po_len hvM hx
        apply T.drawT (M := M1) mixed [] [Asr.eq _, Asr.eq _, Asr.eq _, Asr.ptr (RT.po) (d, ps), Asr.ptr (RT.int .i64) d, Asr.eq (.int .i64 d), Asr.eq _, Asr.eq _, Asr.ptr (RT.po) (d, ps), Asr.ptr ((RT.int .i64).sl) ps, Asr.V ((RT.int .i64).sl) ps, Asr.eq _, Asr.eq _, Asr.ptr (RT.po) (d, ps), Asr.ptr ((RT.int .i64).sl) ps, Asr.V ((RT.int .i64).sl) ps, Asr.eq _, Asr.eq _, Asr.V ((RT.int .i64).sl) (ps.take 10), Asr.V RT.po (d, ps.take 10), Asr.V ((RT.po).sl) [(d, ps.take 10)]] 21 -- region 5
        · rfl
        · rfl
        · rfl
        · rfl
        · rfl
        · exact fun p hp => by cases hp
        · exact UOk.none
        · -- its operations
          refine OblsS.cons ?_ ?_
          · intro wD E sD -- 0
            refine Rg.move rfl rfl ?_
            exact Rg.nil ⟨rfl, rfl, _, rfl, rfl, Step.refl _ _⟩
          refine OblsS.cons ?_ ?_
          · intro wD E sD -- 1
            refine Rg.move rfl rfl ?_
            exact Rg.nil ⟨rfl, rfl, _, rfl, rfl, Step.refl _ _⟩
          refine OblsS.cons ?_ ?_
          · intro wD E sD -- 2
            refine Rg.move rfl rfl ?_
            exact Rg.nil ⟨rfl, rfl, _, rfl, rfl, Step.refl _ _⟩
          refine OblsS.cons ?_ ?_
          · intro wD E sD -- 3
            intro x_ hx_; have hx_ : x_ = _ := hx_; subst x_
            intro x_ hx_; have hx_ : x_ = _ := hx_; subst x_
            refine Rg.idx (M := M1) Try.underlying28 I37 rfl rfl rfl (hvM.le sD.le) (Le.refl _ _) (by omega) (fun ui ai hgi hui => ?_)
            obtain rfl : (d, ps) = ai := Eq.symm (Option.some.inj (hgi.symm.trans (by simpa using hx)))
            exact Rg.nil ⟨rfl, rfl, _, rfl, hui, Step.refl _ _⟩
          refine OblsS.cons ?_ ?_
          · intro wD E sD -- 4
            intro v3 hv3
            refine Rg.fieldAddr (M := M1) (A := RT.po) (B := RT.int .i64) Try.underlying37 rfl rfl I3 (by decide) (po0) rfl rfl (by decide) (show PtrTo (RT.po) M1 wD v3 (d, ps) from hv3) (Le.refl _ _) (fun uf huf => ?_)
            exact Rg.nil ⟨rfl, rfl, _, rfl, huf, Step.refl _ _⟩
          refine OblsS.cons ?_ ?_
          · intro wD E sD -- 5
            intro v4 hv4
            refine Rg.loadi64 (M := M1) Try.underlying3 rfl rfl (show PtrTo (RT.int .i64) M1 wD v4 d from hv4) (Le.refl _ _) (fun hin => ?_)
            exact Rg.nil ⟨rfl, rfl, _, rfl, rfl, Step.refl _ _⟩
          refine OblsS.cons ?_ ?_
          · intro wD E sD -- 6
            refine Rg.move rfl rfl ?_
            exact Rg.nil ⟨rfl, rfl, _, rfl, rfl, Step.refl _ _⟩
          refine OblsS.cons ?_ ?_
          · intro wD E sD -- 7
            refine Rg.move rfl rfl ?_
            exact Rg.nil ⟨rfl, rfl, _, rfl, rfl, Step.refl _ _⟩
          refine OblsS.cons ?_ ?_
          · intro wD E sD -- 8
            intro x_ hx_; have hx_ : x_ = _ := hx_; subst x_
            intro x_ hx_; have hx_ : x_ = _ := hx_; subst x_
            refine Rg.idx (M := M1) Try.underlying28 I37 rfl rfl rfl (hvM.le sD.le) (Le.refl _ _) (by omega) (fun ui ai hgi hui => ?_)
            obtain rfl : (d, ps) = ai := Eq.symm (Option.some.inj (hgi.symm.trans (by simpa using hx)))
            exact Rg.nil ⟨rfl, rfl, _, rfl, hui, Step.refl _ _⟩
          refine OblsS.cons ?_ ?_
          · intro wD E sD -- 9
            intro v8 hv8
            refine Rg.fieldAddr (M := M1) (A := RT.po) (B := (RT.int .i64).sl) Try.underlying37 rfl rfl I23 (by decide) (po1) rfl rfl (by decide) (show PtrTo (RT.po) M1 wD v8 (d, ps) from hv8) (Le.refl _ _) (fun uf huf => ?_)
            exact Rg.nil ⟨rfl, rfl, _, rfl, huf, Step.refl _ _⟩
          refine OblsS.cons ?_ ?_
          · intro wD E sD -- 10
            intro v9 hv9
            refine Rg.load (M := M1) Try.underlying23 rfl rfl rfl rfl rfl (show PtrTo ((RT.int .i64).sl) M1 wD v9 ps from hv9) (Le.refl _ _) (fun va hva => ?_)
            exact Rg.nil ⟨rfl, rfl, _, rfl, hva, Step.refl _ _⟩
          refine OblsS.cons ?_ ?_
          · intro wD E sD -- 11
            refine Rg.move rfl rfl ?_
            exact Rg.nil ⟨rfl, rfl, _, rfl, rfl, Step.refl _ _⟩
          refine OblsS.cons ?_ ?_
          · intro wD E sD -- 12
            refine Rg.move rfl rfl ?_
            exact Rg.nil ⟨rfl, rfl, _, rfl, rfl, Step.refl _ _⟩
          refine OblsS.cons ?_ ?_
          · intro wD E sD -- 13
            intro x_ hx_; have hx_ : x_ = _ := hx_; subst x_
            intro x_ hx_; have hx_ : x_ = _ := hx_; subst x_
            refine Rg.idx (M := M1) Try.underlying28 I37 rfl rfl rfl (hvM.le sD.le) (Le.refl _ _) (by omega) (fun ui ai hgi hui => ?_)
            obtain rfl : (d, ps) = ai := Eq.symm (Option.some.inj (hgi.symm.trans (by simpa using hx)))
            exact Rg.nil ⟨rfl, rfl, _, rfl, hui, Step.refl _ _⟩
          refine OblsS.cons ?_ ?_
          · intro wD E sD -- 14
            intro v13 hv13
            refine Rg.fieldAddr (M := M1) (A := RT.po) (B := (RT.int .i64).sl) Try.underlying37 rfl rfl I23 (by decide) (po1) rfl rfl (by decide) (show PtrTo (RT.po) M1 wD v13 (d, ps) from hv13) (Le.refl _ _) (fun uf huf => ?_)
            exact Rg.nil ⟨rfl, rfl, _, rfl, huf, Step.refl _ _⟩
          refine OblsS.cons ?_ ?_
          · intro wD E sD -- 15
            intro v14 hv14
            refine Rg.load (M := M1) Try.underlying23 rfl rfl rfl rfl rfl (show PtrTo ((RT.int .i64).sl) M1 wD v14 ps from hv14) (Le.refl _ _) (fun va hva => ?_)
            exact Rg.nil ⟨rfl, rfl, _, rfl, hva, Step.refl _ _⟩
          refine OblsS.cons ?_ ?_
          · intro wD E sD -- 16
            intro v15 hv15
            refine Rg.lensl Try.underlying23 rfl (show ((RT.int .i64).sl).V M1 wD ps v15 from hv15) rfl ?_
            exact Rg.nil ⟨rfl, rfl, _, rfl, rfl, Step.refl _ _⟩
          refine OblsS.cons ?_ ?_
          · intro wD E sD -- 17
            intro x_ hx_; have hx_ : x_ = _ := hx_; subst x_
            refine Rg.min2 rfl rfl rfl ?_
            exact Rg.nil ⟨rfl, rfl, _, rfl, rfl, Step.refl _ _⟩
          refine OblsS.cons ?_ ?_
          · intro wD E sD -- 18
            intro v10 hv10
            intro x_ hx_; have hx_ : x_ = _ := hx_; subst x_
            refine Rg.slice_h (A := RT.int .i64) (hn := by decide) Try.underlying23 I3 rfl rfl rfl (show ((RT.int .i64).sl).V M1 wD ps v10 from hv10) (by omega) (fun u hu => ?_)
            rw [show (min (ps.length : Int) 10).toNat = min ps.length 10 from by omega, show ps.take (min ps.length 10) = ps.take 10 from by rw [List.take_eq_take_iff]; omega] at hu
            exact Rg.nil ⟨rfl, rfl, _, rfl, hu, Step.refl _ _⟩
          refine OblsS.cons ?_ ?_
          · intro wD E sD -- 19
            intro x_ hx_; have hx_ : x_ = _ := hx_; subst x_
            intro v18 hv18
            replace hv18 : ((RT.int .i64).sl).V M1 wD (ps.take 10) v18 := hv18
            refine Rg.build (places := [(0, 1), (1, 1)]) Try.underlying37 I37 B37 rfl ⟨_, _, rfl, rfl, _, _, rfl, rfl, rfl⟩ (out := [_, _]) ⟨0, [_], rfl, rfl, by simp [Value.cells], 1, [_], rfl, V_cells hv18, by simp [Value.cells], rfl⟩ ?_
            exact Rg.nil ⟨rfl, rfl, _, rfl, V_pair_mk (V_i64 hd) hv18 rfl rfl rfl rfl, Step.refl _ _⟩
          refine OblsS.cons ?_ ?_
          · intro wD E sD -- 20
            intro v19 hv19
            refine Rg.sl1 (A := RT.po) (hn := by decide) (M := M1) Try.underlying28 I37 (by decide) rfl rfl (sD.lt hM1) hv19 (.inl rfl) (fun u2 w2 hu2 s2 => ?_)
            exact Rg.nil ⟨rfl, rfl, _, rfl, hu2, s2⟩
          exact OblsS.nil
        · -- behind it
          intro wD5 sD5
          intro x_ hx_; have hx_ : x_ = _ := hx_; subst x_
          intro x_ hx_; have hx_ : x_ = _ := hx_; subst x_
          intro x_ hx_; have hx_ : x_ = _ := hx_; subst x_
          intro v5_3 hv5_3
          intro v5_4 hv5_4
          intro x_ hx_; have hx_ : x_ = _ := hx_; subst x_
          intro x_ hx_; have hx_ : x_ = _ := hx_; subst x_
          intro x_ hx_; have hx_ : x_ = _ := hx_; subst x_
          intro v5_8 hv5_8
          intro v5_9 hv5_9
          intro v5_10 hv5_10
          intro x_ hx_; have hx_ : x_ = _ := hx_; subst x_
          intro x_ hx_; have hx_ : x_ = _ := hx_; subst x_
          intro v5_13 hv5_13
          intro v5_14 hv5_14
          intro v5_15 hv5_15
          intro x_ hx_; have hx_ : x_ = _ := hx_; subst x_
          intro x_ hx_; have hx_ : x_ = _ := hx_; subst x_
          intro v5_18 hv5_18
          intro v5_19 hv5_19
          intro v5_20 hv5_20
          replace ho := ho.step0 sD5
          replace hv5_20 : ((RT.po).sl).V M1 wD5 [(d, ps.take 10)] v5_20 := hv5_20
          refine Rg.append (M := M1) (base := w0.heap.size) Try.underlying28 I37 rfl rfl rfl rfl ho hv5_20 (Le.refl _ _) (by simp; omega) (by simp; omega) (S.trans0 sD5).size (fun v4 M3 w3 ho3 s3 => ?_)
          refine Rg.assign rfl rfl ?_
          refine Rg.nil ?_
          refine T.region ?_ -- region 4
          refine Rg.move rfl rfl ?_
          refine Rg.iadd rfl rfl rfl (by omega) ?_
          refine Rg.assign rfl rfl ?_
          refine Rg.nil ?_
          refine ⟨rfl, (i + 1, v4), (.cons rfl (.cons rfl (.cons rfl .nil))), ?_, ?_⟩
          · refine ⟨by simp only; omega, by simp only; omega, M3, s3.lt (sD5.lt hM1), (S.trans0 sD5).transBlk s3 ho (Nat.le_refl _), ?_⟩
            simp only
            rw [fewP_take hx]
            exact ho3
          · simp only; omega
      · -- c3 False
        refine T.exit ?_
        refine T.seq ?_
        refine T.region ?_ -- region 6
        refine Rg.move rfl rfl ?_
        refine Rg.assign rfl rfl ?_
        refine Rg.nil ?_
        refine T.ret ?_
        refine Kret1 rfl rfl ⟨S.back, ?_⟩
        have he : (l.take i).map (fun p : Po => (p.1, p.2.take 10)) = fewP l := by
          unfold fewP
          rw [show l.take i = l.take 10 from by rw [List.take_eq_take_iff]; omega]
        rw [he] at ho
        exact Own.close hM S ho (by have := fewP_len l; omega)
    · -- g3_4 False
      refine Rg.gno rfl rfl rfl rfl ?_
      refine Rg.gno rfl rfl rfl rfl ?_
      refine Rg.pickf rfl rfl rfl ?_
      refine Rg.nil ?_
      refine T.iff rfl ?_
      refine T.exit ?_
      refine T.seq ?_
      refine T.region ?_ -- region 6
      refine Rg.move rfl rfl ?_
      refine Rg.assign rfl rfl ?_
      refine Rg.nil ?_
      refine T.ret ?_
      refine Kret1 rfl rfl ⟨S.back, ?_⟩
      have he : (l.take i).map (fun p : Po => (p.1, p.2.take 10)) = fewP l := by
        unfold fewP
        rw [show l.take i = l.take 10 from by rw [List.take_eq_take_iff]; omega]
      rw [he] at ho
      exact Own.close hM S ho (by have := fewP_len l; omega)

end Go.K

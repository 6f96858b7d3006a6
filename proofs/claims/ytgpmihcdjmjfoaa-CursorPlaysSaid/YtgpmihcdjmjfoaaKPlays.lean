/- The walks of Go functions, operation by operation. -/
import Derived.Test.YtgpmihcdjmjfoaaKTypes
import Derived.Test.YtgpmihcdjmjfoaaKNum
import Derived.Test.YtgpmihcdjmjfoaaKPost
import Derived.Test.YtgpmihcdjmjfoaaKPtr
import Derived.Test.YtgpmihcdjmjfoaaKCur
import Derived.Test.YtgpmihcdjmjfoaaKCur2
import Derived.Test.YtgpmihcdjmjfoaaKCell2
import Derived.Test.YtgpmihcdjmjfoaaKDraw
import Derived.Test.YtgpmihcdjmjfoaaKPosting
import Derived.Test.YtgpmihcdjmjfoaaKMake2
import Derived.Test.YtgpmihcdjmjfoaaKCursor
import Derived.Test.YtgpmihcdjmjfoaaKAdv
import Derived.Test.YtgpmihcdjmjfoaaKBoth
import Derived.Test.YtgpmihcdjmjfoaaKRef04
import Derived.Test.YtgpmihcdjmjfoaaKLives6
import Derived.Test.YtgpmihcdjmjfoaaKRef06
import Derived.Test.YtgpmihcdjmjfoaaProg
import Derived.KernelRfl
namespace Go.K
open Go.Proofs
namespace TKPlays
theorem I57 : TI Try.prog 57 (.agg #[(.slice none 0 0), (.int .i64 0)]) 2 32 := by unfold TI; kernel_rfl -- concordanceref06.C
theorem E18 : Enters Try.prog 18 := enters Try.func18 rfl (by decide) -- concordance/concordanceref05.Good
theorem E19 : Enters Try.prog 19 := enters Try.func19 rfl (by decide) -- concordance/posting.Make
theorem E30 : Enters Try.prog 30 := enters Try.func30 rfl (by decide) -- concordance/cursor.New
theorem E33 : Enters Try.prog 33 := enters Try.func33 rfl (by decide) -- concordance/concordancelaw06.lives
theorem E38 : Enters Try.prog 38 := enters Try.func38 rfl (by decide) -- (*concordance/cursor.Cursor).Next
theorem E39 : Enters Try.prog 39 := enters Try.func39 rfl (by decide) -- (*concordance/cursor.Cursor).Advance
theorem E41 : Enters Try.prog 41 := enters Try.func41 rfl (by decide) -- concordance/concordanceref06.New
theorem E42 : Enters Try.prog 42 := enters Try.func42 rfl (by decide) -- concordance/concordancelaw06.like
theorem E43 : Enters Try.prog 43 := enters Try.func43 rfl (by decide) -- concordance/concordanceref06.Next
theorem E44 : Enters Try.prog 44 := enters Try.func44 rfl (by decide) -- concordance/concordanceref06.Advance
theorem E45 : Enters Try.prog 45 := enters Try.func45 rfl (by decide) -- concordance/concordanceref06.Doc
end TKPlays
open TKPlays
set_option linter.unusedVariables false
set_option linter.unusedSimpArgs false
set_option maxRecDepth 10000

set_option maxHeartbeats 1000000 in
/-- 'concordance/concordancelaw06.CursorPlays' -/
theorem CursorPlays_spec {M : PSet} {w0 : World} {v va : Value} {a : List Po} {asks : List Int} (hM : Lt M w0) (hv : ((RT.po).sl).V M w0 a v) (hasks : ((RT.int .i64).sl).V M w0 asks va) :
    Spec Try.prog 12 #[v, va] w0 (fun v' w' => v' = .bool true ∧ Step M w0 M w' none') := by
  have hal := V_sl_len hasks
  refine spec_of (args := [v, va]) (fn := Try.f12) Try.func12 rfl (n := 71) Try.ntmps12 ?_
  refine T.seq ?_
  refine T.region ?_ -- region 0
  refine Rg.assign rfl rfl ?_
  refine Rg.nil ?_
  refine T.seq ?_
  refine T.region ?_ -- region 1
  refine Rg.move rfl rfl ?_
  refine Rg.call rfl rfl E18 (Good_ok (M := M) (n := 40) hM hv (by decide)) (fun ug w1 h => ?_)
  obtain ⟨s1, g, og, ogl, ogs, ogV⟩ := h
  have hM1 := s1.lt hM
  have hug1 := V_one ogV rfl rfl
  refine Rg.assign rfl rfl ?_
  refine Rg.nil ?_
  refine T.seq ?_
  refine T.region ?_ -- region 2
  refine Rg.move rfl rfl ?_
  refine Rg.call rfl rfl E19 (Make_ok (M := M) hM1 ogV og) (fun r w2 h => ?_)
  obtain ⟨s2, q, rfl, hp⟩ := h
  have hM2 := s2.lt hM1
  have S2 := s1.trans0 s2
  have z2 := S2.size
  refine Rg.move rfl rfl ?_
  refine Rg.extract rfl rfl rfl ?_
  refine Rg.extract rfl rfl rfl ?_
  refine Rg.assign rfl rfl ?_
  refine Rg.assign rfl rfl ?_
  refine Rg.nil ?_
  refine T.seq ?_
  refine T.region ?_ -- region 3
  refine Rg.move rfl rfl ?_
  refine Rg.call rfl rfl E30 (New6_spec (M := M) (hp)) (fun r w3 h => ?_)
  obtain ⟨bc, rfl, hz, s3, hC⟩ := h
  have hM3 := s3.lt hM2
  have S3 := S2.trans0 s3
  have hlc := hC.lt
  have T3 := s2.trans0 s3
  refine Rg.assign rfl rfl ?_
  refine Rg.nil ?_
  refine T.seq ?_
  refine T.seq ?_
  refine T.region ?_ -- region 4
  refine Rg.move rfl rfl ?_
  refine Rg.ptreqnil (v := .pointer (some ⟨bc, 0, none⟩)) Try.underlying43 rfl ⟨_, rfl⟩ rfl rfl ?_
  refine Rg.eqv (v' := .bool (decide False)) rfl ?_
  refine Rg.nil ?_
  refine T.iffp rfl ((fun h => h)) ?_
  refine T.skip ?_
  refine T.seq ?_
  refine T.region ?_ -- region 6
  refine Rg.move rfl rfl ?_
  refine Rg.call rfl rfl E41 (rNew6_spec (ogV.le T3.le)) (fun r4 w4 h => ?_)
  obtain ⟨rfl, s4⟩ := h
  have hM4 := s4.lt hM3
  have y4 := s4.size
  refine Rg.alloc (ins M bc) I57 rfl (fun b9 w5 z5 z5' h5 s5 => ?_)
  have S5 := (S3.trans0 s4).trans0 s5
  have T5 := (T3.trans0 s4).trans0 s5
  have hC5 := (hC.step s4 (fun h => h)).step s5 (fun h => h)
  have hM5 := s5.lt hM4
  have hb9 : ins (ins M bc) b9 b9 := .inl rfl
  have hne : bc ≠ b9 := by omega
  have y3 := S3.size
  have hz0 : w0.heap.size ≤ bc ∧ w0.heap.size ≤ b9 := by omega
  generalize ins (ins M bc) b9 = M1 at S5 T5 hC5 hM5 hb9
  refine Rg.storeaggc (M := M1) I57 rfl rfl (by intro x hx; simp at hx; rcases hx with rfl | rfl; exact hug1; rfl) rfl rfl h5 hb9 (fun w6 h6 s6 => ?_)
  have S6 := S5.transNew s6 (fun k hk => by subst hk; omega)
  have T6 : Le M w1 M1 w6 := Le.trans T5.le s6.le
  have hC6 := hC5.step s6 hne
  have hM6 := s6.lt hM5
  refine Rg.nil ?_
  refine T.seq ?_
  refine T.seq ?_
  refine T.region ?_ -- region 7
  refine Rg.move rfl rfl ?_
  refine Rg.loadaggc (vs := [ug, .int .i64 (-1)]) Try.underlying57 rfl I57 rfl rfl rfl h6 ?_
  refine Rg.call rfl rfl E42 (like6_spec (M := M1) hM6 (ogV.le T6) hC6.rng hC6 og.may og.ps) (fun r w7 h => ?_)
  obtain ⟨rfl, s7⟩ := h
  refine Rg.not rfl rfl ?_
  refine Rg.eqv (v' := .bool (decide False)) (by simp) ?_
  refine Rg.nil ?_
  refine T.iffp rfl ((fun h => h)) ?_
  refine T.skip ?_
  refine T.seq ?_
  refine T.seq ?_
  refine T.region ?_ -- region 9
  refine Rg.assign rfl rfl ?_
  refine Rg.nil ?_
  refine T.block ?_
  refine T.loop (σ := Nat × Int) (fun s => [(1, va), (8, .pointer (some ⟨bc, 0, none⟩)), (9, .pointer (some ⟨b9, 0, none⟩)), (10, .int .i64 s.1)]) (fun s w => s.1 ≤ asks.length ∧ s.1 ≤ 40 ∧ Lt M1 w ∧ Step M w0 M1 w none' ∧ Le M w1 M1 w ∧ Cu 92 g s.2 M1 w bc ∧ w.heap[b9]? = some (.cells [ug, .int .i64 s.2].toArray 57 (0, 0))) (fun s => asks.length - s.1) (0, -1) (.cons rfl (.cons rfl (.cons rfl (.cons rfl .nil)))) ?_ ?_ -- loop 0
  · exact ⟨Nat.zero_le _, Nat.zero_le _, s7.lt hM6, S6.trans0 s7, Le.trans T6 s7.le, hC6.step s7 (fun h => h), s7.same0 h6⟩
  · rintro ⟨k, j⟩ wj ⟨hk, hk40, hMj, SA, LA, hCj, hR⟩
    dsimp only at hk hk40 hCj hR ⊢
    have hjr := hCj.rng
    refine T.seq ?_
    refine T.seq ?_
    refine T.region ?_ -- region 10
    refine Rg.move rfl rfl ?_
    refine Rg.move rfl rfl ?_
    refine Rg.lensl Try.underlying23 rfl hasks rfl ?_
    refine Rg.ilt rfl rfl rfl ?_
    refine Rg.move rfl rfl ?_
    refine Rg.gsplitp (g := 33) rfl (fun g10_4 => ?_) (fun g10_4 => ?_)
    · -- g10_4 True
      refine Rg.gyes rfl rfl ?_
      refine Rg.move rfl rfl ?_
      refine Rg.gyes rfl rfl ?_
      refine Rg.ilt rfl rfl rfl ?_
      refine Rg.pickt rfl rfl rfl ?_
      refine Rg.nil ?_
      refine T.ifp rfl (fun c10 => ?_) (fun c10 => ?_)
      · -- c10 True
        refine T.skip ?_
        refine T.seq ?_
        refine T.block ?_
        refine T.seq ?_
        refine T.region ?_ -- region 12
        refine Rg.assign rfl rfl ?_
        refine Rg.nil ?_
        refine T.seq ?_
        refine T.seq ?_
        refine T.region ?_ -- region 13
        refine Rg.move rfl rfl ?_
        refine Rg.move rfl rfl ?_
        obtain ⟨x, hx⟩ : ∃ x, (asks)[k]? = some x := ⟨_, List.getElem?_eq_getElem (by omega)⟩
        refine Rg.idx (M := M1) Try.underlying23 I3 rfl rfl rfl (hasks.le SA.le) (Le.refl _ _) (by omega) (fun u13_2 a13_2 hg13_2 hu13_2 => ?_)
        obtain rfl : x = a13_2 := Eq.symm (Option.some.inj (hg13_2.symm.trans (by simpa using hx)))
        have hxr := i64_of hasks hx
        refine Rg.loadi64 (M := M1) Try.underlying3 rfl rfl (by assumption) (by repeat (first | exact Le.refl _ _ | refine Le.trans (Step.le (by assumption)) ?_)) (fun in13_3 => ?_)
        refine Rg.eqv (v' := .int .i64 x) rfl ?_
        replace in13_3 : -9223372036854775808 ≤ (x : Int) ∧ x ≤ 9223372036854775807 := in13_3
        refine Rg.ilt rfl rfl rfl ?_
        refine Rg.nil ?_
        refine T.ifp rfl (fun c13 => ?_) (fun c13 => ?_)
        · -- c13 True
          refine T.seq ?_
          refine T.region ?_ -- region 14
          refine Rg.move rfl rfl ?_
          refine Rg.call rfl rfl E38 (Next_ok hCj hMj og) (fun r8 w8 h => ?_)
          obtain ⟨rfl, s8, hC8⟩ := h
          obtain ⟨j', hj'⟩ : ∃ j', j' = nextI g j := ⟨_, rfl⟩
          rw [← hj'] at hC8 ⊢
          have h8 := s8.keep hR hne.symm
          have hM8 := s8.lt hMj
          have L8 := Le.trans LA s8.le
          have SA8 := SA.transNew s8 (fun k hk => by omega)
          refine Rg.assign rfl rfl ?_
          refine Rg.nil ?_
          refine T.region ?_ -- region 15
          refine Rg.loadaggc (vs := [ug, .int .i64 j]) Try.underlying57 rfl I57 rfl rfl rfl h8 ?_
          refine Rg.call rfl rfl E43 (rNext6_spec (M := M1) hM8 (ogV.le L8) hjr) (fun r9 w9 h => ?_)
          obtain ⟨rfl, s9⟩ := h
          rw [← hj']
          have h9 := s9.same0 h8
          refine Rg.storeaggc (M := M1) I57 rfl rfl (by intro x hx; simp at hx; rcases hx with rfl | rfl; exact hug1; rfl) rfl rfl h9 hb9 (fun w10 h10 s10 => ?_)
          have hC10 := (hC8.step s9 (fun h => h)).step s10 hne
          have hM10 := s10.lt (s9.lt hM8)
          have L10 := Le.trans L8 (Le.trans s9.le s10.le)
          have SA10 := (SA8.trans0 s9).transNew s10 (fun k hk => by omega)
          refine Rg.nil ?_
          refine T.seq ?_
          refine T.region ?_ -- region 18
          refine Rg.move rfl rfl ?_
          refine Rg.loadaggc (vs := [ug, .int .i64 j']) Try.underlying57 rfl I57 rfl rfl rfl h10 ?_
          refine Rg.call rfl rfl E45 (rDoc6_spec (M := M1) hM10 (ogV.le L10) hC10.rng) (fun r11 w11 h => ?_)
          obtain ⟨rfl, s11⟩ := h
          have h11 := s11.same0 h10
          have hM11 := s11.lt hM10
          have hC11 := hC10.step s11 (fun h => h)
          have L11 := Le.trans L10 s11.le
          refine Rg.ine rfl rfl rfl ?_
          refine Rg.move rfl rfl ?_
          refine Rg.gfalse (g := 64) rfl ((fun h => h rfl)) ?_
          refine Rg.gyes rfl rfl ?_
          refine Rg.move rfl rfl ?_
          refine Rg.gyes rfl rfl ?_
          refine Rg.loadaggc (vs := [ug, .int .i64 j']) Try.underlying57 rfl I57 rfl rfl rfl h11 ?_
          refine Rg.gyes rfl rfl ?_
          refine Rg.call rfl rfl E42 (like6_spec (M := M1) hM11 (ogV.le L11) hC11.rng hC11 og.may og.ps) (fun r w12 h => ?_)
          obtain ⟨rfl, s12⟩ := h
          refine Rg.gyes rfl rfl ?_
          refine Rg.not rfl rfl ?_
          refine Rg.eqv (v' := .bool (decide False)) (by simp) ?_
          refine Rg.pickf rfl rfl rfl ?_
          refine Rg.nil ?_
          refine T.iffp rfl ((fun h => h)) ?_
          refine T.skip ?_
          refine T.region ?_ -- region 11
          refine Rg.move rfl rfl ?_
          refine Rg.iadd rfl rfl rfl (by omega) ?_
          refine Rg.assign rfl rfl ?_
          refine Rg.nil ?_
          refine ⟨rfl, (k + 1, j'), (.cons rfl (.cons rfl (.cons rfl (.cons rfl .nil)))), ?_, ?_⟩
          · exact ⟨by simp only; omega, by simp only; omega, s12.lt hM11, (SA10.trans0 s11).trans0 s12, Le.trans L11 s12.le, hC11.step s12 (fun h => h), s12.same0 h11⟩
          · simp only; omega
        · -- c13 False
          refine T.seq ?_
          refine T.region ?_ -- region 16
          refine Rg.move rfl rfl ?_
          refine Rg.move rfl rfl ?_
          refine Rg.move rfl rfl ?_

          refine Rg.idx (M := M1) Try.underlying23 I3 rfl rfl rfl (hasks.le SA.le) (Le.refl _ _) (by omega) (fun u16_3 a16_3 hg16_3 hu16_3 => ?_)
          obtain rfl : x = a16_3 := Eq.symm (Option.some.inj (hg16_3.symm.trans (by simpa using hx)))
          refine Rg.loadi64 (M := M1) Try.underlying3 rfl rfl (by assumption) (by repeat (first | exact Le.refl _ _ | refine Le.trans (Step.le (by assumption)) ?_)) (fun in16_4 => ?_)
          refine Rg.eqv (v' := .int .i64 x) rfl ?_
          replace in16_4 : -9223372036854775808 ≤ (x : Int) ∧ x ≤ 9223372036854775807 := in16_4
          refine Rg.call rfl rfl E39 (Adv_ok hCj hMj og hxr) (fun r8 w8 h => ?_)
          obtain ⟨rfl, s8, hC8⟩ := h
          obtain ⟨j', hj'⟩ : ∃ j', j' = advI g j x := ⟨_, rfl⟩
          rw [← hj'] at hC8 ⊢
          have h8 := s8.keep hR hne.symm
          have hM8 := s8.lt hMj
          have L8 := Le.trans LA s8.le
          have SA8 := SA.transNew s8 (fun k hk => by omega)
          refine Rg.assign rfl rfl ?_
          refine Rg.nil ?_
          apply T.drawT (M := M1) mixed [] [Asr.eq _, Asr.eq _, Asr.eq _, Asr.ptr (RT.int .i64) x, Asr.eq (.int .i64 x), Asr.eq (.agg #[ug, .int .i64 j'])] 6 -- region 17
          · rfl
          · rfl
          · rfl
          · rfl
          · rfl
          · exact fun p hp => by cases hp
          · exact UOk.none
          · -- its operations
            refine OblsS.cons ?_ ?_
            · intro wD E sD -- 0
              refine Rg.loadaggc (vs := [ug, .int .i64 j]) Try.underlying57 rfl I57 rfl rfl rfl (sD.same0 h8) ?_
              exact Rg.nil ⟨rfl, rfl, _, rfl, rfl, Step.refl _ _⟩
            refine OblsS.cons ?_ ?_
            · intro wD E sD -- 1
              refine Rg.move rfl rfl ?_
              exact Rg.nil ⟨rfl, rfl, _, rfl, rfl, Step.refl _ _⟩
            refine OblsS.cons ?_ ?_
            · intro wD E sD -- 2
              refine Rg.move rfl rfl ?_
              exact Rg.nil ⟨rfl, rfl, _, rfl, rfl, Step.refl _ _⟩
            refine OblsS.cons ?_ ?_
            · intro wD E sD -- 3
              intro x_ hx_; have hx_ : x_ = _ := hx_; subst x_
              intro x_ hx_; have hx_ : x_ = _ := hx_; subst x_
              refine Rg.idx (M := M1) Try.underlying23 I3 rfl rfl rfl ((hasks.le SA8.le).le sD.le) (Le.refl _ _) (by omega) (fun ui ai hgi hui => ?_)
              obtain rfl : x = ai := Eq.symm (Option.some.inj (hgi.symm.trans (by simpa using hx)))
              exact Rg.nil ⟨rfl, rfl, _, rfl, hui, Step.refl _ _⟩
            refine OblsS.cons ?_ ?_
            · intro wD E sD -- 4
              intro v3 hv3
              refine Rg.loadi64 (M := M1) Try.underlying3 rfl rfl (show PtrTo (RT.int .i64) M1 wD v3 x from hv3) (Le.refl _ _) (fun hin => ?_)
              exact Rg.nil ⟨rfl, rfl, _, rfl, rfl, Step.refl _ _⟩
            refine OblsS.cons ?_ ?_
            · intro wD E sD -- 5
              intro x_ hx_; have hx_ : x_ = _ := hx_; subst x_
              intro x_ hx_; have hx_ : x_ = _ := hx_; subst x_
              refine Rg.call rfl rfl E44 (rAdv6_spec (M := M1) (sD.lt hM8) ((ogV.le L8).le sD.le) hjr og.may) (fun r w9 h => ?_)
              obtain ⟨rfl, s⟩ := h
              rw [← hj']
              exact Rg.nil ⟨rfl, rfl, _, rfl, rfl, s⟩
            exact OblsS.nil
          · -- behind it
            intro wD17 sD17
            intro x_ hx_; have hx_ : x_ = _ := hx_; subst x_
            intro x_ hx_; have hx_ : x_ = _ := hx_; subst x_
            intro x_ hx_; have hx_ : x_ = _ := hx_; subst x_
            intro v17_3 hv17_3
            intro x_ hx_; have hx_ : x_ = _ := hx_; subst x_
            intro x_ hx_; have hx_ : x_ = _ := hx_; subst x_
            have h9 := sD17.same0 h8
            refine Rg.storeaggc (M := M1) I57 rfl rfl (by intro x hx; simp at hx; rcases hx with rfl | rfl; exact hug1; rfl) rfl rfl h9 hb9 (fun w10 h10 s10 => ?_)
            have hC10 := (hC8.step sD17 (fun h => h)).step s10 hne
            have hM10 := s10.lt (sD17.lt hM8)
            have L10 := Le.trans L8 (Le.trans sD17.le s10.le)
            have SA10 := (SA8.trans0 sD17).transNew s10 (fun k hk => by omega)
            refine Rg.nil ?_
            refine T.seq ?_
            refine T.region ?_ -- region 18
            refine Rg.move rfl rfl ?_
            refine Rg.loadaggc (vs := [ug, .int .i64 j']) Try.underlying57 rfl I57 rfl rfl rfl h10 ?_
            refine Rg.call rfl rfl E45 (rDoc6_spec (M := M1) hM10 (ogV.le L10) hC10.rng) (fun r11 w11 h => ?_)
            obtain ⟨rfl, s11⟩ := h
            have h11 := s11.same0 h10
            have hM11 := s11.lt hM10
            have hC11 := hC10.step s11 (fun h => h)
            have L11 := Le.trans L10 s11.le
            refine Rg.ine rfl rfl rfl ?_
            refine Rg.move rfl rfl ?_
            refine Rg.gfalse (g := 64) rfl ((fun h => h rfl)) ?_
            refine Rg.gyes rfl rfl ?_
            refine Rg.move rfl rfl ?_
            refine Rg.gyes rfl rfl ?_
            refine Rg.loadaggc (vs := [ug, .int .i64 j']) Try.underlying57 rfl I57 rfl rfl rfl h11 ?_
            refine Rg.gyes rfl rfl ?_
            refine Rg.call rfl rfl E42 (like6_spec (M := M1) hM11 (ogV.le L11) hC11.rng hC11 og.may og.ps) (fun r w12 h => ?_)
            obtain ⟨rfl, s12⟩ := h
            refine Rg.gyes rfl rfl ?_
            refine Rg.not rfl rfl ?_
            refine Rg.eqv (v' := .bool (decide False)) (by simp) ?_
            refine Rg.pickf rfl rfl rfl ?_
            refine Rg.nil ?_
            refine T.iffp rfl ((fun h => h)) ?_
            refine T.skip ?_
            refine T.region ?_ -- region 11
            refine Rg.move rfl rfl ?_
            refine Rg.iadd rfl rfl rfl (by omega) ?_
            refine Rg.assign rfl rfl ?_
            refine Rg.nil ?_
            refine ⟨rfl, (k + 1, j'), (.cons rfl (.cons rfl (.cons rfl (.cons rfl .nil)))), ?_, ?_⟩
            · exact ⟨by simp only; omega, by simp only; omega, s12.lt hM11, (SA10.trans0 s11).trans0 s12, Le.trans L11 s12.le, hC11.step s12 (fun h => h), s12.same0 h11⟩
            · simp only; omega
      · -- c10 False
        refine T.exit ?_
        refine T.seq ?_
        refine T.region ?_ -- region 20
        refine Rg.call rfl rfl E33 (lives6_spec (M := M) (SA.back.lt hM)) (fun rL wL h => ?_)
        obtain ⟨rfl, sL⟩ := h
        refine Rg.assign rfl rfl ?_
        refine Rg.nil ?_
        refine T.ret ?_
        exact Kret1 rfl rfl ⟨rfl, SA.back.trans0 sL⟩
    · -- g10_4 False
      refine Rg.gno rfl rfl rfl rfl ?_
      refine Rg.gno rfl rfl rfl rfl ?_
      refine Rg.pickf rfl rfl rfl ?_
      refine Rg.nil ?_
      refine T.iff rfl ?_
      refine T.exit ?_
      refine T.seq ?_
      refine T.region ?_ -- region 20
      refine Rg.call rfl rfl E33 (lives6_spec (M := M) (SA.back.lt hM)) (fun rL wL h => ?_)
      obtain ⟨rfl, sL⟩ := h
      refine Rg.assign rfl rfl ?_
      refine Rg.nil ?_
      refine T.ret ?_
      exact Kret1 rfl rfl ⟨rfl, SA.back.trans0 sL⟩

end Go.K

/- The walks of Go functions, operation by operation. -/
import Derived.Test.YtohfoenhmkfjkaaGreatDoorKLives16
import Derived.Test.YtohfoenhmkfjkaaGreatDoorKTypes
import Derived.Test.YtohfoenhmkfjkaaGreatDoorProg
import Derived.KernelRfl
namespace Go.K
open Go.Proofs
namespace TKLaw16
theorem I4 : TI Tryz.prog 4 (.bool false) 1 1 := by unfold TI; kernel_rfl -- bool
theorem E14 : Enters Tryz.prog 14 := enters Tryz.func14 rfl (by decide) -- concordance/snap.New
theorem E15 : Enters Tryz.prog 15 := enters Tryz.func15 rfl (by decide) -- concordance/segment.Build
theorem E16 : Enters Tryz.prog 16 := enters Tryz.func16 rfl (by decide) -- (*concordance/snap.Store).Put
theorem E17 : Enters Tryz.prog 17 := enters Tryz.func17 rfl (by decide) -- (*concordance/snap.Store).Drop
theorem E18 : Enters Tryz.prog 18 := enters Tryz.func18 rfl (by decide) -- (*concordance/snap.Store).Held
theorem E19 : Enters Tryz.prog 19 := enters Tryz.func19 rfl (by decide) -- (*concordance/snap.Store).Freed
theorem E20 : Enters Tryz.prog 20 := enters Tryz.func20 rfl (by decide) -- concordance/concordancelaw16.lives
end TKLaw16
open TKLaw16
set_option linter.unusedVariables false
set_option linter.unusedSimpArgs false
set_option maxRecDepth 10000

theorem drop_law {B sb mb : Nat} {u : Value} {n : Int} {ml : List (Int × Nat)} {fr : List Int} {al : Bool} {x : Value} (w0 : World) (hs : St w0 B sb mb u n ml fr) (ha : al = true → ∃ hb, (n, hb) ∈ ml ∧ HeldAt w0 hb 1 x) (hn : al = false → ∀ q ∈ ml, q.1 ≠ n) :
    Spec Tryz.prog 17 #[.pointer (some ⟨sb, 0, none⟩), .int .i64 n] w0 (fun v w => v = .tuple #[.bool al, .int .i64 (if al then 0 else 6)] ∧ (∃ u' ml' fr', St w B sb mb u' n ml' fr' ∧ ∀ q ∈ ml', q.1 ≠ n) ∧ Step allM w0 allM w (fun k => B ≤ k)) := by
  have hz := hs.z
  cases al with
  | false => exact (drop_none w0 hs (hn rfl) hz).mono fun v w ⟨h1, h2⟩ => ⟨h1, ⟨u, ml, fr, by rw [h2]; exact hs, hn rfl⟩, by rw [h2]; exact (Step.refl _ _).widen (fun _ h => h.elim) (fun _ _ => trivial)⟩
  | true =>
    obtain ⟨hb, hm, h0⟩ := ha rfl
    exact (drop_last w0 hs hm h0 (by omega) rfl).mono fun v w ⟨h1, ⟨u', h2⟩, h3⟩ => ⟨h1, ⟨u', _, _, h2, fun q hq => by have := (List.mem_filter.1 hq).2; simpa using this⟩, h3⟩
/-- the store as the law's rounds leave it -/
structure Rnd (w : World) (B sb : Nat) (x : Value) (n : Int) (al : Bool) (mb : Nat) (u : Value) (ml : List (Int × Nat)) (fr : List Int) : Prop where
  s : St w B sb mb u n ml fr
  a : al = true → ∃ hb, (n, hb) ∈ ml ∧ HeldAt w hb 1 x
  d : al = false → ∀ q ∈ ml, q.1 ≠ n
/-- 'concordance/concordancelaw16.SnapNumbers' -/
theorem law_free {xs : List Bool} {v0 : Value} (w0 : World) (hv : (RT.bool.sl).V none' w0 xs v0) :
    Spec Tryz.prog 3 #[v0] w0 (fun v w => v = .bool true ∧ Step allM w0 allM w none') := by
  refine spec_of (args := [_]) (fn := Tryz.f3) Tryz.func3 rfl (n := 72) Tryz.ntmps3 ?_
  have S : Step allM w0 allM w0 none' := (Step.refl _ _).widen (fun _ h => h.elim) (fun _ _ => trivial)
  refine T.seq ?_
  refine T.region ?_ -- region 0
  refine Rg.assign rfl rfl ?_
  refine Rg.nil ?_
  refine T.seq ?_
  refine T.region ?_ -- region 1
  refine Rg.call rfl rfl E14 (new_spec _) (fun r w1 hc => ?_)
  obtain ⟨sb, mb, rfl, hs, s1⟩ := hc 
  have hB := S.size --@step s1
  have := S.size
  replace S := S.trans0 s1
  refine Rg.assign rfl rfl ?_
  refine Rg.nil ?_
  refine T.seq ?_
  refine T.region ?_ -- region 2
  refine Rg.call rfl rfl E15 (build_nil _) (fun r w2 hc => ?_)
  obtain ⟨b1, rfl, s2⟩ := hc 
  replace hs := hs.step0 s2 --@step s2
  have := S.size
  replace S := S.trans0 s2
  refine Rg.move rfl rfl ?_
  refine Rg.extract rfl rfl rfl ?_
  refine Rg.extract rfl rfl rfl ?_
  refine Rg.assign rfl rfl ?_
  refine Rg.assign rfl rfl ?_
  refine Rg.nil ?_
  refine T.seq ?_
  refine T.seq ?_
  refine T.region ?_ -- region 3
  refine Rg.move rfl rfl ?_
  refine Rg.ptreq Tryz.underlying23 rfl rfl rfl ?_
  refine Rg.move rfl rfl ?_
  refine Rg.gfalse (g := 19) rfl ((by simp)) ?_
  refine Rg.gyes rfl rfl ?_
  refine Rg.move rfl rfl ?_
  refine Rg.gyes rfl rfl ?_
  refine Rg.ptreq Tryz.underlying25 rfl rfl rfl ?_
  refine Rg.pickf rfl rfl rfl ?_
  refine Rg.nil ?_
  refine T.iffp rfl ((by simp)) ?_
  refine T.skip ?_
  refine T.seq ?_
  refine T.region ?_ -- region 5
  refine Rg.assign rfl rfl ?_
  refine Rg.nil ?_
  refine T.seq ?_
  refine T.region ?_ -- region 6
  refine Rg.assign rfl rfl ?_
  refine Rg.nil ?_
  refine T.seq ?_
  refine T.seq ?_
  refine T.region ?_ -- region 7
  refine Rg.assign rfl rfl ?_
  refine Rg.nil ?_
  refine T.block ?_
  refine T.loop (σ := Nat × Int × Bool) (fun q => [(0, v0), (3, .pointer (some ⟨sb, 0, none⟩)), (4, .pointer (some ⟨b1, 0, none⟩)), (6, .int .i64 q.2.1), (7, .bool q.2.2), (8, .int .i64 (q.1 : Int))]) (fun q w => (∃ mb u ml fr, Rnd w w0.heap.size sb (.pointer (some ⟨b1, 0, none⟩)) q.2.1 q.2.2 mb u ml fr) ∧ q.2.1 ≤ (q.1 : Int) ∧ q.1 ≤ 20 ∧ Step allM w0 allM w none') (fun q => 20 - q.1) (0, 0, false) (.cons rfl (.cons rfl (.cons rfl (.cons rfl (.cons rfl (.cons rfl .nil)))))) ?_ ?_ -- loop 0
  · exact ⟨⟨mb, _, [], [], hs, (fun h => by cases h), fun _ q hq => by cases hq⟩, by simp, by simp, S⟩
  · rintro ⟨i, n, al⟩ w ⟨⟨mb, u, ml, fr, h⟩, hni, hi, S⟩
    dsimp only at h hni hi ⊢
    have hz := h.s.z
    have hkk := h.s.k
    refine T.seq ?_
    refine T.seq ?_
    refine T.region ?_ -- region 8
    refine Rg.move rfl rfl ?_
    refine Rg.move rfl rfl ?_
    refine Rg.lensl Tryz.underlying22 rfl hv rfl ?_
    refine Rg.ilt rfl rfl rfl ?_
    refine Rg.move rfl rfl ?_
    refine Rg.gsplitp (g := 27) rfl (fun g8_4 => ?_) (fun g8_4 => ?_)
    · -- g8_4 True
      refine Rg.gyes rfl rfl ?_
      refine Rg.move rfl rfl ?_
      refine Rg.gyes rfl rfl ?_
      refine Rg.ilt rfl rfl rfl ?_
      refine Rg.pickt rfl rfl rfl ?_
      refine Rg.nil ?_
      refine T.ifp rfl (fun c8 => ?_) (fun c8 => ?_)
      · -- c8 True
        refine T.skip ?_
        refine T.seq ?_
        refine T.block ?_
        refine T.seq ?_
        refine T.seq ?_
        refine T.region ?_ -- region 10
        refine Rg.move rfl rfl ?_
        refine Rg.move rfl rfl ?_
        refine Rg.idx (M := none') Tryz.underlying22 I4 rfl rfl rfl hv (S.any none').le (by omega) (fun u10 b10 hg10 hu10 => ?_) --@ptr RT.bool ;; b10
        refine Rg.load (M := none') Tryz.underlying4 rfl rfl rfl rfl rfl hu10 (Le.refl _ _) (fun vb hvb => ?_)
        obtain rfl := V_bool.1 hvb
        refine Rg.eqv (v' := .bool (decide (b10 = true))) (by simp) ?_
        refine Rg.nil ?_
        refine T.ifp rfl (fun c10 => ?_) (fun c10 => ?_)
        · -- c10 True
          refine T.seq ?_
          refine T.region ?_ -- region 11
          refine Rg.move rfl rfl ?_
          refine Rg.move rfl rfl ?_
          refine Rg.call rfl rfl E16 (put_spec _ h.s (by omega)) (fun r11 w11 hc => ?_)
          obtain ⟨hb, rfl, hs11, h11, _, s11⟩ := hc 
          replace S := S.trans s11 (fun b hb (h : _ ≤ _) => by omega)
          refine Rg.assign rfl rfl ?_
          refine Rg.nil ?_
          refine T.seq ?_
          refine T.seq ?_
          refine T.region ?_ -- region 12
          refine Rg.move rfl rfl ?_
          refine Rg.move rfl rfl ?_
          refine Rg.iadd rfl rfl rfl (by omega) ?_
          refine Rg.ine rfl rfl rfl ?_
          refine Rg.nil ?_
          refine T.iffp rfl ((fun h => h rfl)) ?_
          refine T.skip ?_
          refine T.seq ?_
          refine T.region ?_ -- region 14
          refine Rg.move rfl rfl ?_
          refine Rg.assign rfl rfl ?_
          refine Rg.nil ?_
          refine T.seq ?_
          refine T.region ?_ -- region 15
          refine Rg.assign rfl rfl ?_
          refine Rg.nil ?_
          refine T.exit ?_
          refine T.region ?_ -- region 9
          refine Rg.move rfl rfl ?_
          refine Rg.iadd rfl rfl rfl (by omega) ?_
          refine Rg.assign rfl rfl ?_
          refine Rg.nil ?_
          refine ⟨rfl, (i + 1, n + 1, true), (.cons rfl (.cons rfl (.cons rfl (.cons rfl (.cons rfl (.cons rfl .nil)))))), ?_, ?_⟩
          · exact ⟨⟨mb, u, _, fr, hs11, (fun _ => ⟨hb, (insI_mem _ _ _).2 (.inl rfl), h11⟩), fun h => by cases h⟩, by simp; omega, by simp; omega, S⟩
          · show 20 - (i + 1) < 20 - i; omega
        · -- c10 False
          refine T.skip ?_
          refine T.seq ?_
          refine T.region ?_ -- region 16
          refine Rg.move rfl rfl ?_
          refine Rg.move rfl rfl ?_
          refine Rg.call rfl rfl E17 (drop_law _ h.s h.a h.d) (fun r16 w16 hc => ?_)
          obtain ⟨rfl, ⟨u', ml', fr', hs16, hd16⟩, s16⟩ := hc 
          replace S := S.trans s16 (fun b hb (h : _ ≤ _) => by omega)
          refine Rg.move rfl rfl ?_
          refine Rg.extract rfl rfl rfl ?_
          refine Rg.extract rfl rfl rfl ?_
          refine Rg.assign rfl rfl ?_
          refine Rg.assign rfl rfl ?_
          refine Rg.nil ?_
          refine T.seq ?_
          refine T.seq ?_
          refine T.region ?_ -- region 17
          refine Rg.move rfl rfl ?_
          refine Rg.move rfl rfl ?_
          refine Rg.bne Tryz.underlying4 rfl rfl rfl ?_
          refine Rg.move rfl rfl ?_
          refine Rg.gfalse (g := 54) rfl ((by simp)) ?_
          refine Rg.gyes rfl rfl ?_
          refine Rg.move rfl rfl ?_
          refine Rg.gyes rfl rfl ?_
          refine Rg.ieq rfl rfl rfl ?_
          refine Rg.gyes rfl rfl ?_
          refine Rg.move rfl rfl ?_
          refine Rg.gyes rfl rfl ?_
          refine Rg.bne Tryz.underlying4 rfl rfl rfl ?_
          refine Rg.pickf rfl rfl rfl ?_
          refine Rg.nil ?_
          refine T.iffp rfl ((by cases al <;> simp)) ?_
          refine T.skip ?_
          refine T.region ?_ -- region 19
          refine Rg.assign rfl rfl ?_
          refine Rg.nil ?_
          refine T.region ?_ -- region 9
          refine Rg.move rfl rfl ?_
          refine Rg.iadd rfl rfl rfl (by omega) ?_
          refine Rg.assign rfl rfl ?_
          refine Rg.nil ?_
          refine ⟨rfl, (i + 1, n, false), (.cons rfl (.cons rfl (.cons rfl (.cons rfl (.cons rfl (.cons rfl .nil)))))), ?_, ?_⟩
          · exact ⟨⟨mb, u', ml', fr', hs16, (fun h => by cases h), fun _ => hd16⟩, by simp; omega, by simp; omega, S⟩
          · show 20 - (i + 1) < 20 - i; omega
      · -- c8 False
        refine T.exit ?_
        refine T.seq ?_
        refine T.region ?_ -- region 20
        refine Rg.move rfl rfl ?_
        refine Rg.call rfl rfl E18 (held_spec _ h.s) (fun r20 w20 hc => ?_)
        obtain ⟨⟨a20, c20, rfl⟩, s20⟩ := hc 
        have hs20 := h.s.step0 s20 --@step s20
        have := S.size
        replace S := S.trans0 s20
        refine Rg.lenraw Tryz.underlying32 rfl rfl ?_
        refine Rg.move rfl rfl ?_
        refine Rg.call rfl rfl E19 (freed_spec _ hs20) (fun r21 w21 hc => ?_)
        obtain ⟨⟨a21, c21, rfl⟩, s21⟩ := hc --@step s21
        have := S.size
        replace S := S.trans0 s21
        refine Rg.lenraw Tryz.underlying32 rfl rfl ?_
        refine Rg.iadd rfl rfl rfl (by omega) ?_
        refine Rg.move rfl rfl ?_
        refine Rg.ieq rfl rfl rfl ?_
        refine Rg.move rfl rfl ?_
        refine Rg.gtrue (g := 69) rfl (hkk) ?_
        refine Rg.gyes rfl rfl ?_
        refine Rg.call rfl rfl E20 (lives_spec _) (fun r22 w22 hc => ?_)
        obtain ⟨rfl, s22⟩ := hc --@step s22
        --@bool true
        have := S.size
        replace S := S.trans0 s22
        refine Rg.pickt rfl rfl rfl ?_
        refine Rg.assign rfl rfl ?_
        refine Rg.nil ?_
        refine T.ret ?_
        exact Kret1 rfl rfl ⟨rfl, S⟩
    · -- g8_4 False
      refine Rg.gno rfl rfl rfl rfl ?_
      refine Rg.gno rfl rfl rfl rfl ?_
      refine Rg.pickf rfl rfl rfl ?_
      refine Rg.nil ?_
      refine T.iff rfl ?_
      refine T.exit ?_
      refine T.seq ?_
      refine T.region ?_ -- region 20
      refine Rg.move rfl rfl ?_
      refine Rg.call rfl rfl E18 (held_spec _ h.s) (fun r20 w20 hc => ?_)
      obtain ⟨⟨a20, c20, rfl⟩, s20⟩ := hc 
      have hs20 := h.s.step0 s20 --@step s20
      have := S.size
      replace S := S.trans0 s20
      refine Rg.lenraw Tryz.underlying32 rfl rfl ?_
      refine Rg.move rfl rfl ?_
      refine Rg.call rfl rfl E19 (freed_spec _ hs20) (fun r21 w21 hc => ?_)
      obtain ⟨⟨a21, c21, rfl⟩, s21⟩ := hc --@step s21
      have := S.size
      replace S := S.trans0 s21
      refine Rg.lenraw Tryz.underlying32 rfl rfl ?_
      refine Rg.iadd rfl rfl rfl (by omega) ?_
      refine Rg.move rfl rfl ?_
      refine Rg.ieq rfl rfl rfl ?_
      refine Rg.move rfl rfl ?_
      refine Rg.gtrue (g := 69) rfl (hkk) ?_
      refine Rg.gyes rfl rfl ?_
      refine Rg.call rfl rfl E20 (lives_spec _) (fun r22 w22 hc => ?_)
      obtain ⟨rfl, s22⟩ := hc --@step s22
      --@bool true
      have := S.size
      replace S := S.trans0 s22
      refine Rg.pickt rfl rfl rfl ?_
      refine Rg.assign rfl rfl ?_
      refine Rg.nil ?_
      refine T.ret ?_
      exact Kret1 rfl rfl ⟨rfl, S⟩

theorem SnapNumbers_spec {M : PSet} {xs : List Bool} {v0 : Value} {w0 : World} (hM : Lt M w0) (hv : (RT.bool.sl).V M w0 xs v0) : Spec Tryz.prog 3 #[v0] w0 (fun v w => v = .bool true ∧ Step M w0 M w none') :=
  (law_free w0 (hv.le Le.none)).mono fun v w ⟨h1, h2⟩ => ⟨h1, h2.any M⟩
end Go.K

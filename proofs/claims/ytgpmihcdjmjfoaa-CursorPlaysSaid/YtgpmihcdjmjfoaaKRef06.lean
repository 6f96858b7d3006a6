/- The walks of Go functions, operation by operation. -/
import Derived.Test.YtgpmihcdjmjfoaaKTypes
import Derived.Test.YtgpmihcdjmjfoaaKNum
import Derived.Test.YtgpmihcdjmjfoaaKPost
import Derived.Test.YtgpmihcdjmjfoaaKPtr
import Derived.Test.YtgpmihcdjmjfoaaKCur
import Derived.Test.YtgpmihcdjmjfoaaKCur2
import Derived.Test.YtgpmihcdjmjfoaaKCell2
import Derived.Test.YtgpmihcdjmjfoaaKDraw
import Derived.Test.YtgpmihcdjmjfoaaKPosting
import Derived.Test.YtgpmihcdjmjfoaaKMake2
import Derived.Test.YtgpmihcdjmjfoaaKCursor
import Derived.Test.YtgpmihcdjmjfoaaKAdv
import Derived.Test.YtgpmihcdjmjfoaaKBoth
import Derived.Test.YtgpmihcdjmjfoaaKRef04
import Derived.Test.YtgpmihcdjmjfoaaKLives6
import Derived.Test.YtgpmihcdjmjfoaaProg
import Derived.KernelRfl
namespace Go.K
open Go.Proofs
namespace TKRef06
theorem I23 : TI Try.prog 23 (.slice none 0 0) 1 24 := by unfold TI; kernel_rfl -- []int
theorem I28 : TI Try.prog 28 (.slice none 0 0) 1 24 := by unfold TI; kernel_rfl -- []api.Posting
theorem I37 : TI Try.prog 37 (.agg #[(.int .i64 0), (.slice none 0 0)]) 2 32 := by unfold TI; kernel_rfl -- api.Posting
theorem I57 : TI Try.prog 57 (.agg #[(.slice none 0 0), (.int .i64 0)]) 2 32 := by unfold TI; kernel_rfl -- concordanceref06.C
theorem B57 : placesOf Try.prog 57 = [(0, 1), (1, 1)].map some := by kernel_rfl
theorem E23 : Enters Try.prog 23 := enters Try.func23 rfl (by decide) -- concordance/concordanceref01.Same
theorem E37 : Enters Try.prog 37 := enters Try.func37 rfl (by decide) -- (*concordance/cursor.Cursor).Doc
theorem E40 : Enters Try.prog 40 := enters Try.func40 rfl (by decide) -- (*concordance/cursor.Cursor).Places
theorem E45 : Enters Try.prog 45 := enters Try.func45 rfl (by decide) -- concordance/concordanceref06.Doc
theorem E71 : Enters Try.prog 71 := enters Try.func71 rfl (by decide) -- concordance/concordanceref06.Places
theorem E72 : Enters Try.prog 72 := enters Try.func72 rfl (by decide) -- (*concordance/cursor.Cursor).Count
end TKRef06
open TKRef06
set_option linter.unusedVariables false
set_option linter.unusedSimpArgs false
set_option maxRecDepth 10000

/-- 'concordance/concordanceref06.New' -/
theorem rNew6_spec {M : PSet} {w0 : World} {u : Value} {l : List Po} (hu : ((RT.po).sl).V M w0 l u) :
    Spec Try.prog 41 #[u] w0 (fun v' w' => v' = .agg #[u, .int .i64 (-1)] ∧ Step M w0 M w' none') := by
  refine spec_of (args := [u]) (fn := Try.f41) Try.func41 rfl (n := 5) Try.ntmps41 ?_
  refine T.seq ?_
  refine T.region ?_ -- region 0
  refine Rg.alloc M I57 rfl (fun b1 w1 z1 z1' h1 s1 => ?_)
  refine Rg.nil ?_
  refine T.seq ?_
  refine T.region ?_ -- region 1
  refine Rg.move rfl rfl ?_
  refine Rg.build (places := [(0, 1), (1, 1)]) Try.underlying57 I57 B57 rfl ⟨_, _, rfl, rfl, _, _, rfl, rfl, rfl⟩ (out := [_, _]) ⟨0, [_], rfl, V_cells hu, by simp [Value.cells], 1, [_], rfl, rfl, by simp [Value.cells], rfl⟩ ?_
  refine Rg.storeaggc (M := ins M b1) I57 rfl rfl (by intro x hx; simp at hx; rcases hx with rfl | rfl; exact V_one hu rfl rfl; rfl) rfl rfl h1 (.inl rfl) (fun w2 h2 s2 => ?_)
  refine Rg.nil ?_
  refine T.ret ?_
  refine KretC1 rfl rfl Try.underlying57 rfl I57 rfl h2 ⟨rfl, ?_⟩
  exact ((s1.trans0 (Step.refl _ _)).transNew s2 (fun k hk => by subst hk; omega)).back

/-- 'concordance/concordanceref06.Next' -/
theorem rNext6_spec {M : PSet} {w0 : World} {u : Value} {l : List Po} {i : Int} (hM : Lt M w0) (hu : ((RT.po).sl).V M w0 l u) (hi : -1 ≤ i ∧ i ≤ l.length) :
    Spec Try.prog 43 #[.agg #[u, .int .i64 i]] w0 (fun v' w' => v' = .agg #[u, .int .i64 (nextI l i)] ∧ Step M w0 M w' none') := by
  have hlen := V_sl_len hu
  have hu1c := V_one hu rfl rfl
  refine spec_of (args := [.agg #[u, .int .i64 i]]) (fn := Try.f43) Try.func43 rfl (n := 14) Try.ntmps43 ?_
  refine T.seq ?_
  refine T.region ?_ -- region 0
  refine Rg.box M rfl rfl (fun b1 w1 z1 z1' h1 s1 => ?_)
  change w1.heap[b1]? = some (.cells #[u, .int .i64 i] _ _) at h1
  have hM1 := s1.lt hM
  have hu1 := hu.le s1.le
  refine Rg.alloc (ins M b1) I57 rfl (fun b2 w2 z2 z2' h2 s2 => ?_)
  have h12 := s2.same0 h1
  have y1 := s1.size
  have y2 := s2.size
  refine Rg.nil ?_
  refine T.seq ?_
  refine T.seq ?_
  refine T.region ?_ -- region 1
  refine Rg.fieldc Try.underlying57 rfl rfl I3 (by decide) rfl rfl ?_
  refine Rg.loadc Try.underlying3 rfl rfl rfl (by assumption) rfl ?_
  refine Rg.fieldc Try.underlying57 rfl rfl I28 (by decide) rfl rfl ?_
  refine Rg.loadc Try.underlying28 rfl rfl rfl (by assumption) rfl ?_
  refine Rg.lensl Try.underlying28 rfl hu1 rfl ?_
  refine Rg.ilt rfl rfl rfl ?_
  refine Rg.nil ?_
  refine T.ifp rfl (fun c1 => ?_) (fun c1 => ?_)
  · -- c1 True
    refine T.region ?_ -- region 2
    refine Rg.fieldc Try.underlying57 rfl rfl I3 (by decide) rfl rfl ?_
    refine Rg.loadc Try.underlying3 rfl rfl rfl (by assumption) rfl ?_
    refine Rg.iadd rfl rfl rfl (by omega) ?_
    refine Rg.fieldc Try.underlying57 rfl rfl I3 (by decide) rfl rfl ?_
    refine Rg.storec (M := ins (ins M b1) b2) I3 rfl rfl h12 rfl rfl (.inr (.inl rfl)) (fun w3 h3 s3 => ?_)
    change w3.heap[b1]? = some (.cells #[u, .int .i64 (i + 1)] _ _) at h3
    have h23 := s3.keep h2 (by omega)
    obtain ⟨wz, hwz, hz1, hz2, SZ⟩ : ∃ wz, wz = w3 ∧ wz.heap[b1]? = some (.cells [u, .int .i64 (nextI l i)].toArray 57 (0, 0)) ∧ wz.heap[b2]? = some (.cells #[.slice none 0 0, .int .i64 0] 57 (0, 0)) ∧ Step M w0 (ins (ins M b1) b2) wz none' := ⟨_, rfl, by unfold nextI; rw [if_pos c1]; exact h3, h23, (s1.trans0 s2).transNew s3 (fun k hk => by subst hk; omega)⟩
    subst hwz
    refine Rg.nil ?_
    refine T.seq ?_
    refine T.region ?_ -- region 3
    refine Rg.loadaggc (vs := [u, .int .i64 (nextI l i)]) Try.underlying57 rfl I57 rfl rfl rfl hz1 ?_
    refine Rg.storeaggc (M := ins (ins M b1) b2) I57 rfl rfl (by intro x hx; simp at hx; rcases hx with rfl | rfl; exact hu1c; rfl) rfl rfl hz2 (.inl rfl) (fun w4 h4 s4 => ?_)
    refine Rg.nil ?_
    refine T.ret ?_
    refine KretC1 rfl rfl Try.underlying57 rfl I57 rfl h4 ⟨rfl, ?_⟩
    exact (SZ.transNew s4 (fun k hk => by subst hk; omega)).back
  · -- c1 False
    obtain ⟨wz, hwz, hz1, hz2, SZ⟩ : ∃ wz, wz = w2 ∧ wz.heap[b1]? = some (.cells [u, .int .i64 (nextI l i)].toArray 57 (0, 0)) ∧ wz.heap[b2]? = some (.cells #[.slice none 0 0, .int .i64 0] 57 (0, 0)) ∧ Step M w0 (ins (ins M b1) b2) wz none' := ⟨_, rfl, by unfold nextI; rw [if_neg c1]; exact h12, h2, s1.trans0 s2⟩
    subst hwz
    refine T.skip ?_
    refine T.seq ?_
    refine T.region ?_ -- region 3
    refine Rg.loadaggc (vs := [u, .int .i64 (nextI l i)]) Try.underlying57 rfl I57 rfl rfl rfl hz1 ?_
    refine Rg.storeaggc (M := ins (ins M b1) b2) I57 rfl rfl (by intro x hx; simp at hx; rcases hx with rfl | rfl; exact hu1c; rfl) rfl rfl hz2 (.inl rfl) (fun w4 h4 s4 => ?_)
    refine Rg.nil ?_
    refine T.ret ?_
    refine KretC1 rfl rfl Try.underlying57 rfl I57 rfl h4 ⟨rfl, ?_⟩
    exact (SZ.transNew s4 (fun k hk => by subst hk; omega)).back

/-- 'concordance/concordanceref06.Doc' -/
theorem rDoc6_spec {M : PSet} {w0 : World} {u : Value} {l : List Po} {i : Int} (hM : Lt M w0) (hu : ((RT.po).sl).V M w0 l u) (hi : -1 ≤ i ∧ i ≤ l.length) :
    Spec Try.prog 45 #[.agg #[u, .int .i64 i]] w0 (fun v' w' => v' = .int .i64 (docAt l i) ∧ Step M w0 M w' none') := by
  have hlen := V_sl_len hu
  refine spec_of (args := [.agg #[u, .int .i64 i]]) (fn := Try.f45) Try.func45 rfl (n := 19) Try.ntmps45 ?_
  refine T.seq ?_
  refine T.region ?_ -- region 0
  refine Rg.box M rfl rfl (fun b1 w1 z1 z1' h1 s1 => ?_)
  change w1.heap[b1]? = some (.cells #[u, .int .i64 i] _ _) at h1
  have hM1 := s1.lt hM
  have hu1 := hu.le s1.le
  refine Rg.assign rfl rfl ?_
  refine Rg.nil ?_
  refine T.seq ?_
  refine T.seq ?_
  refine T.region ?_ -- region 1
  refine Rg.fieldc Try.underlying57 rfl rfl I3 (by decide) rfl rfl ?_
  refine Rg.loadc Try.underlying3 rfl rfl rfl (by assumption) rfl ?_
  refine Rg.ilt rfl rfl rfl ?_
  refine Rg.nil ?_
  refine T.ifp rfl (fun c1 => ?_) (fun c1 => ?_)
  · -- c1 True
    refine T.seq ?_
    refine T.region ?_ -- region 2
    refine Rg.assign rfl rfl ?_
    refine Rg.nil ?_
    refine T.ret ?_
    exact Kret1 rfl rfl ⟨by rw [docAt_neg c1], s1.back⟩
  · -- c1 False
    refine T.skip ?_
    refine T.seq ?_
    refine T.seq ?_
    refine T.region ?_ -- region 3
    refine Rg.fieldc Try.underlying57 rfl rfl I3 (by decide) rfl rfl ?_
    refine Rg.loadc Try.underlying3 rfl rfl rfl (by assumption) rfl ?_
    refine Rg.fieldc Try.underlying57 rfl rfl I28 (by decide) rfl rfl ?_
    refine Rg.loadc Try.underlying28 rfl rfl rfl (by assumption) rfl ?_
    refine Rg.lensl Try.underlying28 rfl hu1 rfl ?_
    refine Rg.ige rfl rfl rfl ?_
    refine Rg.nil ?_
    refine T.ifp rfl (fun c3 => ?_) (fun c3 => ?_)
    · -- c3 True
      refine T.seq ?_
      refine T.region ?_ -- region 4
      refine Rg.assign rfl rfl ?_
      refine Rg.nil ?_
      refine T.ret ?_
      exact Kret1 rfl rfl ⟨by rw [docAt_end c3], s1.back⟩
    · -- c3 False
      obtain ⟨j, rfl⟩ : ∃ j : Nat, i = j := ⟨i.toNat, by omega⟩
      obtain ⟨⟨d, ps⟩, hx⟩ : ∃ x, l[j]? = some x := ⟨_, List.getElem?_eq_getElem (by omega)⟩
      refine T.skip ?_
      refine T.seq ?_
      refine T.region ?_ -- region 5
      refine Rg.fieldc Try.underlying57 rfl rfl I28 (by decide) rfl rfl ?_
      refine Rg.loadc Try.underlying28 rfl rfl rfl (by assumption) rfl ?_
      refine Rg.fieldc Try.underlying57 rfl rfl I3 (by decide) rfl rfl ?_
      refine Rg.loadc Try.underlying3 rfl rfl rfl (by assumption) rfl ?_

      refine Rg.idx (M := M) Try.underlying28 I37 rfl rfl rfl (hu1.le (Le.close hM s1)) (Le.refl _ _) (by omega) (fun u5_4 a5_4 hg5_4 hu5_4 => ?_)
      obtain rfl : (d, ps) = a5_4 := Eq.symm (Option.some.inj (hg5_4.symm.trans (by rw [Int.toNat_natCast]; exact hx)))
      refine Rg.fieldAddr (M := M) (A := RT.po) (B := RT.int .i64) Try.underlying37 rfl rfl I3 (by decide) (po0) rfl rfl (by decide) (by assumption) (by repeat (first | exact Le.refl _ _ | refine Le.trans (Step.le (by assumption)) ?_)) (fun u5_5 hu5_5 => ?_)
      refine Rg.loadi64 (M := M) Try.underlying3 rfl rfl (by assumption) (by repeat (first | exact Le.refl _ _ | refine Le.trans (Step.le (by assumption)) ?_)) (fun in5_6 => ?_)
      refine Rg.eqv (v' := .int .i64 d) rfl ?_
      replace in5_6 : -9223372036854775808 ≤ (d : Int) ∧ d ≤ 9223372036854775807 := in5_6
      refine Rg.assign rfl rfl ?_
      refine Rg.nil ?_
      refine T.ret ?_
      exact Kret1 rfl rfl ⟨by rw [docAt_get hx], s1.back⟩

/-- 'concordance/concordanceref06.Places' -/
theorem rPlaces6_spec {M : PSet} {w0 : World} {u : Value} {l : List Po} {i : Int} (hM : Lt M w0) (hu : ((RT.po).sl).V M w0 l u) (hi : -1 ≤ i ∧ i ≤ l.length) :
    Spec Try.prog 71 #[.agg #[u, .int .i64 i]] w0 (fun v' w' => ((RT.int .i64).sl).V M w' (placesAt l i) v' ∧ Step M w0 M w' none') := by
  have hlen := V_sl_len hu
  refine spec_of (args := [.agg #[u, .int .i64 i]]) (fn := Try.f71) Try.func71 rfl (n := 21) Try.ntmps71 ?_
  refine T.seq ?_
  refine T.region ?_ -- region 0
  refine Rg.box M rfl rfl (fun b1 w1 z1 z1' h1 s1 => ?_)
  change w1.heap[b1]? = some (.cells #[u, .int .i64 i] _ _) at h1
  have hM1 := s1.lt hM
  have hu1 := hu.le s1.le
  refine Rg.assign rfl rfl ?_
  refine Rg.nil ?_
  refine T.seq ?_
  refine T.seq ?_
  refine T.region ?_ -- region 1
  refine Rg.fieldc Try.underlying57 rfl rfl I3 (by decide) rfl rfl ?_
  refine Rg.loadc Try.underlying3 rfl rfl rfl (by assumption) rfl ?_
  refine Rg.ilt rfl rfl rfl ?_
  refine Rg.move rfl rfl ?_
  refine Rg.gsplitp (g := 6) rfl (fun g1_3 => ?_) (fun g1_3 => ?_)
  · -- g1_3 True
    refine Rg.gno rfl rfl rfl rfl ?_
    refine Rg.gno rfl rfl rfl rfl ?_
    refine Rg.gno rfl rfl rfl rfl ?_
    refine Rg.gno rfl rfl rfl rfl ?_
    refine Rg.gno rfl rfl rfl rfl ?_
    refine Rg.gno rfl rfl rfl rfl ?_
    refine Rg.pickt rfl rfl rfl ?_
    refine Rg.nil ?_
    refine T.ift rfl ?_
    refine T.seq ?_
    refine T.region ?_ -- region 2
    refine Rg.assign rfl rfl ?_
    refine Rg.nil ?_
    refine T.ret ?_
    have hno : placesAt l i = [] := by
      unfold placesAt
      by_cases h0 : i < 0
      · rw [if_pos h0]
      · rw [if_neg h0, List.getElem?_eq_none (by omega)]
    exact Kret1 rfl rfl ⟨by rw [hno]; exact V_nil, s1.back⟩
  · -- g1_3 False
    refine Rg.gyes rfl rfl ?_
    refine Rg.fieldc Try.underlying57 rfl rfl I3 (by decide) rfl rfl ?_
    refine Rg.gyes rfl rfl ?_
    refine Rg.loadc Try.underlying3 rfl rfl rfl (by assumption) rfl ?_
    refine Rg.gyes rfl rfl ?_
    refine Rg.fieldc Try.underlying57 rfl rfl I28 (by decide) rfl rfl ?_
    refine Rg.gyes rfl rfl ?_
    refine Rg.loadc Try.underlying28 rfl rfl rfl (by assumption) rfl ?_
    refine Rg.gyes rfl rfl ?_
    refine Rg.lensl Try.underlying28 rfl hu1 rfl ?_
    refine Rg.gyes rfl rfl ?_
    refine Rg.ige rfl rfl rfl ?_
    refine Rg.pickf rfl rfl rfl ?_
    refine Rg.nil ?_
    refine T.ifp rfl (fun c1 => ?_) (fun c1 => ?_)
    · -- c1 True
      refine T.seq ?_
      refine T.region ?_ -- region 2
      refine Rg.assign rfl rfl ?_
      refine Rg.nil ?_
      refine T.ret ?_
      have hno : placesAt l i = [] := by
        unfold placesAt
        by_cases h0 : i < 0
        · rw [if_pos h0]
        · rw [if_neg h0, List.getElem?_eq_none (by omega)]
      exact Kret1 rfl rfl ⟨by rw [hno]; exact V_nil, s1.back⟩
    · -- c1 False
      obtain ⟨j, rfl⟩ : ∃ j : Nat, i = j := ⟨i.toNat, by omega⟩
      obtain ⟨⟨d, ps⟩, hx⟩ : ∃ x, l[j]? = some x := ⟨_, List.getElem?_eq_getElem (by omega)⟩
      refine T.skip ?_
      refine T.seq ?_
      refine T.region ?_ -- region 3
      refine Rg.fieldc Try.underlying57 rfl rfl I28 (by decide) rfl rfl ?_
      refine Rg.loadc Try.underlying28 rfl rfl rfl (by assumption) rfl ?_
      refine Rg.fieldc Try.underlying57 rfl rfl I3 (by decide) rfl rfl ?_
      refine Rg.loadc Try.underlying3 rfl rfl rfl (by assumption) rfl ?_

      refine Rg.idx (M := M) Try.underlying28 I37 rfl rfl rfl (hu1.le (Le.close hM s1)) (Le.refl _ _) (by omega) (fun u3_4 a3_4 hg3_4 hu3_4 => ?_)
      obtain rfl : (d, ps) = a3_4 := Eq.symm (Option.some.inj (hg3_4.symm.trans (by rw [Int.toNat_natCast]; exact hx)))
      refine Rg.fieldAddr (M := M) (A := RT.po) (B := (RT.int .i64).sl) Try.underlying37 rfl rfl I23 (by decide) (po1) rfl rfl (by decide) (by assumption) (by repeat (first | exact Le.refl _ _ | refine Le.trans (Step.le (by assumption)) ?_)) (fun u3_5 hu3_5 => ?_)
      refine Rg.load (M := M) Try.underlying23 rfl rfl rfl rfl rfl (by assumption) (by repeat (first | exact Le.refl _ _ | refine Le.trans (Step.le (by assumption)) ?_)) (fun v3_6 hv3_6 => ?_)
      replace hv3_6 : ((RT.int .i64).sl).V M _ ps v3_6 := hv3_6
      refine Rg.assign rfl rfl ?_
      refine Rg.nil ?_
      refine T.ret ?_
      have hpl : placesAt l (j : Int) = ps := by unfold placesAt; rw [if_neg (by omega), Int.toNat_natCast, hx]
      exact Kret1 rfl rfl ⟨by rw [hpl]; exact hv3_6, s1.back⟩

/-- 'concordance/concordanceref06.Advance' -/
theorem rAdv6_spec {M : PSet} {w0 : World} {u : Value} {l : List Po} {i doc : Int} (hM : Lt M w0) (hu : ((RT.po).sl).V M w0 l u) (hi : -1 ≤ i ∧ i ≤ l.length) (hm : mayPo (-1) l = true) :
    Spec Try.prog 44 #[.agg #[u, .int .i64 i], .int .i64 doc] w0 (fun v' w' => v' = .agg #[u, .int .i64 (advI l i doc)] ∧ Step M w0 M w' none') := by
  have hlen := V_sl_len hu
  have hu1c := V_one hu rfl rfl
  refine spec_of (args := [.agg #[u, .int .i64 i], .int .i64 doc]) (fn := Try.f44) Try.func44 rfl (n := 22) Try.ntmps44 ?_
  refine T.seq ?_
  refine T.region ?_ -- region 0
  refine Rg.box M rfl rfl (fun b1 w1 z1 z1' h1 s1 => ?_)
  change w1.heap[b1]? = some (.cells #[u, .int .i64 i] _ _) at h1
  have hM1 := s1.lt hM
  have hu1 := hu.le s1.le
  refine Rg.alloc (ins M b1) I57 rfl (fun b2 w2 z2 z2' h2 s2 => ?_)
  have h12 := s2.same0 h1
  have y1 := s1.size
  have y2 := s2.size
  have S2 := s1.trans0 s2
  have hM2 := s2.lt hM1
  have hne : b1 ≠ b2 := by omega
  obtain ⟨M1, hM1e⟩ : ∃ M1, M1 = ins (ins M b1) b2 := ⟨_, rfl⟩
  have hb1M : M1 b1 := by rw [hM1e]; exact .inr (.inl rfl)
  have hb2M : M1 b2 := by rw [hM1e]; exact .inl rfl
  rw [← hM1e] at S2 hM2
  refine Rg.nil ?_
  refine T.seq ?_
  refine T.block ?_
  refine T.loop (σ := Int) (fun s => [(1, .int .i64 doc), (2, .pointer (some ⟨b1, 0, none⟩)), (4, .pointer (some ⟨b2, 0, none⟩))]) (fun s w => i ≤ s ∧ s ≤ l.length ∧ (∀ t : Int, i ≤ t → t < s → docAt l t < doc) ∧ Lt M1 w ∧ w.heap[b1]? = some (.cells [u, .int .i64 s].toArray 57 (0, 0)) ∧ w.heap[b2]? = some (.cells #[.slice none 0 0, .int .i64 0] 57 (0, 0)) ∧ Step M w0 M1 w none') (fun s => (l.length - s).toNat) i (.cons rfl (.cons rfl (.cons rfl .nil))) ?_ ?_ -- loop 0
  · exact ⟨Int.le_refl _, hi.2, fun t h1 h2 => by omega, hM2, h12, h2, S2⟩
  · rintro j w3 ⟨hij, hjl, hlt, hM3, g1, g2, S3⟩
    refine T.seq ?_
    refine T.seq ?_
    refine T.region ?_ -- region 1
    refine Rg.loadaggc (vs := [u, .int .i64 j]) Try.underlying57 rfl I57 rfl rfl rfl g1 ?_
    refine Rg.call rfl rfl E45 (rDoc6_spec (M := M1) hM3 (hu.le S3.le) ⟨by omega, by omega⟩) (fun r3 w4 h => ?_)
    obtain ⟨rfl, s3⟩ := h
    replace S3 := S3.trans0 s3
    replace hM3 := s3.lt hM3
    replace g1 := s3.same0 g1
    replace g2 := s3.same0 g2
    refine Rg.move rfl rfl ?_
    refine Rg.ilt rfl rfl rfl ?_
    refine Rg.move rfl rfl ?_
    refine Rg.gsplitp (g := 9) rfl (fun g1_4 => ?_) (fun g1_4 => ?_)
    · -- g1_4 True
      refine Rg.gyes rfl rfl ?_
      refine Rg.fieldc Try.underlying57 rfl rfl I3 (by decide) rfl rfl ?_
      refine Rg.gyes rfl rfl ?_
      refine Rg.loadc Try.underlying3 rfl rfl rfl (by assumption) rfl ?_
      refine Rg.gyes rfl rfl ?_
      refine Rg.fieldc Try.underlying57 rfl rfl I28 (by decide) rfl rfl ?_
      refine Rg.gyes rfl rfl ?_
      refine Rg.loadc Try.underlying28 rfl rfl rfl (by assumption) rfl ?_
      refine Rg.gyes rfl rfl ?_
      refine Rg.lensl Try.underlying28 rfl (hu.le S3.le) rfl ?_
      refine Rg.gyes rfl rfl ?_
      refine Rg.ilt rfl rfl rfl ?_
      refine Rg.pickt rfl rfl rfl ?_
      refine Rg.nil ?_
      refine T.ifp rfl (fun c1 => ?_) (fun c1 => ?_)
      · -- c1 True
        refine T.skip ?_
        refine T.block ?_
        refine T.region ?_ -- region 2
        refine Rg.fieldc Try.underlying57 rfl rfl I3 (by decide) rfl rfl ?_
        refine Rg.loadc Try.underlying3 rfl rfl rfl (by assumption) rfl ?_
        refine Rg.iadd rfl rfl rfl (by omega) ?_
        refine Rg.fieldc Try.underlying57 rfl rfl I3 (by decide) rfl rfl ?_
        refine Rg.storec (M := M1) I3 rfl rfl g1 rfl rfl hb1M (fun w5 h5 s5 => ?_)
        change w5.heap[b1]? = some (.cells #[u, .int .i64 (j + 1)] _ _) at h5
        refine Rg.nil ?_
        refine ⟨rfl, j + 1, (.cons rfl (.cons rfl (.cons rfl .nil))), ?_, ?_⟩
        · refine ⟨by omega, by omega, fun t h1 h2 => ?_, s5.lt hM3, h5, s5.keep g2 (by omega), S3.transNew s5 (fun k hk => by subst hk; omega)⟩
          by_cases h : t < j
          · exact hlt t h1 h
          · rw [show t = j from by omega]; exact g1_4
        · show (_ - (j + 1)).toNat < (_ - j).toNat; omega
      · -- c1 False
        refine T.exit ?_
        refine T.seq ?_
        refine T.region ?_ -- region 3
        have hjj : j = advI l i doc := play_adv hm hi.1 hij hjl hlt (by omega)
        refine Rg.loadaggc (vs := [u, .int .i64 j]) Try.underlying57 rfl I57 rfl rfl rfl g1 ?_
        refine Rg.storeaggc (M := M1) I57 rfl rfl (by intro x hx; simp at hx; rcases hx with rfl | rfl; exact hu1c; rfl) rfl rfl g2 hb2M (fun w5 h5 s5 => ?_)
        refine Rg.nil ?_
        refine T.ret ?_
        refine KretC1 rfl rfl Try.underlying57 rfl I57 rfl h5 ⟨by rw [hjj], (S3.transNew s5 (fun k hk => by subst hk; omega)).back⟩
    · -- g1_4 False
      refine Rg.gno rfl rfl rfl rfl ?_
      refine Rg.gno rfl rfl rfl rfl ?_
      refine Rg.gno rfl rfl rfl rfl ?_
      refine Rg.gno rfl rfl rfl rfl ?_
      refine Rg.gno rfl rfl rfl rfl ?_
      refine Rg.gno rfl rfl rfl rfl ?_
      refine Rg.pickf rfl rfl rfl ?_
      refine Rg.nil ?_
      refine T.iff rfl ?_
      refine T.exit ?_
      refine T.seq ?_
      refine T.region ?_ -- region 3
      have hjj : j = advI l i doc := play_adv hm hi.1 hij hjl hlt (by omega)
      refine Rg.loadaggc (vs := [u, .int .i64 j]) Try.underlying57 rfl I57 rfl rfl rfl g1 ?_
      refine Rg.storeaggc (M := M1) I57 rfl rfl (by intro x hx; simp at hx; rcases hx with rfl | rfl; exact hu1c; rfl) rfl rfl g2 hb2M (fun w5 h5 s5 => ?_)
      refine Rg.nil ?_
      refine T.ret ?_
      refine KretC1 rfl rfl Try.underlying57 rfl I57 rfl h5 ⟨by rw [hjj], (S3.transNew s5 (fun k hk => by subst hk; omega)).back⟩

/-- 'concordance/concordancelaw06.like' -/
theorem like6_spec {M : PSet} {w0 : World} {u : Value} {l : List Po} {i : Int} (hM : Lt M w0) (hu : ((RT.po).sl).V M w0 l u) (hi : -1 ≤ i ∧ i ≤ l.length) {bc : Nat} (hC : Cu 92 l i M w0 bc) (hm : mayPo (-1) l = true) (hps : ∀ p ∈ l, p.2.length ≤ 1099511627776) :
    Spec Try.prog 42 #[.pointer (some ⟨bc, 0, none⟩), .agg #[u, .int .i64 i]] w0 (fun v' w' => v' = .bool true ∧ Step M w0 M w' none') := by
  refine spec_of (args := [.pointer (some ⟨bc, 0, none⟩), .agg #[u, .int .i64 i]]) (fn := Try.f42) Try.func42 rfl (n := 26) Try.ntmps42 ?_
  refine T.seq ?_
  refine T.region ?_ -- region 0
  refine Rg.box M rfl rfl (fun b1 w1 z1 z1' h1 s1 => ?_)
  change w1.heap[b1]? = some (.cells #[u, .int .i64 i] _ _) at h1
  have hM1 := s1.lt hM
  have hu1 := hu.le s1.le
  have hC1 := hC.step s1 (fun h => h)
  have S1 := s1
  generalize ins M b1 = M1 at S1 hM1 hu1 hC1
  refine Rg.assign rfl rfl ?_
  refine Rg.nil ?_
  refine T.seq ?_
  refine T.region ?_ -- region 1
  refine Rg.loadaggc (vs := [u, .int .i64 i]) Try.underlying57 rfl I57 rfl rfl rfl h1 ?_
  refine Rg.call rfl rfl E71 (rPlaces6_spec (M := M1) hM1 hu1 hi) (fun up w2 h => ?_)
  obtain ⟨hpl, s2⟩ := h
  have hM2 := s2.lt hM1
  have h2 := s2.same0 h1
  have hC2 := hC1.step s2 (fun h => h)
  have hu2 := hu1.le s2.le
  refine Rg.assign rfl rfl ?_
  refine Rg.nil ?_
  refine T.seq ?_
  by_cases g2_5 : docAt l i = docAt l i
  · -- g2_5 True
    by_cases g2_11 : placesAt l i = placesAt l i
    · -- g2_11 True
      apply T.drawT (M := M1) mixed [] [Asr.eq _, Asr.eq _, Asr.eq _, Asr.eq _, Asr.eq _, Asr.eq (.bool true), Asr.eq _, Asr.V ((RT.int .i64).sl) (placesAt l i), Asr.eq _, Asr.eq (.bool (decide (placesAt l i = placesAt l i))), Asr.eq _, Asr.eq (.bool true), Asr.eq _, Asr.eq _, Asr.eq _, Asr.eq _, Asr.eq _, Asr.eq _] 18 -- region 2
      · rfl
      · rfl
      · rfl
      · rfl
      · rfl
      · exact fun p hp => by cases hp
      · exact UOk.none
      · -- its operations
        refine OblsS.cons ?_ ?_
        · intro wD E sD -- 0
          refine Rg.move rfl rfl ?_
          exact Rg.nil ⟨rfl, rfl, _, rfl, rfl, Step.refl _ _⟩
        refine OblsS.cons ?_ ?_
        · intro wD E sD -- 1
          intro x_ hx_; have hx_ : x_ = _ := hx_; subst x_
          refine Rg.call rfl rfl E37 (Doc6_spec (hC2.step sD (fun h => h))) (fun r wc h => ?_)
          obtain ⟨rfl, rfl⟩ := h
          exact Rg.nil ⟨rfl, rfl, _, rfl, rfl, Step.refl _ _⟩
        refine OblsS.cons ?_ ?_
        · intro wD E sD -- 2
          refine Rg.loadaggc (vs := [u, .int .i64 i]) Try.underlying57 rfl I57 rfl rfl rfl (sD.same0 h2) ?_
          exact Rg.nil ⟨rfl, rfl, _, rfl, rfl, Step.refl _ _⟩
        refine OblsS.cons ?_ ?_
        · intro wD E sD -- 3
          intro x_ hx_; have hx_ : x_ = _ := hx_; subst x_
          intro x_ hx_; have hx_ : x_ = _ := hx_; subst x_
          refine Rg.call rfl rfl E45 (rDoc6_spec (M := M1) (sD.lt hM2) (hu2.le sD.le) hi) (fun r w3 h => ?_)
          obtain ⟨rfl, s⟩ := h
          exact Rg.nil ⟨rfl, rfl, _, rfl, rfl, s⟩
        refine OblsS.cons ?_ ?_
        · intro wD E sD -- 4
          intro x_ hx_; have hx_ : x_ = _ := hx_; subst x_
          intro x_ hx_; have hx_ : x_ = _ := hx_; subst x_
          refine Rg.ieq rfl rfl rfl ?_
          exact Rg.nil ⟨rfl, rfl, _, rfl, rfl, Step.refl _ _⟩
        refine OblsS.cons ?_ ?_
        · intro wD E sD -- 5
          intro x_ hx_; have hx_ : x_ = _ := hx_; subst x_
          intro x_ hx_; have hx_ : x_ = _ := hx_; subst x_
          refine Rg.move rfl rfl ?_
          refine Rg.nil ⟨rfl, rfl, _, rfl, ?_, Step.refl _ _⟩
          exact congrArg Value.bool (decide_eq_true g2_5)
        refine OblsS.cons ?_ ?_
        · intro wD E sD -- 6
          intro x_ hx_; have hx_ : x_ = _ := hx_; subst x_
          refine Rg.gyes rfl rfl ?_
          refine Rg.move rfl rfl ?_
          exact Rg.nil ⟨rfl, rfl, _, rfl, rfl, Step.refl _ _⟩
        refine OblsS.cons ?_ ?_
        · intro wD E sD -- 7
          intro x_ hx_; have hx_ : x_ = _ := hx_; subst x_
          intro x_ hx_; have hx_ : x_ = _ := hx_; subst x_
          intro x_ hx_; have hx_ : x_ = _ := hx_; subst x_
          refine Rg.gyes rfl rfl ?_
          refine Rg.call rfl rfl E40 (Places6_spec (hC2.step sD (fun h => h)) hm hps (sD.lt hM2)) (fun r w3 h => ?_)
          obtain ⟨hr, s⟩ := h
          exact Rg.nil ⟨rfl, rfl, _, rfl, hr, s⟩
        refine OblsS.cons ?_ ?_
        · intro wD E sD -- 8
          intro x_ hx_; have hx_ : x_ = _ := hx_; subst x_
          refine Rg.gyes rfl rfl ?_
          refine Rg.move rfl rfl ?_
          exact Rg.nil ⟨rfl, rfl, _, rfl, rfl, Step.refl _ _⟩
        refine OblsS.cons ?_ ?_
        · intro wD E sD -- 9
          intro v7 hv7
          intro x_ hx_; have hx_ : x_ = _ := hx_; subst x_
          intro v7 hv7
          intro x_ hx_; have hx_ : x_ = _ := hx_; subst x_
          refine Rg.gyes rfl rfl ?_
          refine Rg.call rfl rfl E23 (Same_spec (M := M1) (sD.lt hM2) (show ((RT.int .i64).sl).V M1 wD (placesAt l i) v7 from hv7) (hpl.le sD.le)) (fun r w3 h => ?_)
          obtain ⟨rfl, s⟩ := h
          exact Rg.nil ⟨rfl, rfl, _, rfl, rfl, s⟩
        refine OblsS.cons ?_ ?_
        · intro wD E sD -- 10
          intro x_ hx_; have hx_ : x_ = _ := hx_; subst x_
          intro x_ hx_; have hx_ : x_ = _ := hx_; subst x_
          refine Rg.pickt rfl rfl rfl ?_
          exact Rg.nil ⟨rfl, rfl, _, rfl, rfl, Step.refl _ _⟩
        refine OblsS.cons ?_ ?_
        · intro wD E sD -- 11
          intro x_ hx_; have hx_ : x_ = _ := hx_; subst x_
          intro x_ hx_; have hx_ : x_ = _ := hx_; subst x_
          refine Rg.move rfl rfl ?_
          refine Rg.nil ⟨rfl, rfl, _, rfl, ?_, Step.refl _ _⟩
          exact congrArg Value.bool (decide_eq_true g2_11)
        refine OblsS.cons ?_ ?_
        · intro wD E sD -- 12
          intro x_ hx_; have hx_ : x_ = _ := hx_; subst x_
          refine Rg.gyes rfl rfl ?_
          refine Rg.move rfl rfl ?_
          exact Rg.nil ⟨rfl, rfl, _, rfl, rfl, Step.refl _ _⟩
        refine OblsS.cons ?_ ?_
        · intro wD E sD -- 13
          intro x_ hx_; have hx_ : x_ = _ := hx_; subst x_
          intro x_ hx_; have hx_ : x_ = _ := hx_; subst x_
          intro x_ hx_; have hx_ : x_ = _ := hx_; subst x_
          refine Rg.gyes rfl rfl ?_
          refine Rg.call rfl rfl E72 (Count6_spec (hC2.step sD (fun h => h)) hm) (fun r wc h => ?_)
          obtain ⟨rfl, rfl⟩ := h
          exact Rg.nil ⟨rfl, rfl, _, rfl, rfl, Step.refl _ _⟩
        refine OblsS.cons ?_ ?_
        · intro wD E sD -- 14
          intro x_ hx_; have hx_ : x_ = _ := hx_; subst x_
          refine Rg.gyes rfl rfl ?_
          refine Rg.move rfl rfl ?_
          exact Rg.nil ⟨rfl, rfl, _, rfl, rfl, Step.refl _ _⟩
        refine OblsS.cons ?_ ?_
        · intro wD E sD -- 15
          intro x_ hx_; have hx_ : x_ = _ := hx_; subst x_
          intro x_ hx_; have hx_ : x_ = _ := hx_; subst x_
          refine Rg.gyes rfl rfl ?_
          refine Rg.lensl Try.underlying23 rfl hpl rfl ?_
          exact Rg.nil ⟨rfl, rfl, _, rfl, rfl, Step.refl _ _⟩
        refine OblsS.cons ?_ ?_
        · intro wD E sD -- 16
          intro x_ hx_; have hx_ : x_ = _ := hx_; subst x_
          intro x_ hx_; have hx_ : x_ = _ := hx_; subst x_
          intro x_ hx_; have hx_ : x_ = _ := hx_; subst x_
          refine Rg.gyes rfl rfl ?_
          refine Rg.ieq rfl rfl rfl ?_
          exact Rg.nil ⟨rfl, rfl, _, rfl, rfl, Step.refl _ _⟩
        refine OblsS.cons ?_ ?_
        · intro wD E sD -- 17
          intro x_ hx_; have hx_ : x_ = _ := hx_; subst x_
          intro x_ hx_; have hx_ : x_ = _ := hx_; subst x_
          refine Rg.pickt rfl rfl rfl ?_
          exact Rg.nil ⟨rfl, rfl, _, rfl, rfl, Step.refl _ _⟩
        exact OblsS.nil
      · -- behind it
        intro wD2 sD2
        intro x_ hx_; have hx_ : x_ = _ := hx_; subst x_
        intro x_ hx_; have hx_ : x_ = _ := hx_; subst x_
        intro x_ hx_; have hx_ : x_ = _ := hx_; subst x_
        intro x_ hx_; have hx_ : x_ = _ := hx_; subst x_
        intro x_ hx_; have hx_ : x_ = _ := hx_; subst x_
        intro x_ hx_; have hx_ : x_ = _ := hx_; subst x_
        intro x_ hx_; have hx_ : x_ = _ := hx_; subst x_
        intro v2_7 hv2_7
        intro x_ hx_; have hx_ : x_ = _ := hx_; subst x_
        intro x_ hx_; have hx_ : x_ = _ := hx_; subst x_
        intro x_ hx_; have hx_ : x_ = _ := hx_; subst x_
        intro x_ hx_; have hx_ : x_ = _ := hx_; subst x_
        intro x_ hx_; have hx_ : x_ = _ := hx_; subst x_
        intro x_ hx_; have hx_ : x_ = _ := hx_; subst x_
        intro x_ hx_; have hx_ : x_ = _ := hx_; subst x_
        intro x_ hx_; have hx_ : x_ = _ := hx_; subst x_
        intro x_ hx_; have hx_ : x_ = _ := hx_; subst x_
        intro x_ hx_; have hx_ : x_ = _ := hx_; subst x_
        refine Rg.assign rfl rfl ?_
        refine Rg.nil ?_
        refine T.ret ?_
        exact Kret1 rfl rfl ⟨by simp, ((S1.trans0 s2).trans0 sD2).back⟩
    · -- g2_11 False
      exact absurd rfl g2_11
  · -- g2_5 False
    exact absurd rfl g2_5

end Go.K

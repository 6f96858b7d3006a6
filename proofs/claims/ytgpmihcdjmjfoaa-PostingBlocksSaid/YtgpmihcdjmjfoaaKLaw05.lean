/- The walks of Go functions, operation by operation. -/
import Derived.Test.YtgpmihcdjmjfoaaKTypes
import Derived.Test.YtgpmihcdjmjfoaaKNum
import Derived.Test.YtgpmihcdjmjfoaaKPost
import Derived.Test.YtgpmihcdjmjfoaaKDraw
import Derived.Test.YtgpmihcdjmjfoaaKRef04
import Derived.Test.YtgpmihcdjmjfoaaKPosting
import Derived.Test.YtgpmihcdjmjfoaaKMake2
import Derived.Test.YtgpmihcdjmjfoaaProg
namespace Go.K
open Go.Proofs
set_option linter.unusedVariables false
set_option linter.unusedSimpArgs false
set_option maxRecDepth 10000

/-- 'concordance/concordancelaw05.lives' -/
theorem lives5_spec {M : PSet} {w0 : World} (hM : Lt M w0) :
    Spec Try.prog 24 #[] w0 (fun v' w' => v' = .bool true ∧ Step M w0 M w' none') := by
  refine spec_of (args := []) (fn := Try.f24) Try.func24 rfl (n := 30) Try.ntmps24 ?_
  refine T.seq ?_
  refine T.region ?_ -- region 0
  refine Rg.assign rfl rfl ?_
  refine Rg.nil ?_
  refine T.seq ?_
  refine T.region ?_ -- region 1
  refine Rg.sln (A := RT.int .i64) (hn := by decide) (M := M) (xs := [0, 2]) Try.underlying23 I3 rfl (by decide) rfl ⟨0, [2], _, rfl, rfl, rfl, V_i64 (by omega), 2, [], _, rfl, rfl, rfl, V_i64 (by omega), rfl⟩ rfl hM (.inr ⟨rfl, rfl⟩) (by decide) (fun u1 w1 hu1 s1 => ?_)
  refine Rg.build (places := [(0, 1), (1, 1)]) Try.underlying37 I37 B37 rfl ⟨_, _, rfl, rfl, _, _, rfl, rfl, rfl⟩ (out := [_, _]) ⟨0, [_], rfl, rfl, by simp [Value.cells], 1, [_], rfl, V_cells hu1, by simp [Value.cells], rfl⟩ ?_
  refine Rg.sl1 (A := RT.po) (hn := by decide) (M := M) Try.underlying28 I37 (by decide) rfl rfl (s1.lt hM) (V_pair_mk (V_i64 (x := 3) (by omega)) hu1 rfl rfl rfl rfl) (.inl rfl) (fun u2 w2 hu2 s2 => ?_)
  have hM2 := s2.lt (s1.lt hM)
  have hB : putPo (-1) [((3 : Int), [(0 : Int), 2])] = [3, 2, 0, 1] := by simp only [putPo, putRising, putR]; rw [put_lt (by decide), put_lt (by decide), put_lt (by decide), put_lt (by decide)]; rfl
  refine Rg.call rfl rfl E19 (Make_spec (M := M) hM2 hu2 (fun p hp => by simp at hp; subst hp; simp) (by rw [hB]; simp) (by simp) (by decide)) (fun r3 w3 h3 => ?_)
  obtain ⟨s3, hmk, _⟩ := h3
  obtain ⟨p, rfl, hp⟩ := hmk (by decide)
  have hM3 := s3.lt hM2
  refine Rg.move rfl rfl ?_
  refine Rg.extract rfl rfl rfl ?_
  refine Rg.extract rfl rfl rfl ?_
  refine Rg.assign rfl rfl ?_
  refine Rg.assign rfl rfl ?_
  refine Rg.nil ?_
  refine T.seq ?_
  refine T.seq ?_
  refine T.region ?_ -- region 2
  refine Rg.move rfl rfl ?_
  refine Rg.ptreqnil (v := p) Try.underlying30 rfl (PtrTo.isPtr hp) rfl rfl ?_
  refine Rg.eqv (v' := .bool (decide False)) rfl ?_
  refine Rg.nil ?_
  refine T.iffp rfl ((fun h => h)) ?_
  refine T.skip ?_
  refine T.seq ?_
  refine T.region ?_ -- region 4
  refine Rg.move rfl rfl ?_
  refine Rg.call rfl rfl E55 (Bytes_spec (M := M) hp hM3) (fun r4 w4 h4 => ?_)
  obtain ⟨hr4, s4⟩ := h4
  rw [show (mkLi [((3 : Int), [(0 : Int), 2])]).1 = [3, 2, 0, 1] from hB] at hr4
  refine Rg.b2s (M := M) Try.underlying48 Try.underlying5 Try.underlying9 rfl rfl (by assumption) (by repeat (first | exact Le.refl _ _ | refine Le.trans (Step.le (by assumption)) ?_)) ?_
  refine Rg.streq rfl rfl rfl ?_
  refine Rg.move rfl rfl ?_
  refine Rg.gtrue (g := 16) rfl (rfl) ?_
  refine Rg.gyes rfl rfl ?_
  refine Rg.move rfl rfl ?_
  refine Rg.gyes rfl rfl ?_
  refine Rg.ieq rfl rfl rfl ?_
  refine Rg.pickt rfl rfl rfl ?_
  refine Rg.move rfl rfl ?_
  refine Rg.gtrue (g := 20) rfl (rfl) ?_
  refine Rg.gyes rfl rfl ?_
  refine Rg.move rfl rfl ?_
  refine Rg.gyes rfl rfl ?_
  refine Rg.call rfl rfl E25 (Len_spec (M := M) (hp.le (by decide) s4.le) (s4.lt hM3) (blks_many _ _)) (fun r5 w5 h5 => ?_)
  obtain ⟨rfl, s5⟩ := h5
  refine Rg.eqv (v' := .int .i64 1) (by simp [sumN, mkLi, blks, blkOf]) ?_
  refine Rg.gyes rfl rfl ?_
  refine Rg.ieq rfl rfl rfl ?_
  refine Rg.pickt rfl rfl rfl ?_
  refine Rg.move rfl rfl ?_
  refine Rg.gtrue (g := 25) rfl (rfl) ?_
  refine Rg.gyes rfl rfl ?_
  refine Rg.move rfl rfl ?_
  refine Rg.gyes rfl rfl ?_
  refine Rg.call rfl rfl E22 (Last_spec (k := 0) ((hp.le (by decide) s4.le).le (by decide) s5.le)) (fun r6 w6 h6 => ?_)
  obtain ⟨rfl, rfl⟩ := h6
  refine Rg.eqv (v' := .int .i64 3) (by simp [lastB, isB, mkLi, blks, blkOf, lastPo]) ?_
  refine Rg.gyes rfl rfl ?_
  refine Rg.ieq rfl rfl rfl ?_
  refine Rg.pickt rfl rfl rfl ?_
  refine Rg.assign rfl rfl ?_
  refine Rg.nil ?_
  refine T.ret ?_
  exact Kret1 rfl rfl ⟨rfl, (((s1.trans0 s2).trans0 s3).trans0 s4).trans0 s5⟩

/-- 'concordance/concordancelaw05.PostingBlocks' -/
theorem PostingBlocks_spec {M : PSet} {w0 : World} {v : Value} {l : List Po} (hM : Lt M w0) (hv : ((RT.po).sl).V M w0 l v) :
    Spec Try.prog 5 #[v] w0 (fun v' w' => v' = .bool true ∧ Step M w0 M w' none') := by
  refine spec_of (args := [v]) (fn := Try.f5) Try.func5 rfl (n := 76) Try.ntmps5 ?_
  refine T.seq ?_
  refine T.region ?_ -- region 0
  refine Rg.assign rfl rfl ?_
  refine Rg.nil ?_
  refine T.seq ?_
  refine T.region ?_ -- region 1
  refine Rg.move rfl rfl ?_
  refine Rg.call rfl rfl E18 (Good5_spec (M := M) (most := 40) hM hv (by decide)) (fun ug w1 h1 => ?_)
  obtain ⟨s1, hg⟩ := h1
  have hgm := goodPo_may (l.take 40) (-1) (by decide) (by rw [List.length_take]; omega)
  have hgl := goodPo_len (l.take 40) (-1)
  rw [List.length_take] at hgl
  have hgs := goodPo_small (l.take 40) (-1)
  generalize goodPo (-1) (l.take 40) = g at hg hgm hgl hgs
  have hgp := putPo_small g (-1) (by decide) hgm hgs
  have hgt := totPo_small g hgs
  have hg0 := totPo_nonneg g
  have hM1 := s1.lt hM
  have hps : ∀ p ∈ g, p.2.length ≤ 1099511627776 := fun p hp => by have := hgs p hp; omega
  refine Rg.assign rfl rfl ?_
  refine Rg.nil ?_
  refine T.seq ?_
  refine T.region ?_ -- region 2
  refine Rg.move rfl rfl ?_
  refine Rg.call rfl rfl E19 (Make_spec (M := M) hM1 hg hps (by omega) (by omega) (by omega)) (fun r2 w2 h2 => ?_)
  obtain ⟨s2, hmk, _⟩ := h2
  obtain ⟨p, rfl, hp⟩ := hmk hgm
  have hM2 := s2.lt hM1
  have hnb : (mkLi g).2.1.length = (g.length + 7) / 8 := by simp [mkLi, blks]
  refine Rg.move rfl rfl ?_
  refine Rg.extract rfl rfl rfl ?_
  refine Rg.extract rfl rfl rfl ?_
  refine Rg.assign rfl rfl ?_
  refine Rg.assign rfl rfl ?_
  refine Rg.nil ?_
  refine T.seq ?_
  refine T.seq ?_
  refine T.region ?_ -- region 3
  refine Rg.move rfl rfl ?_
  refine Rg.ptreqnil (v := p) Try.underlying30 rfl (PtrTo.isPtr hp) rfl rfl ?_
  refine Rg.eqv (v' := .bool (decide False)) rfl ?_
  refine Rg.move rfl rfl ?_
  refine Rg.gfalse (g := 18) rfl ((fun h => h)) ?_
  refine Rg.gyes rfl rfl ?_
  refine Rg.move rfl rfl ?_
  refine Rg.gyes rfl rfl ?_
  refine Rg.ine rfl rfl rfl ?_
  refine Rg.pickf rfl rfl rfl ?_
  refine Rg.nil ?_
  refine T.iffp rfl ((fun h => h rfl)) ?_
  refine T.skip ?_
  refine T.seq ?_
  refine T.region ?_ -- region 5
  refine Rg.assign rfl rfl ?_
  refine Rg.nil ?_
  refine T.seq ?_
  refine T.seq ?_
  refine T.region ?_ -- region 6
  refine Rg.assign rfl rfl ?_
  refine Rg.nil ?_
  refine T.block ?_
  refine T.loop (σ := Nat) (fun s => [(3, ug), (4, p), (6, .int .i64 ((min (8 * s) g.length : Nat) : Int)), (7, .int .i64 s)]) (fun s w => s ≤ (g.length + 7) / 8 ∧ Step M w2 M w none') (fun s => (g.length + 7) / 8 - s) 0 (.cons rfl (.cons rfl (.cons (by rw [Nat.mul_zero, Nat.zero_min]; rfl) (.cons rfl .nil)))) ?_ ?_ -- loop 0
  · exact ⟨Nat.zero_le _, Step.refl _ _⟩
  · rintro k w3 ⟨hk, S⟩
    refine T.seq ?_
    refine T.seq ?_
    refine T.region ?_ -- region 7
    refine Rg.move rfl rfl ?_
    refine Rg.move rfl rfl ?_
    refine Rg.call rfl rfl E20 (Blocks_spec (M := M) (hp.le (by decide) (S).le)) (fun rb1 wb1 hb1 => ?_)
    obtain ⟨rfl, rfl⟩ := hb1
    refine Rg.eqv (v' := .int .i64 (((g.length + 7) / 8 : Nat) : Int)) (by rw [hnb]) ?_
    refine Rg.ilt rfl rfl rfl ?_
    refine Rg.nil ?_
    refine T.ifp rfl (fun c7 => ?_) (fun c7 => ?_)
    · -- c7 True
      refine T.skip ?_
      refine T.seq ?_
      refine T.block ?_
      refine T.seq ?_
      refine T.region ?_ -- region 9
      refine Rg.move rfl rfl ?_
      refine Rg.move rfl rfl ?_
      refine Rg.call rfl rfl E21 (Block_spec (M := M) (k := k) (S.lt hM2) (hp.le (by decide) S.le) hgm hps (by omega)) (fun r9 w9 h9 => ?_)
      obtain ⟨s9, h9⟩ := h9
      rw [if_pos (by unfold isB; simp; omega), Int.toNat_natCast] at h9
      have S9 := S.trans0 s9
      have hln : ((g.drop (8 * k)).take 8).length = min 8 (g.length - 8 * k) := by rw [List.length_take, List.length_drop]
      refine Rg.assign rfl rfl ?_
      refine Rg.nil ?_
      refine T.seq ?_
      refine T.seq ?_
      refine T.region ?_ -- region 10
      refine Rg.move rfl rfl ?_
      first | refine Rg.lensl Try.underlying28 rfl (by assumption) rfl ?_ | refine Rg.lenown Try.underlying28 rfl (by assumption) rfl ?_
      refine Rg.ieq rfl rfl rfl ?_
      refine Rg.move rfl rfl ?_
      refine Rg.gfalse (g := 34) rfl ((by omega)) ?_
      refine Rg.gyes rfl rfl ?_
      refine Rg.move rfl rfl ?_
      refine Rg.gyes rfl rfl ?_
      first | refine Rg.lensl Try.underlying28 rfl (by assumption) rfl ?_ | refine Rg.lenown Try.underlying28 rfl (by assumption) rfl ?_
      refine Rg.gyes rfl rfl ?_
      refine Rg.igt rfl rfl rfl ?_
      refine Rg.pickf rfl rfl rfl ?_
      refine Rg.move rfl rfl ?_
      refine Rg.gfalse (g := 39) rfl ((by omega)) ?_
      refine Rg.gyes rfl rfl ?_
      refine Rg.move rfl rfl ?_
      refine Rg.gyes rfl rfl ?_
      refine Rg.iadd rfl rfl rfl (by omega) ?_
      refine Rg.gyes rfl rfl ?_
      refine Rg.move rfl rfl ?_
      refine Rg.gyes rfl rfl ?_
      refine Rg.call rfl rfl E20 (Blocks_spec (M := M) (hp.le (by decide) (S9).le)) (fun rb2 wb2 hb2 => ?_)
      obtain ⟨rfl, rfl⟩ := hb2
      refine Rg.eqv (v' := .int .i64 (((g.length + 7) / 8 : Nat) : Int)) (by rw [hnb]) ?_
      refine Rg.gyes rfl rfl ?_
      refine Rg.ilt rfl rfl rfl ?_
      refine Rg.gyes rfl rfl ?_
      refine Rg.move rfl rfl ?_
      refine Rg.gsplitp (g := 45) rfl (fun g10_14 => ?_) (fun g10_14 => ?_)
      · -- g10_14 True
        refine Rg.gyes rfl rfl ?_
        refine Rg.move rfl rfl ?_
        refine Rg.gyes rfl rfl ?_
        first | refine Rg.lensl Try.underlying28 rfl (by assumption) rfl ?_ | refine Rg.lenown Try.underlying28 rfl (by assumption) rfl ?_
        refine Rg.gyes rfl rfl ?_
        refine Rg.ine rfl rfl rfl ?_
        refine Rg.gyes rfl rfl ?_
        refine Rg.pickt rfl rfl rfl ?_
        refine Rg.pickf rfl rfl rfl ?_
        refine Rg.nil ?_
        refine T.iffp rfl ((by omega)) ?_
        refine T.skip ?_
        refine T.region ?_ -- region 12
        refine Rg.move rfl rfl ?_
        refine Rg.move rfl rfl ?_
        first | refine Rg.lensl Try.underlying28 rfl (by assumption) rfl ?_ | refine Rg.lenown Try.underlying28 rfl (by assumption) rfl ?_
        refine Rg.iadd rfl rfl rfl (by omega) ?_
        refine Rg.assign rfl rfl ?_
        refine Rg.nil ?_
        refine T.region ?_ -- region 8
        refine Rg.move rfl rfl ?_
        refine Rg.iadd rfl rfl rfl (by omega) ?_
        refine Rg.assign rfl rfl ?_
        refine Rg.nil ?_
        refine ⟨rfl, k + 1, (.cons rfl (.cons rfl (.cons (by rw [show ((min (8 * (k + 1)) g.length : Nat) : Int) = ((min (8 * k) g.length : Nat) : Int) + (((g.drop (8 * k)).take 8).length : Int) from by omega]; rfl) (.cons rfl .nil)))), ?_, ?_⟩
        · exact ⟨by omega, S9⟩
        · show _ - (k + 1) < _ - k; omega
      · -- g10_14 False
        refine Rg.gno rfl rfl rfl rfl ?_
        refine Rg.gno rfl rfl rfl rfl ?_
        refine Rg.gno rfl rfl rfl rfl ?_
        refine Rg.gyes rfl rfl ?_
        refine Rg.pickf rfl rfl rfl ?_
        refine Rg.pickf rfl rfl rfl ?_
        refine Rg.nil ?_
        refine T.iff rfl ?_
        refine T.skip ?_
        refine T.region ?_ -- region 12
        refine Rg.move rfl rfl ?_
        refine Rg.move rfl rfl ?_
        first | refine Rg.lensl Try.underlying28 rfl (by assumption) rfl ?_ | refine Rg.lenown Try.underlying28 rfl (by assumption) rfl ?_
        refine Rg.iadd rfl rfl rfl (by omega) ?_
        refine Rg.assign rfl rfl ?_
        refine Rg.nil ?_
        refine T.region ?_ -- region 8
        refine Rg.move rfl rfl ?_
        refine Rg.iadd rfl rfl rfl (by omega) ?_
        refine Rg.assign rfl rfl ?_
        refine Rg.nil ?_
        refine ⟨rfl, k + 1, (.cons rfl (.cons rfl (.cons (by rw [show ((min (8 * (k + 1)) g.length : Nat) : Int) = ((min (8 * k) g.length : Nat) : Int) + (((g.drop (8 * k)).take 8).length : Int) from by omega]; rfl) (.cons rfl .nil)))), ?_, ?_⟩
        · exact ⟨by omega, S9⟩
        · show _ - (k + 1) < _ - k; omega
    · -- c7 False
      refine T.exit ?_
      refine T.seq ?_
      refine T.region ?_ -- region 13
      refine Rg.move rfl rfl ?_
      refine Rg.move rfl rfl ?_
      first | refine Rg.lensl Try.underlying28 rfl (by assumption) rfl ?_ | refine Rg.lenown Try.underlying28 rfl (by assumption) rfl ?_
      refine Rg.ieq rfl rfl rfl ?_
      refine Rg.move rfl rfl ?_
      refine Rg.gtrue (g := 59) rfl ((by omega)) ?_
      refine Rg.gyes rfl rfl ?_
      refine Rg.move rfl rfl ?_
      refine Rg.gyes rfl rfl ?_
      have hkk : k = (g.length + 7) / 8 := by omega
      refine Rg.call rfl rfl E25 (Len_spec (M := M) (hp.le (by decide) S.le) (S.lt hM2) (blks_many _ _)) (fun r5 w5 h5 => ?_)
      obtain ⟨rfl, s5⟩ := h5
      have hsn : sumN (mkLi g).2.1 = ((min (8 * ((g.length + 7) / 8)) g.length : Nat) : Int) := sumN_blks g _
      replace S := S.trans0 s5
      refine Rg.gyes rfl rfl ?_
      refine Rg.move rfl rfl ?_
      refine Rg.gyes rfl rfl ?_
      refine Rg.ieq rfl rfl rfl ?_
      refine Rg.pickt rfl rfl rfl ?_
      refine Rg.move rfl rfl ?_
      refine Rg.gtrue (g := 65) rfl ((by rw [hsn]; omega)) ?_
      refine Rg.gyes rfl rfl ?_
      refine Rg.move rfl rfl ?_
      refine Rg.gyes rfl rfl ?_
      refine Rg.move rfl rfl ?_
      refine Rg.gyes rfl rfl ?_
      refine Rg.call rfl rfl E20 (Blocks_spec (M := M) (hp.le (by decide) (S).le)) (fun rb3 wb3 hb3 => ?_)
      obtain ⟨rfl, rfl⟩ := hb3
      refine Rg.eqv (v' := .int .i64 (((g.length + 7) / 8 : Nat) : Int)) (by rw [hnb]) ?_
      refine Rg.gyes rfl rfl ?_
      refine Rg.call rfl rfl E21 (Block_spec (M := M) (k := (((g.length + 7) / 8 : Nat) : Int)) (S.lt hM2) (hp.le (by decide) S.le) hgm hps (by omega)) (fun r9 w9 h9 => ?_)
      obtain ⟨s9, h9⟩ := h9
      rw [if_neg (by unfold isB; simp)] at h9
      replace S := S.trans0 s9
      refine Rg.gyes rfl rfl ?_
      first | refine Rg.lensl Try.underlying28 rfl (by assumption) rfl ?_ | refine Rg.lenown Try.underlying28 rfl (by assumption) rfl ?_
      refine Rg.gyes rfl rfl ?_
      refine Rg.ieq rfl rfl rfl ?_
      refine Rg.pickt rfl rfl rfl ?_
      refine Rg.move rfl rfl ?_
      refine Rg.gtrue (g := 73) rfl (rfl) ?_
      refine Rg.gyes rfl rfl ?_
      refine Rg.call rfl rfl E24 (lives5_spec (M := M) (S.lt hM2)) (fun rL wL hL => ?_)
      obtain ⟨rfl, sL⟩ := hL
      refine Rg.pickt rfl rfl rfl ?_
      refine Rg.assign rfl rfl ?_
      refine Rg.nil ?_
      refine T.ret ?_
      exact Kret1 rfl rfl ⟨rfl, ((s1.trans0 s2).trans0 S).trans0 sL⟩

end Go.K

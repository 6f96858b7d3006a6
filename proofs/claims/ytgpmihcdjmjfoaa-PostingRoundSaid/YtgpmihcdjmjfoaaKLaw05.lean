/- The walks of Go functions, operation by operation. -/
import Derived.Test.YtgpmihcdjmjfoaaKTypes
import Derived.Test.YtgpmihcdjmjfoaaKNum
import Derived.Test.YtgpmihcdjmjfoaaKPost
import Derived.Test.YtgpmihcdjmjfoaaKDraw
import Derived.Test.YtgpmihcdjmjfoaaKRef04
import Derived.Test.YtgpmihcdjmjfoaaKPosting
import Derived.Test.YtgpmihcdjmjfoaaKMake2
import Derived.Test.YtgpmihcdjmjfoaaProg
import Derived.KernelRfl
namespace Go.K
open Go.Proofs
namespace TKLaw05
theorem I37 : TI Try.prog 37 (.agg #[(.int .i64 0), (.slice none 0 0)]) 2 32 := by unfold TI; kernel_rfl -- api.Posting
theorem B37 : placesOf Try.prog 37 = [(0, 1), (1, 1)].map some := by kernel_rfl
theorem E18 : Enters Try.prog 18 := enters Try.func18 rfl (by decide) -- concordance/concordanceref05.Good
theorem E19 : Enters Try.prog 19 := enters Try.func19 rfl (by decide) -- concordance/posting.Make
theorem E20 : Enters Try.prog 20 := enters Try.func20 rfl (by decide) -- (*concordance/posting.List).Blocks
theorem E21 : Enters Try.prog 21 := enters Try.func21 rfl (by decide) -- (*concordance/posting.List).Block
theorem E22 : Enters Try.prog 22 := enters Try.func22 rfl (by decide) -- (*concordance/posting.List).Last
theorem E23 : Enters Try.prog 23 := enters Try.func23 rfl (by decide) -- concordance/concordanceref01.Same
theorem E24 : Enters Try.prog 24 := enters Try.func24 rfl (by decide) -- concordance/concordancelaw05.lives
theorem E25 : Enters Try.prog 25 := enters Try.func25 rfl (by decide) -- (*concordance/posting.List).Len
theorem E55 : Enters Try.prog 55 := enters Try.func55 rfl (by decide) -- (*concordance/posting.List).Bytes
end TKLaw05
open TKLaw05
set_option linter.unusedVariables false
set_option linter.unusedSimpArgs false
set_option maxRecDepth 10000

/-- 'concordance/concordancelaw05.lives' -/
theorem lives5_spec {M : PSet} {w0 : World} (hM : Lt M w0) :
    Spec Try.prog 24 #[] w0 (fun v' w' => v' = .bool true ∧ Step M w0 M w' none') := by
  refine spec_of (args := []) (fn := Try.f24) Try.func24 rfl (n := 30) Try.ntmps24 ?_
  refine T.seq ?_
  refine T.region ?_ -- region 0
  refine Rg.assign rfl rfl ?_
  refine Rg.nil ?_
  refine T.seq ?_
  refine T.region ?_ -- region 1
  refine Rg.sln (A := RT.int .i64) (hn := by decide) (M := M) (xs := [0, 2]) Try.underlying23 I3 rfl (by decide) rfl ⟨0, [2], _, rfl, rfl, rfl, V_i64 (by omega), 2, [], _, rfl, rfl, rfl, V_i64 (by omega), rfl⟩ rfl hM (.inr ⟨rfl, rfl⟩) (by decide) (fun u1 w1 hu1 s1 => ?_)
  refine Rg.build (places := [(0, 1), (1, 1)]) Try.underlying37 I37 B37 rfl ⟨_, _, rfl, rfl, _, _, rfl, rfl, rfl⟩ (out := [_, _]) ⟨0, [_], rfl, rfl, by simp [Value.cells], 1, [_], rfl, V_cells hu1, by simp [Value.cells], rfl⟩ ?_
  refine Rg.sl1 (A := RT.po) (hn := by decide) (M := M) Try.underlying28 I37 (by decide) rfl rfl (s1.lt hM) (V_pair_mk (V_i64 (x := 3) (by omega)) hu1 rfl rfl rfl rfl) (.inl rfl) (fun u2 w2 hu2 s2 => ?_)
  have hM2 := s2.lt (s1.lt hM)
  have hB : putPo (-1) [((3 : Int), [(0 : Int), 2])] = [3, 2, 0, 1] := by simp only [putPo, putRising, putR]; rw [put_lt (by decide), put_lt (by decide), put_lt (by decide), put_lt (by decide)]; rfl
  refine Rg.call rfl rfl E19 (Make_spec (M := M) hM2 hu2 (fun p hp => by simp at hp; subst hp; simp) (by rw [hB]; simp) (by simp) (by decide)) (fun r3 w3 h3 => ?_)
  obtain ⟨s3, hmk, _⟩ := h3
  obtain ⟨p, rfl, hp⟩ := hmk (by decide)
  have hM3 := s3.lt hM2
  refine Rg.move rfl rfl ?_
  refine Rg.extract rfl rfl rfl ?_
  refine Rg.extract rfl rfl rfl ?_
  refine Rg.assign rfl rfl ?_
  refine Rg.assign rfl rfl ?_
  refine Rg.nil ?_
  refine T.seq ?_
  refine T.seq ?_
  refine T.region ?_ -- region 2
  refine Rg.move rfl rfl ?_
  refine Rg.ptreqnil (v := p) Try.underlying30 rfl (PtrTo.isPtr hp) rfl rfl ?_
  refine Rg.eqv (v' := .bool (decide False)) rfl ?_
  refine Rg.nil ?_
  refine T.iffp rfl ((fun h => h)) ?_
  refine T.skip ?_
  refine T.seq ?_
  refine T.region ?_ -- region 4
  refine Rg.move rfl rfl ?_
  refine Rg.call rfl rfl E55 (Bytes_spec (M := M) hp hM3) (fun r4 w4 h4 => ?_)
  obtain ⟨hr4, s4⟩ := h4
  rw [show (mkLi [((3 : Int), [(0 : Int), 2])]).1 = [3, 2, 0, 1] from hB] at hr4
  refine Rg.b2s (M := M) Try.underlying48 Try.underlying5 Try.underlying9 rfl rfl (by assumption) (by repeat (first | exact Le.refl _ _ | refine Le.trans (Step.le (by assumption)) ?_)) ?_
  refine Rg.streq rfl rfl rfl ?_
  refine Rg.move rfl rfl ?_
  refine Rg.gtrue (g := 16) rfl (rfl) ?_
  refine Rg.gyes rfl rfl ?_
  refine Rg.move rfl rfl ?_
  refine Rg.gyes rfl rfl ?_
  refine Rg.ieq rfl rfl rfl ?_
  refine Rg.pickt rfl rfl rfl ?_
  refine Rg.move rfl rfl ?_
  refine Rg.gtrue (g := 20) rfl (rfl) ?_
  refine Rg.gyes rfl rfl ?_
  refine Rg.move rfl rfl ?_
  refine Rg.gyes rfl rfl ?_
  refine Rg.call rfl rfl E25 (Len_spec (M := M) (hp.le (by decide) s4.le) (s4.lt hM3) (blks_many _ _)) (fun r5 w5 h5 => ?_)
  obtain ⟨rfl, s5⟩ := h5
  refine Rg.eqv (v' := .int .i64 1) (by simp [sumN, mkLi, blks, blkOf]) ?_
  refine Rg.gyes rfl rfl ?_
  refine Rg.ieq rfl rfl rfl ?_
  refine Rg.pickt rfl rfl rfl ?_
  refine Rg.move rfl rfl ?_
  refine Rg.gtrue (g := 25) rfl (rfl) ?_
  refine Rg.gyes rfl rfl ?_
  refine Rg.move rfl rfl ?_
  refine Rg.gyes rfl rfl ?_
  refine Rg.call rfl rfl E22 (Last_spec (k := 0) ((hp.le (by decide) s4.le).le (by decide) s5.le)) (fun r6 w6 h6 => ?_)
  obtain ⟨rfl, rfl⟩ := h6
  refine Rg.eqv (v' := .int .i64 3) (by simp [lastB, isB, mkLi, blks, blkOf, lastPo]) ?_
  refine Rg.gyes rfl rfl ?_
  refine Rg.ieq rfl rfl rfl ?_
  refine Rg.pickt rfl rfl rfl ?_
  refine Rg.assign rfl rfl ?_
  refine Rg.nil ?_
  refine T.ret ?_
  exact Kret1 rfl rfl ⟨rfl, (((s1.trans0 s2).trans0 s3).trans0 s4).trans0 s5⟩

/-- 'concordance/concordancelaw05.PostingBlocks' -/
theorem PostingBlocks_spec {M : PSet} {w0 : World} {v : Value} {l : List Po} (hM : Lt M w0) (hv : ((RT.po).sl).V M w0 l v) :
    Spec Try.prog 5 #[v] w0 (fun v' w' => v' = .bool true ∧ Step M w0 M w' none') := by
  refine spec_of (args := [v]) (fn := Try.f5) Try.func5 rfl (n := 76) Try.ntmps5 ?_
  refine T.seq ?_
  refine T.region ?_ -- region 0
  refine Rg.assign rfl rfl ?_
  refine Rg.nil ?_
  refine T.seq ?_
  refine T.region ?_ -- region 1
  refine Rg.move rfl rfl ?_
  refine Rg.call rfl rfl E18 (Good5_spec (M := M) (most := 40) hM hv (by decide)) (fun ug w1 h1 => ?_)
  obtain ⟨s1, hg⟩ := h1
  have hgm := goodPo_may (l.take 40) (-1) (by decide) (by rw [List.length_take]; omega)
  have hgl := goodPo_len (l.take 40) (-1)
  rw [List.length_take] at hgl
  have hgs := goodPo_small (l.take 40) (-1)
  generalize goodPo (-1) (l.take 40) = g at hg hgm hgl hgs
  have hgp := putPo_small g (-1) (by decide) hgm hgs
  have hgt := totPo_small g hgs
  have hg0 := totPo_nonneg g
  have hM1 := s1.lt hM
  have hps : ∀ p ∈ g, p.2.length ≤ 1099511627776 := fun p hp => by have := hgs p hp; omega
  refine Rg.assign rfl rfl ?_
  refine Rg.nil ?_
  refine T.seq ?_
  refine T.region ?_ -- region 2
  refine Rg.move rfl rfl ?_
  refine Rg.call rfl rfl E19 (Make_spec (M := M) hM1 hg hps (by omega) (by omega) (by omega)) (fun r2 w2 h2 => ?_)
  obtain ⟨s2, hmk, _⟩ := h2
  obtain ⟨p, rfl, hp⟩ := hmk hgm
  have hM2 := s2.lt hM1
  have hnb : (mkLi g).2.1.length = (g.length + 7) / 8 := by simp [mkLi, blks]
  refine Rg.move rfl rfl ?_
  refine Rg.extract rfl rfl rfl ?_
  refine Rg.extract rfl rfl rfl ?_
  refine Rg.assign rfl rfl ?_
  refine Rg.assign rfl rfl ?_
  refine Rg.nil ?_
  refine T.seq ?_
  refine T.seq ?_
  refine T.region ?_ -- region 3
  refine Rg.move rfl rfl ?_
  refine Rg.ptreqnil (v := p) Try.underlying30 rfl (PtrTo.isPtr hp) rfl rfl ?_
  refine Rg.eqv (v' := .bool (decide False)) rfl ?_
  refine Rg.move rfl rfl ?_
  refine Rg.gfalse (g := 18) rfl ((fun h => h)) ?_
  refine Rg.gyes rfl rfl ?_
  refine Rg.move rfl rfl ?_
  refine Rg.gyes rfl rfl ?_
  refine Rg.ine rfl rfl rfl ?_
  refine Rg.pickf rfl rfl rfl ?_
  refine Rg.nil ?_
  refine T.iffp rfl ((fun h => h rfl)) ?_
  refine T.skip ?_
  refine T.seq ?_
  refine T.region ?_ -- region 5
  refine Rg.assign rfl rfl ?_
  refine Rg.nil ?_
  refine T.seq ?_
  refine T.seq ?_
  refine T.region ?_ -- region 6
  refine Rg.assign rfl rfl ?_
  refine Rg.nil ?_
  refine T.block ?_
  refine T.loop (σ := Nat) (fun s => [(3, ug), (4, p), (6, .int .i64 ((min (8 * s) g.length : Nat) : Int)), (7, .int .i64 s)]) (fun s w => s ≤ (g.length + 7) / 8 ∧ Step M w2 M w none') (fun s => (g.length + 7) / 8 - s) 0 (.cons rfl (.cons rfl (.cons (by rw [Nat.mul_zero, Nat.zero_min]; rfl) (.cons rfl .nil)))) ?_ ?_ -- loop 0
  · exact ⟨Nat.zero_le _, Step.refl _ _⟩
  · rintro k w3 ⟨hk, S⟩
    refine T.seq ?_
    refine T.seq ?_
    refine T.region ?_ -- region 7
    refine Rg.move rfl rfl ?_
    refine Rg.move rfl rfl ?_
    refine Rg.call rfl rfl E20 (Blocks_spec (M := M) (hp.le (by decide) (S).le)) (fun rb1 wb1 hb1 => ?_)
    obtain ⟨rfl, rfl⟩ := hb1
    refine Rg.eqv (v' := .int .i64 (((g.length + 7) / 8 : Nat) : Int)) (by rw [hnb]) ?_
    refine Rg.ilt rfl rfl rfl ?_
    refine Rg.nil ?_
    refine T.ifp rfl (fun c7 => ?_) (fun c7 => ?_)
    · -- c7 True
      refine T.skip ?_
      refine T.seq ?_
      refine T.block ?_
      refine T.seq ?_
      refine T.region ?_ -- region 9
      refine Rg.move rfl rfl ?_
      refine Rg.move rfl rfl ?_
      refine Rg.call rfl rfl E21 (Block_spec (M := M) (k := k) (S.lt hM2) (hp.le (by decide) S.le) hgm hps (by omega)) (fun r9 w9 h9 => ?_)
      obtain ⟨s9, h9⟩ := h9
      rw [if_pos (by unfold isB; simp; omega), Int.toNat_natCast] at h9
      have S9 := S.trans0 s9
      have hln : ((g.drop (8 * k)).take 8).length = min 8 (g.length - 8 * k) := by rw [List.length_take, List.length_drop]
      refine Rg.assign rfl rfl ?_
      refine Rg.nil ?_
      refine T.seq ?_
      refine T.seq ?_
      refine T.region ?_ -- region 10
      refine Rg.move rfl rfl ?_
      first | refine Rg.lensl Try.underlying28 rfl (by assumption) rfl ?_ | refine Rg.lenown Try.underlying28 rfl (by assumption) rfl ?_
      refine Rg.ieq rfl rfl rfl ?_
      refine Rg.move rfl rfl ?_
      refine Rg.gfalse (g := 34) rfl ((by omega)) ?_
      refine Rg.gyes rfl rfl ?_
      refine Rg.move rfl rfl ?_
      refine Rg.gyes rfl rfl ?_
      first | refine Rg.lensl Try.underlying28 rfl (by assumption) rfl ?_ | refine Rg.lenown Try.underlying28 rfl (by assumption) rfl ?_
      refine Rg.gyes rfl rfl ?_
      refine Rg.igt rfl rfl rfl ?_
      refine Rg.pickf rfl rfl rfl ?_
      refine Rg.move rfl rfl ?_
      refine Rg.gfalse (g := 39) rfl ((by omega)) ?_
      refine Rg.gyes rfl rfl ?_
      refine Rg.move rfl rfl ?_
      refine Rg.gyes rfl rfl ?_
      refine Rg.iadd rfl rfl rfl (by omega) ?_
      refine Rg.gyes rfl rfl ?_
      refine Rg.move rfl rfl ?_
      refine Rg.gyes rfl rfl ?_
      refine Rg.call rfl rfl E20 (Blocks_spec (M := M) (hp.le (by decide) (S9).le)) (fun rb2 wb2 hb2 => ?_)
      obtain ⟨rfl, rfl⟩ := hb2
      refine Rg.eqv (v' := .int .i64 (((g.length + 7) / 8 : Nat) : Int)) (by rw [hnb]) ?_
      refine Rg.gyes rfl rfl ?_
      refine Rg.ilt rfl rfl rfl ?_
      refine Rg.gyes rfl rfl ?_
      refine Rg.move rfl rfl ?_
      refine Rg.gsplitp (g := 45) rfl (fun g10_14 => ?_) (fun g10_14 => ?_)
      · -- g10_14 True
        refine Rg.gyes rfl rfl ?_
        refine Rg.move rfl rfl ?_
        refine Rg.gyes rfl rfl ?_
        first | refine Rg.lensl Try.underlying28 rfl (by assumption) rfl ?_ | refine Rg.lenown Try.underlying28 rfl (by assumption) rfl ?_
        refine Rg.gyes rfl rfl ?_
        refine Rg.ine rfl rfl rfl ?_
        refine Rg.gyes rfl rfl ?_
        refine Rg.pickt rfl rfl rfl ?_
        refine Rg.pickf rfl rfl rfl ?_
        refine Rg.nil ?_
        refine T.iffp rfl ((by omega)) ?_
        refine T.skip ?_
        refine T.region ?_ -- region 12
        refine Rg.move rfl rfl ?_
        refine Rg.move rfl rfl ?_
        first | refine Rg.lensl Try.underlying28 rfl (by assumption) rfl ?_ | refine Rg.lenown Try.underlying28 rfl (by assumption) rfl ?_
        refine Rg.iadd rfl rfl rfl (by omega) ?_
        refine Rg.assign rfl rfl ?_
        refine Rg.nil ?_
        refine T.region ?_ -- region 8
        refine Rg.move rfl rfl ?_
        refine Rg.iadd rfl rfl rfl (by omega) ?_
        refine Rg.assign rfl rfl ?_
        refine Rg.nil ?_
        refine ⟨rfl, k + 1, (.cons rfl (.cons rfl (.cons (by rw [show ((min (8 * (k + 1)) g.length : Nat) : Int) = ((min (8 * k) g.length : Nat) : Int) + (((g.drop (8 * k)).take 8).length : Int) from by omega]; rfl) (.cons rfl .nil)))), ?_, ?_⟩
        · exact ⟨by omega, S9⟩
        · show _ - (k + 1) < _ - k; omega
      · -- g10_14 False
        refine Rg.gno rfl rfl rfl rfl ?_
        refine Rg.gno rfl rfl rfl rfl ?_
        refine Rg.gno rfl rfl rfl rfl ?_
        refine Rg.gyes rfl rfl ?_
        refine Rg.pickf rfl rfl rfl ?_
        refine Rg.pickf rfl rfl rfl ?_
        refine Rg.nil ?_
        refine T.iff rfl ?_
        refine T.skip ?_
        refine T.region ?_ -- region 12
        refine Rg.move rfl rfl ?_
        refine Rg.move rfl rfl ?_
        first | refine Rg.lensl Try.underlying28 rfl (by assumption) rfl ?_ | refine Rg.lenown Try.underlying28 rfl (by assumption) rfl ?_
        refine Rg.iadd rfl rfl rfl (by omega) ?_
        refine Rg.assign rfl rfl ?_
        refine Rg.nil ?_
        refine T.region ?_ -- region 8
        refine Rg.move rfl rfl ?_
        refine Rg.iadd rfl rfl rfl (by omega) ?_
        refine Rg.assign rfl rfl ?_
        refine Rg.nil ?_
        refine ⟨rfl, k + 1, (.cons rfl (.cons rfl (.cons (by rw [show ((min (8 * (k + 1)) g.length : Nat) : Int) = ((min (8 * k) g.length : Nat) : Int) + (((g.drop (8 * k)).take 8).length : Int) from by omega]; rfl) (.cons rfl .nil)))), ?_, ?_⟩
        · exact ⟨by omega, S9⟩
        · show _ - (k + 1) < _ - k; omega
    · -- c7 False
      refine T.exit ?_
      refine T.seq ?_
      refine T.region ?_ -- region 13
      refine Rg.move rfl rfl ?_
      refine Rg.move rfl rfl ?_
      first | refine Rg.lensl Try.underlying28 rfl (by assumption) rfl ?_ | refine Rg.lenown Try.underlying28 rfl (by assumption) rfl ?_
      refine Rg.ieq rfl rfl rfl ?_
      refine Rg.move rfl rfl ?_
      refine Rg.gtrue (g := 59) rfl ((by omega)) ?_
      refine Rg.gyes rfl rfl ?_
      refine Rg.move rfl rfl ?_
      refine Rg.gyes rfl rfl ?_
      have hkk : k = (g.length + 7) / 8 := by omega
      refine Rg.call rfl rfl E25 (Len_spec (M := M) (hp.le (by decide) S.le) (S.lt hM2) (blks_many _ _)) (fun r5 w5 h5 => ?_)
      obtain ⟨rfl, s5⟩ := h5
      have hsn : sumN (mkLi g).2.1 = ((min (8 * ((g.length + 7) / 8)) g.length : Nat) : Int) := sumN_blks g _
      replace S := S.trans0 s5
      refine Rg.gyes rfl rfl ?_
      refine Rg.move rfl rfl ?_
      refine Rg.gyes rfl rfl ?_
      refine Rg.ieq rfl rfl rfl ?_
      refine Rg.pickt rfl rfl rfl ?_
      refine Rg.move rfl rfl ?_
      refine Rg.gtrue (g := 65) rfl ((by rw [hsn]; omega)) ?_
      refine Rg.gyes rfl rfl ?_
      refine Rg.move rfl rfl ?_
      refine Rg.gyes rfl rfl ?_
      refine Rg.move rfl rfl ?_
      refine Rg.gyes rfl rfl ?_
      refine Rg.call rfl rfl E20 (Blocks_spec (M := M) (hp.le (by decide) (S).le)) (fun rb3 wb3 hb3 => ?_)
      obtain ⟨rfl, rfl⟩ := hb3
      refine Rg.eqv (v' := .int .i64 (((g.length + 7) / 8 : Nat) : Int)) (by rw [hnb]) ?_
      refine Rg.gyes rfl rfl ?_
      refine Rg.call rfl rfl E21 (Block_spec (M := M) (k := (((g.length + 7) / 8 : Nat) : Int)) (S.lt hM2) (hp.le (by decide) S.le) hgm hps (by omega)) (fun r9 w9 h9 => ?_)
      obtain ⟨s9, h9⟩ := h9
      rw [if_neg (by unfold isB; simp)] at h9
      replace S := S.trans0 s9
      refine Rg.gyes rfl rfl ?_
      first | refine Rg.lensl Try.underlying28 rfl (by assumption) rfl ?_ | refine Rg.lenown Try.underlying28 rfl (by assumption) rfl ?_
      refine Rg.gyes rfl rfl ?_
      refine Rg.ieq rfl rfl rfl ?_
      refine Rg.pickt rfl rfl rfl ?_
      refine Rg.move rfl rfl ?_
      refine Rg.gtrue (g := 73) rfl (rfl) ?_
      refine Rg.gyes rfl rfl ?_
      refine Rg.call rfl rfl E24 (lives5_spec (M := M) (S.lt hM2)) (fun rL wL hL => ?_)
      obtain ⟨rfl, sL⟩ := hL
      refine Rg.pickt rfl rfl rfl ?_
      refine Rg.assign rfl rfl ?_
      refine Rg.nil ?_
      refine T.ret ?_
      exact Kret1 rfl rfl ⟨rfl, ((s1.trans0 s2).trans0 S).trans0 sL⟩

/-- 'concordance/concordancelaw05.PostingDocs' -/
theorem PostingDocs_spec {M : PSet} {w0 : World} {v : Value} {l : List Po} (hM : Lt M w0) (hv : ((RT.po).sl).V M w0 l v) :
    Spec Try.prog 4 #[v] w0 (fun v' w' => v' = .bool true ∧ Step M w0 M w' none') := by
  refine spec_of (args := [v]) (fn := Try.f4) Try.func4 rfl (n := 89) Try.ntmps4 ?_
  refine T.seq ?_
  refine T.region ?_ -- region 0
  refine Rg.assign rfl rfl ?_
  refine Rg.nil ?_
  refine T.seq ?_
  refine T.region ?_ -- region 1
  refine Rg.move rfl rfl ?_
  refine Rg.call rfl rfl E18 (Good5_spec (M := M) (most := 40) hM hv (by decide)) (fun ug w1 h1 => ?_)
  obtain ⟨s1, hg⟩ := h1
  have hgm := goodPo_may (l.take 40) (-1) (by decide) (by rw [List.length_take]; omega)
  have hgl := goodPo_len (l.take 40) (-1)
  rw [List.length_take] at hgl
  have hgs := goodPo_small (l.take 40) (-1)
  generalize goodPo (-1) (l.take 40) = g at hg hgm hgl hgs
  have hgp := putPo_small g (-1) (by decide) hgm hgs
  have hgt := totPo_small g hgs
  have hg0 := totPo_nonneg g
  have hM1 := s1.lt hM
  have hps : ∀ p ∈ g, p.2.length ≤ 1099511627776 := fun p hp => by have := hgs p hp; omega
  refine Rg.assign rfl rfl ?_
  refine Rg.nil ?_
  refine T.seq ?_
  refine T.region ?_ -- region 2
  refine Rg.move rfl rfl ?_
  refine Rg.call rfl rfl E19 (Make_spec (M := M) hM1 hg hps (by omega) (by omega) (by omega)) (fun r2 w2 h2 => ?_)
  obtain ⟨s2, hmk, _⟩ := h2
  obtain ⟨p, rfl, hp⟩ := hmk hgm
  have hM2 := s2.lt hM1
  have hnb : (mkLi g).2.1.length = (g.length + 7) / 8 := by simp [mkLi, blks]
  refine Rg.move rfl rfl ?_
  refine Rg.extract rfl rfl rfl ?_
  refine Rg.extract rfl rfl rfl ?_
  refine Rg.assign rfl rfl ?_
  refine Rg.assign rfl rfl ?_
  refine Rg.nil ?_
  refine T.seq ?_
  refine T.seq ?_
  refine T.region ?_ -- region 3
  refine Rg.move rfl rfl ?_
  refine Rg.ptreqnil (v := p) Try.underlying30 rfl (PtrTo.isPtr hp) rfl rfl ?_
  refine Rg.eqv (v' := .bool (decide False)) rfl ?_
  refine Rg.move rfl rfl ?_
  refine Rg.gfalse (g := 21) rfl ((fun h => h)) ?_
  refine Rg.gyes rfl rfl ?_
  refine Rg.move rfl rfl ?_
  refine Rg.gyes rfl rfl ?_
  refine Rg.ine rfl rfl rfl ?_
  refine Rg.pickf rfl rfl rfl ?_
  refine Rg.nil ?_
  refine T.iffp rfl ((fun h => h rfl)) ?_
  refine T.skip ?_
  refine T.seq ?_
  refine T.region ?_ -- region 5
  refine Rg.assign rfl rfl ?_
  refine Rg.nil ?_
  refine T.seq ?_
  refine T.seq ?_
  refine T.region ?_ -- region 6
  refine Rg.assign rfl rfl ?_
  refine Rg.nil ?_
  refine T.block ?_
  refine T.loop (σ := Nat × Value) (fun s => [(3, ug), (4, p), (6, s.2), (7, .int .i64 s.1)]) (fun s w => s.1 ≤ (g.length + 7) / 8 ∧ ∃ M1, Lt M1 w ∧ Step M w2 M1 w none' ∧ Own (RT.int .i64) 3 M1 w w2.heap.size s.2 ((g.take (8 * s.1)).map Prod.fst)) (fun s => (g.length + 7) / 8 - s.1) (0, _) (.cons rfl (.cons rfl (.cons rfl (.cons rfl .nil)))) ?_ ?_ -- loop 0
  · exact ⟨Nat.zero_le _, M, hM2, Step.refl _ _, Own.nil _ _ _ _ _⟩
  · rintro ⟨k, u0⟩ w3 ⟨hk, M1, hM1', S, ho⟩
    dsimp only at hk ho ⊢
    refine T.seq ?_
    refine T.seq ?_
    refine T.region ?_ -- region 7
    refine Rg.move rfl rfl ?_
    refine Rg.move rfl rfl ?_
    refine Rg.call rfl rfl E20 (Blocks_spec (M := M1) (hp.le (by decide) S.le)) (fun rb wb hb => ?_)
    obtain ⟨rfl, rfl⟩ := hb
    refine Rg.eqv (v' := .int .i64 (((g.length + 7) / 8 : Nat) : Int)) (by rw [hnb]) ?_
    refine Rg.ilt rfl rfl rfl ?_
    refine Rg.nil ?_
    refine T.ifp rfl (fun c7 => ?_) (fun c7 => ?_)
    · -- c7 True
      refine T.skip ?_
      refine T.seq ?_
      refine T.block ?_
      refine T.seq ?_
      refine T.region ?_ -- region 9
      refine Rg.move rfl rfl ?_
      refine Rg.move rfl rfl ?_
      refine Rg.call rfl rfl E21 (Block_spec (M := M1) (k := k) hM1' (hp.le (by decide) S.le) hgm hps (by omega)) (fun r9 w9 h9 => ?_)
      obtain ⟨s9, h9⟩ := h9
      rw [if_pos (by unfold isB; simp; omega), Int.toNat_natCast] at h9
      have hln : ((g.drop (8 * k)).take 8).length = min 8 (g.length - 8 * k) := by rw [List.length_take, List.length_drop]
      have e1 := lastB_mk (g := g) (k := k) (by omega)
      have e2 := lastB_prev (g := g) (k := k) (by omega)
      refine Rg.assign rfl rfl ?_
      refine Rg.nil ?_
      refine T.seq ?_
      refine T.region ?_ -- region 10
      refine Rg.assign rfl rfl ?_
      refine Rg.nil ?_
      refine T.block ?_
      refine T.loop (σ := Nat × Value) (fun s => [(3, ug), (4, p), (6, s.2), (7, .int .i64 k), (8, r9), (9, .int .i64 s.1)]) (fun s w => s.1 ≤ ((g.drop (8 * k)).take 8).length ∧ ∃ M2, Lt M2 w ∧ Step M w2 M2 w none' ∧ Le M1 w9 M2 w ∧ Own (RT.int .i64) 3 M2 w w2.heap.size s.2 ((g.take (8 * k)).map Prod.fst ++ (((g.drop (8 * k)).take 8).take s.1).map Prod.fst)) (fun s => ((g.drop (8 * k)).take 8).length - s.1) (0, _) (.cons rfl (.cons rfl (.cons rfl (.cons rfl (.cons rfl (.cons rfl .nil)))))) ?_ ?_ -- loop 1
      · exact ⟨Nat.zero_le _, M1, s9.lt hM1', S.trans0 s9, Le.refl _ _, by simpa using ho.step0 s9⟩
      · rintro ⟨j, u8⟩ w4 ⟨hj, M2, hM2', S2, hle, ho⟩
        dsimp only at hj ho ⊢
        clear S
        have S := S2
        refine T.seq ?_
        refine T.seq ?_
        refine T.region ?_ -- region 11
        refine Rg.move rfl rfl ?_
        refine Rg.move rfl rfl ?_
        refine Rg.lensl Try.underlying28 rfl h9 rfl ?_
        refine Rg.ilt rfl rfl rfl ?_
        refine Rg.nil ?_
        refine T.ifp rfl (fun c11 => ?_) (fun c11 => ?_)
        · -- c11 True
          refine T.skip ?_
          refine T.seq ?_
          refine T.block ?_
          refine T.seq ?_
          refine T.seq ?_
          obtain ⟨⟨d, ps⟩, hc⟩ : ∃ x, ((g.drop (8 * k)).take 8)[j]? = some x := ⟨_, List.getElem?_eq_getElem (by omega)⟩
          have hc2 : g[8 * k + j]? = some (d, ps) := by rw [List.getElem?_take, if_pos (by omega), List.getElem?_drop] at hc; exact hc
          obtain ⟨f1, f2, f3, f4, f5, f6⟩ := may_at hgm hc2
          have m1 := lastPo_mono g (-1) (8 * k) (8 * k + j) hgm (by omega) (by omega)
          have m2 := lastPo_mono g (-1) (8 * k + j + 1) (8 * k + 8) hgm (by omega) (by omega)
          by_cases g13_9 : lastB (mkLi g).2.1 (k : Int) < d
          · -- g13_9 True
            exact absurd g13_9 (by omega)
          · -- g13_9 False
            apply T.draw (M := M2) mixed [Asr.eq _, Asr.eq _, Asr.ptr RT.po (d, ps), Asr.ptr (RT.int .i64) d, Asr.eq (.int .i64 d), Asr.eq _, Asr.eq _, Asr.eq _, Asr.eq _, Asr.eq (.bool false), Asr.eq _, Asr.eq _, Asr.ptr RT.po (d, ps), Asr.ptr (RT.int .i64) d, Asr.eq (.int .i64 d), Asr.eq _, Asr.eq _, Asr.eq _, Asr.eq _, Asr.eq _, Asr.eq _] -- region 13
            · rfl
            · -- its operations
              refine Obls.cons ?_ ?_
              · intro wD E sD -- 0
                refine Rg.move rfl rfl ?_
                exact Rg.nil ⟨rfl, rfl, _, rfl, rfl, Step.refl _ _⟩
              refine Obls.cons ?_ ?_
              · intro wD E sD -- 1
                refine Rg.move rfl rfl ?_
                exact Rg.nil ⟨rfl, rfl, _, rfl, rfl, Step.refl _ _⟩
              refine Obls.cons ?_ ?_
              · intro wD E sD -- 2
                intro x_ hx_; have hx_ : x_ = _ := hx_; subst x_
                intro x_ hx_; have hx_ : x_ = _ := hx_; subst x_
                refine Rg.idx (M := M2) Try.underlying28 I37 rfl rfl rfl (h9.le (Le.trans hle sD.le)) (Le.refl _ _) (by omega) (fun ui ai hgi hui => ?_)
                obtain rfl : (d, ps) = ai := Eq.symm (Option.some.inj (hgi.symm.trans (by simpa using hc)))
                exact Rg.nil ⟨rfl, rfl, _, rfl, hui, Step.refl _ _⟩
              refine Obls.cons ?_ ?_
              · intro wD E sD -- 3
                intro v2 hv2
                refine Rg.fieldAddr (M := M2) (A := RT.po) (B := RT.int .i64) Try.underlying37 rfl rfl I3 (by decide) po0 rfl rfl (by decide) (show PtrTo RT.po M2 wD v2 (d, ps) from hv2) (Le.refl _ _) (fun uf huf => ?_)
                exact Rg.nil ⟨rfl, rfl, _, rfl, huf, Step.refl _ _⟩
              refine Obls.cons ?_ ?_
              · intro wD E sD -- 4
                intro v3 hv3
                refine Rg.loadi64 (M := M2) Try.underlying3 rfl rfl (by assumption) (by repeat (first | exact Le.refl _ _ | refine Le.trans (Step.le (by assumption)) ?_)) (fun in13_4 => ?_)
                exact Rg.nil ⟨rfl, rfl, _, rfl, rfl, Step.refl _ _⟩
              refine Obls.cons ?_ ?_
              · intro wD E sD -- 5
                refine Rg.move rfl rfl ?_
                exact Rg.nil ⟨rfl, rfl, _, rfl, rfl, Step.refl _ _⟩
              refine Obls.cons ?_ ?_
              · intro wD E sD -- 6
                refine Rg.move rfl rfl ?_
                exact Rg.nil ⟨rfl, rfl, _, rfl, rfl, Step.refl _ _⟩
              refine Obls.cons ?_ ?_
              · intro wD E sD -- 7
                intro x_ hx_; have hx_ : x_ = _ := hx_; subst x_
                intro x_ hx_; have hx_ : x_ = _ := hx_; subst x_
                refine Rg.call rfl rfl E22 (Last_spec (hp.le (by decide) (Le.trans S.le sD.le))) (fun r w h => ?_)
                obtain ⟨rfl, rfl⟩ := h
                exact Rg.nil ⟨rfl, rfl, _, rfl, rfl, Step.refl _ _⟩
              refine Obls.cons ?_ ?_
              · intro wD E sD -- 8
                intro x_ hx_; have hx_ : x_ = _ := hx_; subst x_
                intro x_ hx_; have hx_ : x_ = _ := hx_; subst x_
                refine Rg.igt rfl rfl rfl ?_
                exact Rg.nil ⟨rfl, rfl, _, rfl, rfl, Step.refl _ _⟩
              refine Obls.cons ?_ ?_
              · intro wD E sD -- 9
                intro x_ hx_; have hx_ : x_ = _ := hx_; subst x_
                intro x_ hx_; have hx_ : x_ = _ := hx_; subst x_
                refine Rg.move rfl rfl ?_
                refine Rg.nil ⟨rfl, rfl, _, rfl, ?_, Step.refl _ _⟩
                exact congrArg Value.bool (decide_eq_false g13_9)
              refine Obls.cons ?_ ?_
              · intro wD E sD -- 10
                intro x_ hx_; have hx_ : x_ = _ := hx_; subst x_
                refine Rg.gyes rfl rfl ?_
                refine Rg.move rfl rfl ?_
                exact Rg.nil ⟨rfl, rfl, _, rfl, rfl, Step.refl _ _⟩
              refine Obls.cons ?_ ?_
              · intro wD E sD -- 11
                intro x_ hx_; have hx_ : x_ = _ := hx_; subst x_
                refine Rg.gyes rfl rfl ?_
                refine Rg.move rfl rfl ?_
                exact Rg.nil ⟨rfl, rfl, _, rfl, rfl, Step.refl _ _⟩
              refine Obls.cons ?_ ?_
              · intro wD E sD -- 12
                intro x_ hx_; have hx_ : x_ = _ := hx_; subst x_
                intro x_ hx_; have hx_ : x_ = _ := hx_; subst x_
                intro x_ hx_; have hx_ : x_ = _ := hx_; subst x_
                refine Rg.gyes rfl rfl ?_
                refine Rg.idx (M := M2) Try.underlying28 I37 rfl rfl rfl (h9.le (Le.trans hle sD.le)) (Le.refl _ _) (by omega) (fun ui ai hgi hui => ?_)
                obtain rfl : (d, ps) = ai := Eq.symm (Option.some.inj (hgi.symm.trans (by simpa using hc)))
                exact Rg.nil ⟨rfl, rfl, _, rfl, hui, Step.refl _ _⟩
              refine Obls.cons ?_ ?_
              · intro wD E sD -- 13
                intro v12 hv12
                intro x_ hx_; have hx_ : x_ = _ := hx_; subst x_
                refine Rg.gyes rfl rfl ?_
                refine Rg.fieldAddr (M := M2) (A := RT.po) (B := RT.int .i64) Try.underlying37 rfl rfl I3 (by decide) po0 rfl rfl (by decide) (show PtrTo RT.po M2 wD v12 (d, ps) from hv12) (Le.refl _ _) (fun uf huf => ?_)
                exact Rg.nil ⟨rfl, rfl, _, rfl, huf, Step.refl _ _⟩
              refine Obls.cons ?_ ?_
              · intro wD E sD -- 14
                intro v13 hv13
                intro x_ hx_; have hx_ : x_ = _ := hx_; subst x_
                refine Rg.gyes rfl rfl ?_
                refine Rg.loadi64 (M := M2) Try.underlying3 rfl rfl (by assumption) (by repeat (first | exact Le.refl _ _ | refine Le.trans (Step.le (by assumption)) ?_)) (fun in13_14 => ?_)
                exact Rg.nil ⟨rfl, rfl, _, rfl, rfl, Step.refl _ _⟩
              refine Obls.cons ?_ ?_
              · intro wD E sD -- 15
                intro x_ hx_; have hx_ : x_ = _ := hx_; subst x_
                refine Rg.gyes rfl rfl ?_
                refine Rg.move rfl rfl ?_
                exact Rg.nil ⟨rfl, rfl, _, rfl, rfl, Step.refl _ _⟩
              refine Obls.cons ?_ ?_
              · intro wD E sD -- 16
                intro x_ hx_; have hx_ : x_ = _ := hx_; subst x_
                refine Rg.gyes rfl rfl ?_
                refine Rg.move rfl rfl ?_
                exact Rg.nil ⟨rfl, rfl, _, rfl, rfl, Step.refl _ _⟩
              refine Obls.cons ?_ ?_
              · intro wD E sD -- 17
                intro x_ hx_; have hx_ : x_ = _ := hx_; subst x_
                intro x_ hx_; have hx_ : x_ = _ := hx_; subst x_
                refine Rg.gyes rfl rfl ?_
                refine Rg.isub rfl rfl rfl (by omega) ?_
                exact Rg.nil ⟨rfl, rfl, _, rfl, rfl, Step.refl _ _⟩
              refine Obls.cons ?_ ?_
              · intro wD E sD -- 18
                intro x_ hx_; have hx_ : x_ = _ := hx_; subst x_
                intro x_ hx_; have hx_ : x_ = _ := hx_; subst x_
                intro x_ hx_; have hx_ : x_ = _ := hx_; subst x_
                intro x_ hx_; have hx_ : x_ = _ := hx_; subst x_
                refine Rg.gyes rfl rfl ?_
                refine Rg.call rfl rfl E22 (Last_spec (hp.le (by decide) (Le.trans S.le sD.le))) (fun r w h => ?_)
                obtain ⟨rfl, rfl⟩ := h
                exact Rg.nil ⟨rfl, rfl, _, rfl, rfl, Step.refl _ _⟩
              refine Obls.cons ?_ ?_
              · intro wD E sD -- 19
                intro x_ hx_; have hx_ : x_ = _ := hx_; subst x_
                intro x_ hx_; have hx_ : x_ = _ := hx_; subst x_
                intro x_ hx_; have hx_ : x_ = _ := hx_; subst x_
                refine Rg.gyes rfl rfl ?_
                refine Rg.ile rfl rfl rfl ?_
                exact Rg.nil ⟨rfl, rfl, _, rfl, rfl, Step.refl _ _⟩
              refine Obls.cons ?_ ?_
              · intro wD E sD -- 20
                intro x_ hx_; have hx_ : x_ = _ := hx_; subst x_
                intro x_ hx_; have hx_ : x_ = _ := hx_; subst x_
                refine Rg.pickf rfl rfl rfl ?_
                exact Rg.nil ⟨rfl, rfl, _, rfl, rfl, Step.refl _ _⟩
              exact Obls.nil
            · -- behind it
              intro wD13 sD13
              intro x_ hx_; have hx_ : x_ = _ := hx_; subst x_
              intro x_ hx_; have hx_ : x_ = _ := hx_; subst x_
              intro v13_2 hv13_2
              intro v13_3 hv13_3
              intro x_ hx_; have hx_ : x_ = _ := hx_; subst x_
              intro x_ hx_; have hx_ : x_ = _ := hx_; subst x_
              intro x_ hx_; have hx_ : x_ = _ := hx_; subst x_
              intro x_ hx_; have hx_ : x_ = _ := hx_; subst x_
              intro x_ hx_; have hx_ : x_ = _ := hx_; subst x_
              intro x_ hx_; have hx_ : x_ = _ := hx_; subst x_
              intro x_ hx_; have hx_ : x_ = _ := hx_; subst x_
              intro x_ hx_; have hx_ : x_ = _ := hx_; subst x_
              intro v13_12 hv13_12
              intro v13_13 hv13_13
              intro x_ hx_; have hx_ : x_ = _ := hx_; subst x_
              intro x_ hx_; have hx_ : x_ = _ := hx_; subst x_
              intro x_ hx_; have hx_ : x_ = _ := hx_; subst x_
              intro x_ hx_; have hx_ : x_ = _ := hx_; subst x_
              intro x_ hx_; have hx_ : x_ = _ := hx_; subst x_
              intro x_ hx_; have hx_ : x_ = _ := hx_; subst x_
              intro x_ hx_; have hx_ : x_ = _ := hx_; subst x_
              replace hM2' := sD13.lt hM2'
              replace S := S.trans0 sD13
              replace hle := Le.trans hle sD13.le
              replace ho := ho.step0 sD13
              refine T.iffp rfl ((by omega)) ?_
              refine T.skip ?_
              refine T.region ?_ -- region 15
              refine Rg.move rfl rfl ?_
              refine Rg.move rfl rfl ?_
              refine Rg.move rfl rfl ?_
              refine Rg.idx (M := M2) Try.underlying28 I37 rfl rfl rfl (h9.le hle) (Le.refl _ _) (by omega) (fun ui ai hgi hui => ?_)
              obtain rfl : (d, ps) = ai := Eq.symm (Option.some.inj (hgi.symm.trans (by simpa using hc)))
              refine Rg.fieldAddr (M := M2) (A := RT.po) (B := RT.int .i64) Try.underlying37 rfl rfl I3 (by decide) po0 rfl rfl (by decide) hui (Le.refl _ _) (fun uf huf => ?_)
              refine Rg.loadi64 (M := M2) Try.underlying3 rfl rfl huf (Le.refl _ _) (fun hdr => ?_)
              refine Rg.eqv (v' := .int .i64 d) rfl ?_
              simp only at hdr
              refine Rg.sl1 (A := RT.int .i64) (hn := by decide) (M := M2) Try.underlying23 I3 (by decide) rfl rfl hM2' (V_i64 hdr) (.inr ⟨rfl, rfl⟩) (fun u5 w5 hu5 s5 => ?_)
              refine Rg.append (M := M2) (base := w2.heap.size) Try.underlying23 I3 rfl rfl rfl rfl (ho.step0 s5) hu5 (Le.refl _ _) (by simp; omega) (by simp; omega) (Nat.le_trans S.size s5.size) (fun v6 M3 w6 ho6 s6 => ?_)
              refine Rg.assign rfl rfl ?_
              refine Rg.nil ?_
              refine T.region ?_ -- region 12
              refine Rg.move rfl rfl ?_
              refine Rg.iadd rfl rfl rfl (by omega) ?_
              refine Rg.assign rfl rfl ?_
              refine Rg.nil ?_
              refine ⟨rfl, (j + 1, v6), (.cons rfl (.cons rfl (.cons rfl (.cons rfl (.cons rfl (.cons rfl .nil)))))), ?_, ?_⟩
              · refine ⟨by simp only; omega, M3, s6.lt (s5.lt hM2'), (S.trans0 s5).transBlk s6 (ho.step0 s5) (Nat.le_refl _), Le.trans hle (Le.trans s5.le s6.le), ?_⟩
                simp only
                rw [take_snoc_map hc, ← List.append_assoc]
                exact ho6
              · simp only; omega
        · -- c11 False
          refine T.exit ?_
          refine T.region ?_ -- region 8
          refine Rg.move rfl rfl ?_
          refine Rg.iadd rfl rfl rfl (by omega) ?_
          refine Rg.assign rfl rfl ?_
          refine Rg.nil ?_
          refine ⟨rfl, (k + 1, u8), (.cons rfl (.cons rfl (.cons rfl (.cons rfl .nil)))), ?_, ?_⟩
          · refine ⟨by simp only; omega, M2, hM2', S2, ?_⟩
            simp only
            rw [List.take_of_length_le (l := (g.drop (8 * k)).take 8) (by omega), ← List.map_append, ← List.take_add] at ho
            rw [show 8 * (k + 1) = 8 * k + 8 from by omega]
            exact ho
          · simp only; omega
    · -- c7 False
      refine T.exit ?_
      refine T.seq ?_
      refine T.region ?_ -- region 16
      refine Rg.assign rfl rfl ?_
      refine Rg.nil ?_
      refine T.seq ?_
      refine T.seq ?_
      refine T.region ?_ -- region 17
      refine Rg.assign rfl rfl ?_
      refine Rg.nil ?_
      refine T.block ?_
      obtain ⟨wz, hwz⟩ : ∃ wz, wz = w3 := ⟨_, rfl⟩
      subst hwz
      have hMz := S.back.lt hM2
      have hdz : ((RT.int .i64).sl).V M wz (g.map Prod.fst) u0 := by
        rw [List.take_of_length_le (by omega)] at ho
        exact Own.close hM2 S ho (by simp; omega)
      have hgz := (hg.le s2.le).le S.back.le
      refine T.loop (σ := Nat × Value) (fun s => [(3, ug), (6, u0), (10, s.2), (11, .int .i64 s.1)]) (fun s w => s.1 ≤ g.length ∧ ∃ M3, Lt M3 w ∧ Step M wz M3 w none' ∧ Own (RT.int .i64) 3 M3 w wz.heap.size s.2 ((g.take s.1).map Prod.fst)) (fun s => g.length - s.1) (0, _) (.cons rfl (.cons rfl (.cons rfl (.cons rfl .nil)))) ?_ ?_ -- loop 2
      · exact ⟨Nat.zero_le _, M, hMz, Step.refl _ _, Own.nil _ _ _ _ _⟩
      · rintro ⟨i, u1⟩ w4 ⟨hi, M3, hM3', S3, ho⟩
        dsimp only at hi ho ⊢
        refine T.seq ?_
        refine T.seq ?_
        refine T.region ?_ -- region 18
        refine Rg.move rfl rfl ?_
        refine Rg.move rfl rfl ?_
        refine Rg.lensl Try.underlying28 rfl hg rfl ?_
        refine Rg.ilt rfl rfl rfl ?_
        refine Rg.nil ?_
        refine T.ifp rfl (fun c18 => ?_) (fun c18 => ?_)
        · -- c18 True
          refine T.skip ?_
          refine T.seq ?_
          refine T.block ?_
          refine T.region ?_ -- region 20
          refine Rg.move rfl rfl ?_
          refine Rg.move rfl rfl ?_
          refine Rg.move rfl rfl ?_
          obtain ⟨⟨d, ps⟩, hx⟩ : ∃ x, g[i]? = some x := ⟨_, List.getElem?_eq_getElem (by omega)⟩
          refine Rg.idx (M := M3) Try.underlying28 I37 rfl rfl rfl (hgz.le S3.le) (Le.refl _ _) (by omega) (fun ui ai hgi hui => ?_)
          obtain rfl : (d, ps) = ai := Eq.symm (Option.some.inj (hgi.symm.trans (by simpa using hx)))
          refine Rg.fieldAddr (M := M3) (A := RT.po) (B := RT.int .i64) Try.underlying37 rfl rfl I3 (by decide) po0 rfl rfl (by decide) hui (Le.refl _ _) (fun uf huf => ?_)
          refine Rg.loadi64 (M := M3) Try.underlying3 rfl rfl huf (Le.refl _ _) (fun hdr => ?_)
          refine Rg.eqv (v' := .int .i64 d) rfl ?_
          simp only at hdr
          refine Rg.sl1 (A := RT.int .i64) (hn := by decide) (M := M3) Try.underlying23 I3 (by decide) rfl rfl hM3' (V_i64 hdr) (.inr ⟨rfl, rfl⟩) (fun u5 w5 hu5 s5 => ?_)
          refine Rg.append (M := M3) (base := wz.heap.size) Try.underlying23 I3 rfl rfl rfl rfl (ho.step0 s5) hu5 (Le.refl _ _) (by simp; omega) (by simp; omega) (Nat.le_trans S3.size s5.size) (fun v6 M4 w6 ho6 s6 => ?_)
          refine Rg.assign rfl rfl ?_
          refine Rg.nil ?_
          refine T.region ?_ -- region 19
          refine Rg.move rfl rfl ?_
          refine Rg.iadd rfl rfl rfl (by omega) ?_
          refine Rg.assign rfl rfl ?_
          refine Rg.nil ?_
          refine ⟨rfl, (i + 1, v6), (.cons rfl (.cons rfl (.cons rfl (.cons rfl .nil)))), ?_, ?_⟩
          · refine ⟨by simp only; omega, M4, s6.lt (s5.lt hM3'), (S3.trans0 s5).transBlk s6 (ho.step0 s5) (Nat.le_refl _), ?_⟩
            simp only
            rw [take_snoc_map hx]
            exact ho6
          · simp only; omega
        · -- c18 False
          refine T.exit ?_
          refine T.seq ?_
          refine T.region ?_ -- region 21
          refine Rg.move rfl rfl ?_
          refine Rg.move rfl rfl ?_
          rw [List.take_of_length_le (by omega)] at ho
          refine Rg.call rfl rfl E23 (Same_spec (M := M) (S3.back.lt hMz) (hdz.le S3.back.le) (Own.close hMz S3 ho (by simp; omega))) (fun r14 w14 h14 => ?_)
          obtain ⟨rfl, s14⟩ := h14
          have S4 := S3.back.trans0 s14
          refine Rg.move rfl rfl ?_
          refine Rg.gtrue (g := 86) rfl (rfl) ?_
          refine Rg.gyes rfl rfl ?_
          refine Rg.call rfl rfl E24 (lives5_spec (M := M) (S4.lt hMz)) (fun rL wL hL => ?_)
          obtain ⟨rfl, sL⟩ := hL
          refine Rg.pickt rfl rfl rfl ?_
          refine Rg.assign rfl rfl ?_
          refine Rg.nil ?_
          refine T.ret ?_
          exact Kret1 rfl rfl ⟨rfl, (((s1.trans0 s2).trans0 S.back).trans0 S4).trans0 sL⟩

end Go.K

/- The walks of Go functions, operation by operation. -/
import Derived.Test.YtgpmihcdjmjfoaaKTypes
import Derived.Test.YtgpmihcdjmjfoaaKNum
import Derived.Test.YtgpmihcdjmjfoaaKPost
import Derived.Test.YtgpmihcdjmjfoaaKPtr
import Derived.Test.YtgpmihcdjmjfoaaKCur
import Derived.Test.YtgpmihcdjmjfoaaKCur2
import Derived.Test.YtgpmihcdjmjfoaaKDraw
import Derived.Test.YtgpmihcdjmjfoaaKPosting
import Derived.Test.YtgpmihcdjmjfoaaKMake2
import Derived.Test.YtgpmihcdjmjfoaaKCursor
import Derived.Test.YtgpmihcdjmjfoaaKAdv
import Derived.Test.YtgpmihcdjmjfoaaKBoth
import Derived.Test.YtgpmihcdjmjfoaaKRef04
import Derived.Test.YtgpmihcdjmjfoaaProg
import Derived.KernelRfl
namespace Go.K
open Go.Proofs
namespace TKLives6
theorem I37 : TI Try.prog 37 (.agg #[(.int .i64 0), (.slice none 0 0)]) 2 32 := by unfold TI; kernel_rfl -- api.Posting
theorem B37 : placesOf Try.prog 37 = [(0, 1), (1, 1)].map some := by kernel_rfl
theorem E19 : Enters Try.prog 19 := enters Try.func19 rfl (by decide) -- concordance/posting.Make
theorem E30 : Enters Try.prog 30 := enters Try.func30 rfl (by decide) -- concordance/cursor.New
theorem E38 : Enters Try.prog 38 := enters Try.func38 rfl (by decide) -- (*concordance/cursor.Cursor).Next
theorem E39 : Enters Try.prog 39 := enters Try.func39 rfl (by decide) -- (*concordance/cursor.Cursor).Advance
end TKLives6
open TKLives6
set_option linter.unusedVariables false
set_option linter.unusedSimpArgs false
set_option maxRecDepth 10000

/-- 'concordance/concordancelaw06.lives' -/
theorem lives6_spec {M : PSet} {w0 : World} (hM : Lt M w0) :
    Spec Try.prog 33 #[] w0 (fun v' w' => v' = .bool true ∧ Step M w0 M w' none') := by
  have o3 : OkL [((1 : Int), [(0 : Int)]), (5, [0]), (9, [0])] := ⟨by decide, by decide, by have := putPo_small [((1 : Int), [(0 : Int)]), (5, [0]), (9, [0])] (-1) (by decide) (by decide) (by decide); simp only [List.length_cons, List.length_nil] at this; omega, by decide, by decide⟩
  refine spec_of (args := []) (fn := Try.f33) Try.func33 rfl (n := 37) Try.ntmps33 ?_
  refine T.seq ?_
  refine T.region ?_ -- region 0
  refine Rg.assign rfl rfl ?_
  refine Rg.nil ?_
  refine T.seq ?_
  refine T.region ?_ -- region 1
  refine Rg.sl1 (A := RT.int .i64) (hn := by decide) (M := M) Try.underlying23 I3 (by decide) rfl rfl hM (V_i64 (x := 0) (by omega)) (.inr ⟨rfl, rfl⟩) (fun u1 w1 hu1 s1 => ?_)
  refine Rg.build (places := [(0, 1), (1, 1)]) Try.underlying37 I37 B37 rfl ⟨_, _, rfl, rfl, _, _, rfl, rfl, rfl⟩ (out := [_, _]) ⟨0, [_], rfl, rfl, by simp [Value.cells], 1, [_], rfl, V_cells hu1, by simp [Value.cells], rfl⟩ ?_
  refine Rg.sl1 (A := RT.int .i64) (hn := by decide) (M := M) Try.underlying23 I3 (by decide) rfl rfl (s1.lt hM) (V_i64 (x := 0) (by omega)) (.inr ⟨rfl, rfl⟩) (fun u2 w2 hu2 s2 => ?_)
  refine Rg.build (places := [(0, 1), (1, 1)]) Try.underlying37 I37 B37 rfl ⟨_, _, rfl, rfl, _, _, rfl, rfl, rfl⟩ (out := [_, _]) ⟨0, [_], rfl, rfl, by simp [Value.cells], 1, [_], rfl, V_cells hu2, by simp [Value.cells], rfl⟩ ?_
  refine Rg.sl1 (A := RT.int .i64) (hn := by decide) (M := M) Try.underlying23 I3 (by decide) rfl rfl (s2.lt (s1.lt hM)) (V_i64 (x := 0) (by omega)) (.inr ⟨rfl, rfl⟩) (fun u3 w3 hu3 s3 => ?_)
  refine Rg.build (places := [(0, 1), (1, 1)]) Try.underlying37 I37 B37 rfl ⟨_, _, rfl, rfl, _, _, rfl, rfl, rfl⟩ (out := [_, _]) ⟨0, [_], rfl, rfl, by simp [Value.cells], 1, [_], rfl, V_cells hu3, by simp [Value.cells], rfl⟩ ?_
  have hM3 := s3.lt (s2.lt (s1.lt hM))
  refine Rg.sln (A := RT.po) (hn := by decide) (M := M) (xs := [((1 : Int), [(0 : Int)]), (5, [0]), (9, [0])]) Try.underlying28 I37 rfl (by decide) rfl ⟨_, _, _, rfl, rfl, rfl, V_pair_mk (V_i64 (x := 1) (by omega)) ((hu1.le s2.le).le s3.le) rfl rfl rfl rfl, _, _, _, rfl, rfl, rfl, V_pair_mk (V_i64 (x := 5) (by omega)) (hu2.le s3.le) rfl rfl rfl rfl, _, _, _, rfl, rfl, rfl, V_pair_mk (V_i64 (x := 9) (by omega)) hu3 rfl rfl rfl rfl, rfl⟩ rfl hM3 (.inl rfl) (by decide) (fun u4 w4 hu4 s4 => ?_)
  have hM4 := s4.lt hM3
  refine Rg.call rfl rfl E19 (Make_ok (M := M) hM4 hu4 o3) (fun r w5 h => ?_)
  obtain ⟨s5, q, rfl, hp⟩ := h
  refine Rg.move rfl rfl ?_
  refine Rg.extract rfl rfl rfl ?_
  refine Rg.extract rfl rfl rfl ?_
  refine Rg.assign rfl rfl ?_
  refine Rg.assign rfl rfl ?_
  refine Rg.nil ?_
  refine T.seq ?_
  refine T.region ?_ -- region 2
  refine Rg.move rfl rfl ?_
  refine Rg.call rfl rfl E30 (New6_spec (M := M) (hp)) (fun r w6 h => ?_)
  obtain ⟨bc, rfl, hz, s6, hC⟩ := h
  have hM6 := s6.lt (s5.lt hM4)
  generalize ins M bc = M1 at s6 hC hM6
  refine Rg.assign rfl rfl ?_
  refine Rg.nil ?_
  refine T.seq ?_
  refine T.seq ?_
  refine T.region ?_ -- region 3
  refine Rg.move rfl rfl ?_
  refine Rg.ptreqnil (v := .pointer (some ⟨bc, 0, none⟩)) Try.underlying43 rfl ⟨_, rfl⟩ rfl rfl ?_
  refine Rg.eqv (v' := .bool (decide False)) rfl ?_
  refine Rg.nil ?_
  refine T.iffp rfl ((fun h => h)) ?_
  refine T.skip ?_
  refine T.seq ?_
  refine T.region ?_ -- region 5
  refine Rg.move rfl rfl ?_
  refine Rg.call rfl rfl E39 (Adv_ok hC hM6 o3 (by omega)) (fun r w7 h => ?_)
  obtain ⟨rfl, s7, hC7⟩ := h
  rw [show advI [((1 : Int), [(0 : Int)]), (5, [0]), (9, [0])] (-1) 4 = (1 : Int) from by decide] at hC7 ⊢
  refine Rg.eqv (v' := .int .i64 5) (congrArg _ (by decide)) ?_
  refine Rg.ieq rfl rfl rfl ?_
  refine Rg.move rfl rfl ?_
  refine Rg.gtrue (g := 22) rfl (rfl) ?_
  refine Rg.gyes rfl rfl ?_
  refine Rg.move rfl rfl ?_
  refine Rg.gyes rfl rfl ?_
  refine Rg.call rfl rfl E39 (Adv_ok hC7 (s7.lt hM6) o3 (by omega)) (fun r w8 h => ?_)
  obtain ⟨rfl, s8, hC8⟩ := h
  rw [show advI [((1 : Int), [(0 : Int)]), (5, [0]), (9, [0])] 1 2 = (1 : Int) from by decide] at hC8 ⊢
  refine Rg.eqv (v' := .int .i64 5) (congrArg _ (by decide)) ?_
  refine Rg.gyes rfl rfl ?_
  refine Rg.ieq rfl rfl rfl ?_
  refine Rg.pickt rfl rfl rfl ?_
  refine Rg.move rfl rfl ?_
  refine Rg.gtrue (g := 27) rfl (rfl) ?_
  refine Rg.gyes rfl rfl ?_
  refine Rg.move rfl rfl ?_
  refine Rg.gyes rfl rfl ?_
  refine Rg.call rfl rfl E38 (Next_ok hC8 (s8.lt (s7.lt hM6)) o3) (fun r w9 h => ?_)
  obtain ⟨rfl, s9, hC9⟩ := h
  rw [show nextI [((1 : Int), [(0 : Int)]), (5, [0]), (9, [0])] 1 = (2 : Int) from by decide] at hC9 ⊢
  refine Rg.eqv (v' := .int .i64 9) (congrArg _ (by decide)) ?_
  refine Rg.gyes rfl rfl ?_
  refine Rg.ieq rfl rfl rfl ?_
  refine Rg.pickt rfl rfl rfl ?_
  refine Rg.move rfl rfl ?_
  refine Rg.gtrue (g := 32) rfl (rfl) ?_
  refine Rg.gyes rfl rfl ?_
  refine Rg.move rfl rfl ?_
  refine Rg.gyes rfl rfl ?_
  refine Rg.call rfl rfl E38 (Next_ok hC9 (s9.lt (s8.lt (s7.lt hM6))) o3) (fun r w10 h => ?_)
  obtain ⟨rfl, s10, hC10⟩ := h
  rw [show nextI [((1 : Int), [(0 : Int)]), (5, [0]), (9, [0])] 2 = (3 : Int) from by decide] at hC10 ⊢
  refine Rg.eqv (v' := .int .i64 2147483648) (congrArg _ (by decide)) ?_
  refine Rg.gyes rfl rfl ?_
  refine Rg.ieq rfl rfl rfl ?_
  refine Rg.pickt rfl rfl rfl ?_
  refine Rg.assign rfl rfl ?_
  refine Rg.nil ?_
  refine T.ret ?_
  have S6 := (((((s1.trans0 s2).trans0 s3).trans0 s4).trans0 s5).trans0 s6)
  have hz6 : w0.heap.size ≤ bc := Nat.le_trans ((((s1.trans0 s2).trans0 s3).trans0 s4).trans0 s5).size hz
  have hN : ∀ b, b = bc → w0.heap.size ≤ b := fun b hb => by omega
  exact Kret1 rfl rfl ⟨rfl, ((((S6.transNew s7 hN).transNew s8 hN).transNew s9 hN).transNew s10 hN).back⟩

end Go.K

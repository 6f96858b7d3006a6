/- The walks of Go functions, operation by operation. -/
import Derived.Test.YtohfoenhmkfjkaaGreatDoorKEmpty16
import Derived.Test.YtohfoenhmkfjkaaGreatDoorKTypes
import Derived.Test.YtohfoenhmkfjkaaGreatDoorProg
import Derived.KernelRfl
namespace Go.K
open Go.Proofs
namespace TKBuild16
theorem I3 : TI Tryz.prog 3 (.int .i64 0) 1 8 := by unfold TI; kernel_rfl -- int
theorem I32 : TI Tryz.prog 32 (.slice none 0 0) 1 24 := by unfold TI; kernel_rfl -- []int
theorem I55 : TI Tryz.prog 55 (.slice none 0 0) 1 24 := by unfold TI; kernel_rfl -- []string
theorem I56 : TI Tryz.prog 56 (.slice none 0 0) 1 24 := by unfold TI; kernel_rfl -- [][]api.Posting
theorem I58 : TI Tryz.prog 58 (.agg #[(.slice none 0 0), (.slice none 0 0), (.slice none 0 0), (.slice none 0 0)]) 4 96 := by unfold TI; kernel_rfl -- segment.Parts
theorem I125 : TI Tryz.prog 125 (.agg #[(.slice none 0 0), (.slice none 0 0), (.pointer none)]) 3 56 := by unfold TI; kernel_rfl -- segment.Segment
theorem I188 : TI Tryz.prog 188 (.slice none 0 0) 1 24 := by unfold TI; kernel_rfl -- []*posting.List
theorem B125 : placesOf Tryz.prog 125 = [(0, 1), (1, 1), (2, 1)].map some := by kernel_rfl
theorem E27 : Enters Tryz.prog 27 := enters Tryz.func27 rfl (by decide) -- concordance/segment.Make
theorem E56 : Enters Tryz.prog 56 := enters Tryz.func56 rfl (by decide) -- concordance/buffer.New
theorem E58 : Enters Tryz.prog 58 := enters Tryz.func58 rfl (by decide) -- (*concordance/buffer.Buffer).Keys
theorem E63 : Enters Tryz.prog 63 := enters Tryz.func63 rfl (by decide) -- slices.Clone[[]int,int]
theorem E76 : Enters Tryz.prog 76 := enters Tryz.func76 rfl (by decide) -- concordance/segment.make1
theorem E124 : Enters Tryz.prog 124 := enters Tryz.func124 rfl (by decide) -- concordance/segment.rise
theorem E127 : Enters Tryz.prog 127 := enters Tryz.func127 rfl (by decide) -- slices.ContainsFunc[[][]concordance/api.Posting,[]concordance/api.Posting]
theorem E128 : Enters Tryz.prog 128 := enters Tryz.func128 rfl (by decide) -- concordance/dict.Make[*concordance/posting.List]
end TKBuild16
open TKBuild16
set_option linter.unusedVariables false
set_option linter.unusedSimpArgs false
set_option maxRecDepth 10000

/-- 'concordance/segment.make1' -/
theorem make1_nil (w0 : World) :
    Spec Tryz.prog 76 #[.agg #[.slice none 0 0, .slice none 0 0, .slice none 0 0, .slice none 0 0]] w0 (fun v w => ∃ b, v = .pointer (some ⟨b, 0, none⟩) ∧ Step allM w0 allM w none') := by
  refine spec_of (args := [_]) (fn := Tryz.f76) Tryz.func76 rfl (n := 45) Tryz.ntmps76 ?_
  have S : Step allM w0 allM w0 none' := (Step.refl _ _).widen (fun _ h => h.elim) (fun _ _ => trivial)
  refine T.seq ?_
  refine T.region ?_ -- region 0
  refine Rg.box allM rfl rfl (fun b0_0 w0_0 p0_0 q0_0 g0_0 s0_0 => ?_)
  replace s0_0 := s0_0.all
  try simp only [Value.cells] at g0_0
  have := S.size
  replace S := S.trans0 s0_0
  refine Rg.assign rfl rfl ?_
  refine Rg.nil ?_
  refine T.seq ?_
  refine T.region ?_ -- region 1
  refine Rg.fieldc Tryz.underlying58 rfl rfl I32 (by decide) rfl rfl ?_
  refine Rg.loadc Tryz.underlying32 rfl rfl rfl (by assumption) rfl ?_
  refine Rg.lensl Tryz.underlying32 rfl (A := RT.int .i64) (hn := by decide) (M := none') (w1 := w0) (xs := []) V_nil rfl ?_
  refine Rg.alloc allM I3 rfl (fun b1_3 w1_3 p1_3 q1_3 g1_3 s1_3 => ?_)
  replace s1_3 := s1_3.all
  change w1_3.heap[b1_3]? = some (.cells #[.int .i64 0] _ _) at g1_3
  have := lt_of_get g0_0
  replace g0_0 := s1_3.same0 g0_0
  have := S.size
  replace S := S.trans0 s1_3
  refine Rg.storec (M := allM) I3 rfl rfl g1_3 rfl (rfl) trivial (fun w1_4 g1_4 s1_4 => ?_)
  try simp only [List.setIfInBounds_toArray, List.set_cons_zero, List.set_cons_succ] at g1_4
  replace g0_0 := s1_4.keep g0_0 (by intro hk; omega)
  have := S.size
  replace S := S.trans s1_4 (fun k hk h => by subst h; first | (exfalso; omega) | exact .inl rfl | exact .inr rfl | exact .inr (.inl rfl) | exact .inr (.inr rfl) | exact rfl)
  have g1_3_ := g1_4
  clear g1_3
  have g1_3 := g1_3_
  clear g1_3_
  refine Rg.nil ?_
  refine T.seq ?_
  refine T.seq ?_
  refine T.region ?_ -- region 2
  refine Rg.fieldc Tryz.underlying58 rfl rfl I32 (by decide) rfl rfl ?_
  refine Rg.loadc Tryz.underlying32 rfl rfl rfl (by assumption) rfl ?_
  refine Rg.lensl Tryz.underlying32 rfl (A := RT.int .i64) (hn := by decide) (M := none') (w1 := w0) (xs := []) V_nil rfl ?_
  refine Rg.loadc Tryz.underlying3 rfl rfl rfl (by assumption) rfl ?_
  refine Rg.ine rfl rfl rfl ?_
  refine Rg.move rfl rfl ?_
  refine Rg.gfalse (g := 16) rfl ((by simp)) ?_
  refine Rg.gyes rfl rfl ?_
  refine Rg.fieldc Tryz.underlying58 rfl rfl I32 (by decide) rfl rfl ?_
  refine Rg.gyes rfl rfl ?_
  refine Rg.loadc Tryz.underlying32 rfl rfl rfl (by assumption) rfl ?_
  refine Rg.gyes rfl rfl ?_
  refine Rg.call rfl rfl E124 (rise_nil _) (fun r wc hc => ?_)
  obtain ⟨rfl, rfl⟩ := hc --@bool true
  refine Rg.gyes rfl rfl ?_
  refine Rg.not rfl rfl ?_
  refine Rg.eqv (v' := .bool false) rfl ?_
  refine Rg.pickf rfl rfl rfl ?_
  refine Rg.nil ?_
  refine T.iff rfl ?_
  refine T.skip ?_
  refine T.seq ?_
  refine T.region ?_ -- region 4
  refine Rg.alloc allM I188 rfl (fun b4_0 w4_0 p4_0 q4_0 g4_0 s4_0 => ?_)
  replace s4_0 := s4_0.all
  change w4_0.heap[b4_0]? = some (.cells #[.slice none 0 0] _ _) at g4_0
  have := lt_of_get g0_0
  replace g0_0 := s4_0.same0 g0_0
  have := lt_of_get g1_3
  replace g1_3 := s4_0.same0 g1_3
  have := S.size
  replace S := S.trans0 s4_0
  refine Rg.nil ?_
  refine T.seq ?_
  refine T.region ?_ -- region 5
  refine Rg.makeFunc (xs := []) rfl rfl rfl ?_
  refine Rg.assign rfl rfl ?_
  refine Rg.nil ?_
  refine T.seq ?_
  refine T.seq ?_
  refine T.region ?_ -- region 6
  refine Rg.fieldc Tryz.underlying58 rfl rfl I56 (by decide) rfl rfl ?_
  refine Rg.loadc Tryz.underlying56 rfl rfl rfl (by assumption) rfl ?_
  refine Rg.move rfl rfl ?_
  refine Rg.call rfl rfl E127 (contains_nil _ _) (fun r wc hc => ?_)
  obtain ⟨rfl, rfl⟩ := hc --@bool false
  refine Rg.nil ?_
  refine T.iff rfl ?_
  refine T.skip ?_
  refine T.seq ?_
  refine T.region ?_ -- region 8
  refine Rg.fieldc Tryz.underlying58 rfl rfl I55 (by decide) rfl rfl ?_
  refine Rg.loadc Tryz.underlying55 rfl rfl rfl (by assumption) rfl ?_
  refine Rg.loadc Tryz.underlying188 rfl rfl rfl (by assumption) rfl ?_
  refine Rg.call rfl rfl E128 (dictmake_nil _) (fun r8 w8 hc => ?_)
  obtain ⟨b8, rfl, s8⟩ := hc --@step s8
  have := lt_of_get g0_0
  replace g0_0 := s8.same0 g0_0
  have := lt_of_get g1_3
  replace g1_3 := s8.same0 g1_3
  have := lt_of_get g4_0
  replace g4_0 := s8.same0 g4_0
  have := S.size
  replace S := S.trans0 s8
  refine Rg.move rfl rfl ?_
  refine Rg.extract rfl rfl rfl ?_
  refine Rg.extract rfl rfl rfl ?_
  refine Rg.assign rfl rfl ?_
  refine Rg.assign rfl rfl ?_
  refine Rg.nil ?_
  refine T.seq ?_
  refine T.seq ?_
  refine T.region ?_ -- region 9
  refine Rg.move rfl rfl ?_
  refine Rg.ine rfl rfl rfl ?_
  refine Rg.nil ?_
  refine T.iffp rfl ((by simp)) ?_
  refine T.skip ?_
  refine T.seq ?_
  apply T.drawP [0, 1, 3, 4, 6, 2, 5, 7, 8, 9] 5 [2, 3, 4] none' mixed -- region 11
  · simp +decide only [ren, renO, List.map_cons, List.map_nil, List.getD_cons_zero, List.getD_cons_succ, List.map_toArray, Option.map_some, Option.map_none, List.idxOf_cons, cond_true, cond_false, Nat.reduceBEq, Nat.reduceAdd, beq_self_eq_true]; rfl
  · rfl
  · rfl
  · rfl
  · rfl
  · rfl
  · rfl
  intro wD11 sA11
  have sD11 := sA11 allM
  have := lt_of_get g0_0
  replace g0_0 := sD11.same0 g0_0
  have := lt_of_get g1_3
  replace g1_3 := sD11.same0 g1_3
  have := lt_of_get g4_0
  replace g4_0 := sD11.same0 g4_0
  have := S.size
  replace S := S.trans0 sD11
  refine Rg.fieldc Tryz.underlying58 rfl rfl I32 (by decide) rfl rfl ?_
  refine Rg.nil ⟨rfl, rfl, rfl, ?_⟩
  refine Rg.loadc Tryz.underlying32 rfl rfl rfl (by first | assumption | exact Step.same0 sD11 (by assumption)) rfl ?_
  refine Rg.nil ⟨rfl, rfl, rfl, ?_⟩
  refine Rg.fieldc Tryz.underlying58 rfl rfl I32 (by decide) rfl rfl ?_
  refine Rg.nil ⟨rfl, rfl, rfl, ?_⟩
  refine Rg.loadc Tryz.underlying32 rfl rfl rfl (by first | assumption | exact Step.same0 sD11 (by assumption)) rfl ?_
  refine Rg.nil ⟨rfl, rfl, rfl, ?_⟩
  refine Rg.move rfl rfl ?_
  refine Rg.nil ⟨rfl, rfl, rfl, ?_⟩
  refine QRg.nil ?_
  refine ⟨Floats.all ⟨FloatOk.field Tryz.underlying58 rfl I32 (by decide), ⟨FloatOk.load rfl (by assumption) (by first | assumption | exact fun h => h), ⟨FloatOk.move, trivial⟩⟩⟩, ?_⟩
  have kp := Keep.refl none' wD11
  refine Rg.call rfl rfl E63 (cloneI_nil _) (fun r11 wc hc => ?_)
  obtain ⟨rfl, rfl⟩ := hc 
  refine (fun (kp : Keep _ _ _) => Rg.nil ⟨rfl, rfl, kp, ?_⟩) (by first | exact kp | exact kp.go0 (by assumption) | exact kp.goN (by assumption) | exact kp.go (by assumption) (fun _ _ h => by first | exact h | exact h.elim))
  refine Rg.call rfl rfl E63 (cloneI_nil _) (fun r12 wc hc => ?_)
  obtain ⟨rfl, rfl⟩ := hc 
  refine (fun (kp : Keep _ _ _) => Rg.nil ⟨rfl, rfl, kp, ?_⟩) (by first | exact kp | exact kp.go0 (by assumption) | exact kp.goN (by assumption) | exact kp.go (by assumption) (fun _ _ h => by first | exact h | exact h.elim))
  refine Rg.build (places := [(0, 1), (1, 1), (2, 1)]) Tryz.underlying125 I125 B125 rfl ⟨_, _, rfl, rfl, _, _, rfl, rfl, _, _, rfl, rfl, rfl⟩ (out := [_, _, _]) ⟨0, [_], rfl, rfl, by simp [Value.cells], 1, [_], rfl, rfl, by simp [Value.cells], 2, [_], rfl, rfl, by simp [Value.cells], rfl⟩ ?_
  refine (fun (kp : Keep _ _ _) => Rg.nil ⟨rfl, rfl, kp, ?_⟩) (by first | exact kp | exact kp.go0 (by assumption) | exact kp.goN (by assumption) | exact kp.go (by assumption) (fun _ _ h => by first | exact h | exact h.elim))
  refine Rg.box allM rfl rfl (fun b11_8 w11_8 p11_8 q11_8 g11_8 s11_8 => ?_)
  replace s11_8 := s11_8.all
  try simp only [Value.cells] at g11_8
  have := lt_of_get g0_0
  replace g0_0 := s11_8.same0 g0_0
  have := lt_of_get g1_3
  replace g1_3 := s11_8.same0 g1_3
  have := lt_of_get g4_0
  replace g4_0 := s11_8.same0 g4_0
  have := S.size
  replace S := S.trans0 s11_8
  refine (fun (kp : Keep _ _ _) => Rg.nil ⟨rfl, rfl, kp, ?_⟩) (by first | exact kp | exact kp.go0 (by assumption) | exact kp.goN (by assumption) | exact kp.go (by assumption) (fun _ _ h => by first | exact h | exact h.elim))
  refine Rg.assign rfl rfl ?_
  refine (fun (kp : Keep _ _ _) => Rg.nil ⟨rfl, rfl, kp, ?_⟩) (by first | exact kp | exact kp.go0 (by assumption) | exact kp.goN (by assumption) | exact kp.go (by assumption) (fun _ _ h => by first | exact h | exact h.elim))
  refine TRg.nil ?_
  refine T.ret ?_
  exact Kret1 rfl rfl ⟨_, rfl, S⟩

/-- 'concordance/segment.Make' -/
theorem make_nil (w0 : World) :
    Spec Tryz.prog 27 #[.agg #[.slice none 0 0, .slice none 0 0, .slice none 0 0, .slice none 0 0]] w0 (fun v w => ∃ b, v = .tuple #[.pointer (some ⟨b, 0, none⟩), .int .i64 0] ∧ Step allM w0 allM w none') := by
  refine spec_of (args := [_]) (fn := Tryz.f27) Tryz.func27 rfl (n := 10) Tryz.ntmps27 ?_
  have S : Step allM w0 allM w0 none' := (Step.refl _ _).widen (fun _ h => h.elim) (fun _ _ => trivial)
  refine T.seq ?_
  refine T.region ?_ -- region 0
  refine Rg.box allM rfl rfl (fun b0_0 w0_0 p0_0 q0_0 g0_0 s0_0 => ?_)
  replace s0_0 := s0_0.all
  try simp only [Value.cells] at g0_0
  have := S.size
  replace S := S.trans0 s0_0
  refine Rg.assign rfl rfl ?_
  refine Rg.assign rfl rfl ?_
  refine Rg.nil ?_
  refine T.seq ?_
  refine T.region ?_ -- region 1
  refine Rg.loadaggc (vs := [.slice none 0 0, .slice none 0 0, .slice none 0 0, .slice none 0 0]) Tryz.underlying58 rfl I58 rfl rfl rfl g0_0 ?_
  refine Rg.call rfl rfl E76 (make1_nil _) (fun r w1 hc => ?_)
  obtain ⟨b1, rfl, s1⟩ := hc --@step s1
  have := lt_of_get g0_0
  replace g0_0 := s1.same0 g0_0
  have := S.size
  replace S := S.trans0 s1
  refine Rg.assign rfl rfl ?_
  refine Rg.nil ?_
  refine T.seq ?_
  refine T.seq ?_
  refine T.region ?_ -- region 2
  refine Rg.move rfl rfl ?_
  refine Rg.ptreqnil Tryz.underlying25 rfl ⟨_, rfl⟩ rfl rfl ?_ --@bool false
  refine Rg.nil ?_
  refine T.iff rfl ?_
  refine T.skip ?_
  refine T.seq ?_
  refine T.region ?_ -- region 4
  refine Rg.move rfl rfl ?_
  refine Rg.assign rfl rfl ?_
  refine Rg.assign rfl rfl ?_
  refine Rg.nil ?_
  refine T.ret ?_
  exact Kret2 rfl rfl rfl ⟨_, rfl, S⟩

/-- 'concordance/segment.Build' -/
theorem build_nil (w0 : World) :
    Spec Tryz.prog 15 #[.slice none 0 0] w0 (fun v w => ∃ b, v = .tuple #[.pointer (some ⟨b, 0, none⟩), .int .i64 0] ∧ Step allM w0 allM w none') := by
  refine spec_of (args := [_]) (fn := Tryz.f15) Tryz.func15 rfl (n := 63) Tryz.ntmps15 ?_
  have S : Step allM w0 allM w0 none' := (Step.refl _ _).widen (fun _ h => h.elim) (fun _ _ => trivial)
  refine T.seq ?_
  refine T.region ?_ -- region 0
  refine Rg.assign rfl rfl ?_
  refine Rg.assign rfl rfl ?_
  refine Rg.nil ?_
  refine T.seq ?_
  refine T.region ?_ -- region 1
  refine Rg.call rfl rfl E56 (bufnew_spec _) (fun r w1 hc => ?_)
  obtain ⟨b1, rfl, hb1, s1, p1⟩ := hc --@step s1
  --@fact2 hb1 ;; hb1.step0 @s ;; hb1.step @s
  have := S.size
  replace S := S.trans0 s1
  refine Rg.assign rfl rfl ?_
  refine Rg.nil ?_
  refine T.seq ?_
  refine T.region ?_ -- region 2
  refine Rg.alloc allM I58 rfl (fun b2_0 w2_0 p2_0 q2_0 g2_0 s2_0 => ?_)
  replace s2_0 := s2_0.all
  change w2_0.heap[b2_0]? = some (.cells #[.slice none 0 0, .slice none 0 0, .slice none 0 0, .slice none 0 0] _ _) at g2_0
  replace hb1 := hb1.step0 s2_0
  have := S.size
  replace S := S.trans0 s2_0
  refine Rg.nil ?_
  refine T.seq ?_
  refine T.seq ?_
  refine T.region ?_ -- region 3
  refine Rg.move rfl rfl ?_
  refine Rg.lensl Tryz.underlying37 rfl (A := RT.int .i64) (hn := by decide) (M := none') (w1 := w0) (xs := []) V_nil rfl ?_
  refine Rg.move rfl rfl ?_
  refine Rg.nil ?_
  refine T.block ?_
  refine T.loop (σ := Unit) (fun _ => [(4, .pointer (some ⟨b1, 0, none⟩)), (5, .pointer (some ⟨b2_0, 0, none⟩)), (12, .slice none 0 0), (13, .int .i64 0), (14, .int .i64 0)]) (fun _ w => w = w2_0) (fun _ => 0) () (.cons rfl (.cons rfl (.cons rfl (.cons rfl (.cons rfl .nil))))) ?_ ?_ -- loop 0
  · rfl
  · rintro _ w rfl
    refine T.seq ?_
    refine T.region ?_ -- region 4
    refine Rg.ilt rfl rfl rfl ?_
    refine Rg.nil ?_
    refine T.seq ?_
    refine T.iffp rfl ((by decide)) ?_
    refine T.exit ?_
    refine T.seq ?_
    refine T.region ?_ -- region 11
    refine Rg.move rfl rfl ?_
    refine Rg.call rfl rfl E58 (bufkeys_spec _ _ hb1) (fun r w11 hc => ?_)
    obtain ⟨rfl, s11⟩ := hc --@step s11
    --@drop hb1
    have := lt_of_get g2_0
    replace g2_0 := s11.same0 g2_0
    replace hb1 := hb1.step0 s11
    have := S.size
    replace S := S.trans0 s11
    refine Rg.fieldc Tryz.underlying58 rfl rfl I55 (by decide) rfl rfl ?_
    refine Rg.storec (M := allM) I55 rfl rfl g2_0 rfl (rfl) trivial (fun w11_3 g11_3 s11_3 => ?_)
    try simp only [List.setIfInBounds_toArray, List.set_cons_zero, List.set_cons_succ] at g11_3
    have := S.size
    replace S := S.trans s11_3 (fun k hk h => by subst h; first | (exfalso; omega) | exact .inl rfl | exact .inr rfl | exact .inr (.inl rfl) | exact .inr (.inr rfl) | exact rfl)
    have g2_0_ := g11_3
    clear g2_0
    have g2_0 := g2_0_
    clear g2_0_
    refine Rg.nil ?_
    refine T.seq ?_
    refine T.seq ?_
    refine T.region ?_ -- region 12
    refine Rg.fieldc Tryz.underlying58 rfl rfl I55 (by decide) rfl rfl ?_
    refine Rg.loadc Tryz.underlying55 rfl rfl rfl (by assumption) rfl ?_
    refine Rg.lensl Tryz.underlying55 rfl (A := RT.str) (hn := by decide) (M := none') (w1 := w0) (xs := []) V_nil rfl ?_
    refine Rg.move rfl rfl ?_
    refine Rg.nil ?_
    refine T.block ?_
    refine T.loop (σ := Unit) (fun _ => [(4, .pointer (some ⟨b1, 0, none⟩)), (5, .pointer (some ⟨b2_0, 0, none⟩)), (44, .slice none 0 0), (45, .int .i64 0), (46, .int .i64 0)]) (fun _ w => w = w11_3) (fun _ => 0) () (.cons rfl (.cons rfl (.cons rfl (.cons rfl (.cons rfl .nil))))) ?_ ?_ -- loop 1
    · rfl
    · rintro _ w rfl
      refine T.seq ?_
      refine T.region ?_ -- region 13
      refine Rg.ilt rfl rfl rfl ?_
      refine Rg.nil ?_
      refine T.seq ?_
      refine T.iffp rfl ((by decide)) ?_
      refine T.exit ?_
      refine T.seq ?_
      refine T.region ?_ -- region 17
      refine Rg.loadaggc (vs := [.slice none 0 0, .slice none 0 0, .slice none 0 0, .slice none 0 0]) Tryz.underlying58 rfl I58 rfl rfl rfl g2_0 ?_
      refine Rg.call rfl rfl E27 (make_nil _) (fun r w17 hc => ?_)
      obtain ⟨b17, rfl, s17⟩ := hc --@step s17
      have := lt_of_get g2_0
      replace g2_0 := s17.same0 g2_0
      have := S.size
      replace S := S.trans0 s17
      refine Rg.extract rfl rfl rfl ?_
      refine Rg.extract rfl rfl rfl ?_
      refine Rg.assign rfl rfl ?_
      refine Rg.assign rfl rfl ?_
      refine Rg.nil ?_
      refine T.ret ?_
      exact Kret2 rfl rfl rfl ⟨_, rfl, S⟩

end Go.K

/- The walks of Go functions, operation by operation. -/
import Derived.Test.YtohfoenhmkfjkaaGreatDoorKSort16
import Derived.Test.YtohfoenhmkfjkaaGreatDoorKWide
import Derived.Test.YtohfoenhmkfjkaaGreatDoorKTypes
import Derived.Test.YtohfoenhmkfjkaaGreatDoorProg
import Derived.KernelRfl
namespace Go.K
open Go.Proofs
namespace TKEmpty16
theorem I167 : TI Tryz.prog 167 (.map none) 1 8 := by unfold TI; kernel_rfl -- map[string][]api.Posting
theorem I169 : TI Tryz.prog 169 (.agg #[(.slice none 0 0), (.map none), (.int .i64 0), (.int .i64 0)]) 4 48 := by unfold TI; kernel_rfl -- buffer.Buffer
theorem I190 : TI Tryz.prog 190 (.agg #[(.slice none 0 0), (.slice none 0 0)]) 2 48 := by unfold TI; kernel_rfl -- dict.Dict[*concordance/posting.List]
theorem B169 : placesOf Tryz.prog 169 = [(0, 1), (1, 1), (2, 1), (3, 1)].map some := by kernel_rfl
theorem B190 : placesOf Tryz.prog 190 = [(0, 1), (1, 1)].map some := by kernel_rfl
theorem E111 : Enters Tryz.prog 111 := enters Tryz.func111 rfl (by decide) -- slices.Sorted[string]
theorem E112 : Enters Tryz.prog 112 := enters Tryz.func112 rfl (by decide) -- maps.Keys[map[string][]concordance/api.Posting,string,[]concordance/api.Posting]
theorem E175 : Enters Tryz.prog 175 := enters Tryz.func175 rfl (by decide) -- slices.IndexFunc[[][]concordance/api.Posting,[]concordance/api.Posting]
theorem E176 : Enters Tryz.prog 176 := enters Tryz.func176 rfl (by decide) -- concordance/dict.rises
theorem E177 : Enters Tryz.prog 177 := enters Tryz.func177 rfl (by decide) -- slices.Clone[[]string,string]
theorem E178 : Enters Tryz.prog 178 := enters Tryz.func178 rfl (by decide) -- slices.Clone[[]*concordance/posting.List,*concordance/posting.List]
end TKEmpty16
open TKEmpty16
set_option linter.unusedVariables false
set_option linter.unusedSimpArgs false
set_option maxRecDepth 10000

/-- 'slices.Clone[[]int,int]' -/
theorem cloneI_nil (w0 : World) :
    Spec Tryz.prog 63 #[.slice none 0 0] w0 (fun v w => v = .slice none 0 0 ∧ w = w0) := by
  refine spec_of (args := [_]) (fn := Tryz.f63) Tryz.func63 rfl (n := 8) Tryz.ntmps63 ?_
  refine T.seq ?_
  refine T.region ?_ -- region 0
  refine Rg.assign rfl rfl ?_
  refine Rg.nil ?_
  refine T.seq ?_
  refine T.seq ?_
  refine T.region ?_ -- region 1
  refine Rg.move rfl rfl ?_
  refine Rg.sleqnil Tryz.underlying32 rfl rfl rfl ?_
  refine Rg.nil ?_
  refine T.iftp rfl (rfl) ?_
  refine T.seq ?_
  refine T.region ?_ -- region 2
  refine Rg.assign rfl rfl ?_
  refine Rg.nil ?_
  refine T.ret ?_
  exact Kret1 rfl rfl ⟨rfl, rfl⟩

/-- 'slices.Clone[[]string,string]' -/
theorem cloneS_nil (w0 : World) :
    Spec Tryz.prog 177 #[.slice none 0 0] w0 (fun v w => v = .slice none 0 0 ∧ w = w0) := by
  refine spec_of (args := [_]) (fn := Tryz.f177) Tryz.func177 rfl (n := 8) Tryz.ntmps177 ?_
  refine T.seq ?_
  refine T.region ?_ -- region 0
  refine Rg.assign rfl rfl ?_
  refine Rg.nil ?_
  refine T.seq ?_
  refine T.seq ?_
  refine T.region ?_ -- region 1
  refine Rg.move rfl rfl ?_
  refine Rg.sleqnil Tryz.underlying55 rfl rfl rfl ?_
  refine Rg.nil ?_
  refine T.iftp rfl (rfl) ?_
  refine T.seq ?_
  refine T.region ?_ -- region 2
  refine Rg.assign rfl rfl ?_
  refine Rg.nil ?_
  refine T.ret ?_
  exact Kret1 rfl rfl ⟨rfl, rfl⟩

/-- 'slices.Clone[[]*concordance/posting.List,*concordance/posting.List]' -/
theorem cloneL_nil (w0 : World) :
    Spec Tryz.prog 178 #[.slice none 0 0] w0 (fun v w => v = .slice none 0 0 ∧ w = w0) := by
  refine spec_of (args := [_]) (fn := Tryz.f178) Tryz.func178 rfl (n := 8) Tryz.ntmps178 ?_
  refine T.seq ?_
  refine T.region ?_ -- region 0
  refine Rg.assign rfl rfl ?_
  refine Rg.nil ?_
  refine T.seq ?_
  refine T.seq ?_
  refine T.region ?_ -- region 1
  refine Rg.move rfl rfl ?_
  refine Rg.sleqnil Tryz.underlying188 rfl rfl rfl ?_
  refine Rg.nil ?_
  refine T.iftp rfl (rfl) ?_
  refine T.seq ?_
  refine T.region ?_ -- region 2
  refine Rg.assign rfl rfl ?_
  refine Rg.nil ?_
  refine T.ret ?_
  exact Kret1 rfl rfl ⟨rfl, rfl⟩

/-- 'concordance/segment.rise' -/
theorem rise_nil (w0 : World) :
    Spec Tryz.prog 124 #[.slice none 0 0] w0 (fun v w => v = .bool true ∧ w = w0) := by
  refine spec_of (args := [_]) (fn := Tryz.f124) Tryz.func124 rfl (n := 28) Tryz.ntmps124 ?_
  refine T.seq ?_
  refine T.region ?_ -- region 0
  refine Rg.assign rfl rfl ?_
  refine Rg.nil ?_
  refine T.seq ?_
  refine T.seq ?_
  refine T.region ?_ -- region 1
  refine Rg.move rfl rfl ?_
  refine Rg.lensl Tryz.underlying32 rfl (A := RT.int .i64) (hn := by decide) (M := none') (w1 := w0) (xs := []) V_nil rfl ?_
  refine Rg.move rfl rfl ?_
  refine Rg.nil ?_
  refine T.block ?_
  refine T.loop (σ := Unit) (fun _ => [(5, .slice none 0 0), (6, .int .i64 0), (7, .int .i64 0)]) (fun _ w => w = w0) (fun _ => 0) () (.cons rfl (.cons rfl (.cons rfl .nil))) ?_ ?_ -- loop 0
  · rfl
  · rintro _ w rfl
    refine T.seq ?_
    refine T.region ?_ -- region 2
    refine Rg.ilt rfl rfl rfl ?_
    refine Rg.nil ?_
    refine T.seq ?_
    refine T.iffp rfl ((by decide)) ?_
    refine T.exit ?_
    refine T.seq ?_
    refine T.region ?_ -- region 7
    refine Rg.assign rfl rfl ?_
    refine Rg.nil ?_
    refine T.ret ?_
    exact Kret1 rfl rfl ⟨rfl, rfl⟩

/-- 'concordance/dict.rises' -/
theorem rises_nil (w0 : World) :
    Spec Tryz.prog 176 #[.slice none 0 0] w0 (fun v w => v = .bool true ∧ w = w0) := by
  refine spec_of (args := [_]) (fn := Tryz.f176) Tryz.func176 rfl (n := 24) Tryz.ntmps176 ?_
  refine T.seq ?_
  refine T.region ?_ -- region 0
  refine Rg.assign rfl rfl ?_
  refine Rg.nil ?_
  refine T.seq ?_
  refine T.seq ?_
  refine T.region ?_ -- region 1
  refine Rg.move rfl rfl ?_
  refine Rg.lensl Tryz.underlying55 rfl (A := RT.str) (hn := by decide) (M := none') (w1 := w0) (xs := []) V_nil rfl ?_
  refine Rg.move rfl rfl ?_
  refine Rg.nil ?_
  refine T.block ?_
  refine T.loop (σ := Unit) (fun _ => [(5, .slice none 0 0), (6, .int .i64 0), (7, .int .i64 0)]) (fun _ w => w = w0) (fun _ => 0) () (.cons rfl (.cons rfl (.cons rfl .nil))) ?_ ?_ -- loop 0
  · rfl
  · rintro _ w rfl
    refine T.seq ?_
    refine T.region ?_ -- region 2
    refine Rg.ilt rfl rfl rfl ?_
    refine Rg.nil ?_
    refine T.seq ?_
    refine T.iffp rfl ((by decide)) ?_
    refine T.exit ?_
    refine T.seq ?_
    refine T.region ?_ -- region 7
    refine Rg.assign rfl rfl ?_
    refine Rg.nil ?_
    refine T.ret ?_
    exact Kret1 rfl rfl ⟨rfl, rfl⟩

/-- 'slices.IndexFunc[[][]concordance/api.Posting,[]concordance/api.Posting]' -/
theorem index_nil (g : Value) (w0 : World) :
    Spec Tryz.prog 175 #[.slice none 0 0, g] w0 (fun v w => v = .int .i64 (-1) ∧ w = w0) := by
  refine spec_of (args := [_, _]) (fn := Tryz.f175) Tryz.func175 rfl (n := 19) Tryz.ntmps175 ?_
  refine T.seq ?_
  refine T.region ?_ -- region 0
  refine Rg.assign rfl rfl ?_
  refine Rg.nil ?_
  refine T.seq ?_
  refine T.seq ?_
  refine T.region ?_ -- region 1
  refine Rg.move rfl rfl ?_
  refine Rg.lensl Tryz.underlying56 rfl (A := (RT.po).sl) (hn := by decide) (M := none') (w1 := w0) (xs := []) V_nil rfl ?_
  refine Rg.move rfl rfl ?_
  refine Rg.nil ?_
  refine T.block ?_
  refine T.loop (σ := Unit) (fun _ => [(6, .slice none 0 0), (7, .int .i64 0), (8, .int .i64 0)]) (fun _ w => w = w0) (fun _ => 0) () (.cons rfl (.cons rfl (.cons rfl .nil))) ?_ ?_ -- loop 0
  · rfl
  · rintro _ w rfl
    refine T.seq ?_
    refine T.region ?_ -- region 2
    refine Rg.ilt rfl rfl rfl ?_
    refine Rg.nil ?_
    refine T.seq ?_
    refine T.iffp rfl ((by decide)) ?_
    refine T.exit ?_
    refine T.seq ?_
    refine T.region ?_ -- region 7
    refine Rg.assign rfl rfl ?_
    refine Rg.nil ?_
    refine T.ret ?_
    exact Kret1 rfl rfl ⟨rfl, rfl⟩

/-- 'slices.ContainsFunc[[][]concordance/api.Posting,[]concordance/api.Posting]' -/
theorem contains_nil (g : Value) (w0 : World) :
    Spec Tryz.prog 127 #[.slice none 0 0, g] w0 (fun v w => v = .bool false ∧ w = w0) := by
  refine spec_of (args := [_, _]) (fn := Tryz.f127) Tryz.func127 rfl (n := 9) Tryz.ntmps127 ?_
  refine T.seq ?_
  refine T.region ?_ -- region 0
  refine Rg.assign rfl rfl ?_
  refine Rg.nil ?_
  refine T.seq ?_
  refine T.region ?_ -- region 1
  refine Rg.move rfl rfl ?_
  refine Rg.move rfl rfl ?_
  refine Rg.call rfl rfl E175 (index_nil _ _) (fun r wc hc => ?_)
  obtain ⟨rfl, rfl⟩ := hc 
  refine Rg.ige rfl rfl rfl ?_
  refine Rg.assign rfl rfl ?_
  refine Rg.nil ?_
  refine T.ret ?_
  exact Kret1 rfl rfl ⟨by simp, rfl⟩

def Buf0 (w : World) (b : Nat) : Prop := ∃ mb, w.heap[b]? = some (.cells #[.slice none 0 0, .map (some mb), .int .i64 0, .int .i64 (-1)] 169 (0, 0)) ∧ MapO Tryz.prog 9 ptrR allM w mb []
theorem Buf0.step0 {w w' : World} {b : Nat} (h : Buf0 w b) (s : Step allM w allM w' none') : Buf0 w' b := by
  obtain ⟨mb, h1, h2⟩ := h
  exact ⟨mb, s.same0 h1, h2.step0 s⟩
/-- 'concordance/buffer.New' -/
theorem bufnew_spec (w0 : World) :
    Spec Tryz.prog 56 #[] w0 (fun v w => ∃ b, v = .pointer (some ⟨b, 0, none⟩) ∧ Buf0 w b ∧ Step allM w0 allM w none' ∧ w0.heap.size ≤ b) := by
  refine spec_of (args := []) (fn := Tryz.f56) Tryz.func56 rfl (n := 4) Tryz.ntmps56 ?_
  have S : Step allM w0 allM w0 none' := (Step.refl _ _).widen (fun _ h => h.elim) (fun _ _ => trivial)
  refine T.seq ?_
  refine T.region ?_ -- region 0
  refine Rg.assign rfl rfl ?_
  refine Rg.nil ?_
  refine T.seq ?_
  refine T.region ?_ -- region 1
  refine Rg.makeMap allM Tryz.underlying167 rfl ptrR (fun mb w1 p1 q1 hm s1 => ?_)
  replace s1 := s1.all
  replace hm := hm.all --@step s1
  --@fact2 hm ;; hm.step0 @s ;; hm.step @s (by show ¬ (_ = _); omega)
  have := S.size
  replace S := S.trans0 s1
  refine Rg.build (places := [(0, 1), (1, 1), (2, 1), (3, 1)]) Tryz.underlying169 I169 B169 rfl ⟨_, _, rfl, rfl, _, _, rfl, rfl, rfl⟩ (out := [.slice none 0 0, _, .int .i64 0, _]) ⟨1, [_], rfl, rfl, by simp [Value.cells], 3, [_], rfl, rfl, by simp [Value.cells], rfl⟩ ?_
  refine Rg.box allM rfl rfl (fun b1_2 w1_2 p1_2 q1_2 g1_2 s1_2 => ?_)
  replace s1_2 := s1_2.all
  change w1_2.heap[b1_2]? = some (.cells #[.slice none 0 0, .map (some mb), .int .i64 0, .int .i64 (-1)] _ _) at g1_2
  replace hm := hm.step0 s1_2
  have := S.size
  replace S := S.trans0 s1_2
  refine Rg.assign rfl rfl ?_
  refine Rg.nil ?_
  refine T.ret ?_
  exact Kret1 rfl rfl ⟨_, rfl, ⟨mb, g1_2, hm⟩, S, by omega⟩

/-- '(*concordance/buffer.Buffer).Keys' -/
theorem bufkeys_spec (b : Nat) (w0 : World) (hb : Buf0 w0 b) :
    Spec Tryz.prog 58 #[.pointer (some ⟨b, 0, none⟩)] w0 (fun v w => v = .slice none 0 0 ∧ Step allM w0 allM w none') := by
  obtain ⟨mb, g0, hm⟩ := hb
  refine spec_of (args := [_]) (fn := Tryz.f58) Tryz.func58 rfl (n := 9) Tryz.ntmps58 ?_
  have S : Step allM w0 allM w0 none' := (Step.refl _ _).widen (fun _ h => h.elim) (fun _ _ => trivial)
  refine T.seq ?_
  refine T.region ?_ -- region 0
  refine Rg.assign rfl rfl ?_
  refine Rg.nil ?_
  refine T.seq ?_
  refine T.region ?_ -- region 1
  refine Rg.move rfl rfl ?_
  refine Rg.nilCheck rfl ⟨_, rfl⟩ rfl ?_
  refine Rg.fieldc Tryz.underlying169 rfl rfl I167 (by decide) rfl rfl ?_
  refine Rg.loadc Tryz.underlying167 rfl rfl rfl (by assumption) rfl ?_
  refine Rg.call rfl rfl E112 (keysS_spec _ _) (fun r w1 hc => ?_)
  obtain ⟨rfl, hw1⟩ := hc 
  have s1 : Step allM w0 allM w1 none' := by rw [hw1]; exact step_alloc _ w0 _
  have hbb := cell_of_alloc hw1 --@step s1
  have := lt_of_get g0
  replace g0 := s1.same0 g0
  replace hm := hm.step0 s1
  have := S.size
  replace S := S.trans0 s1
  refine Rg.call rfl rfl E111 (sortedS_spec hm hbb (by decide)) (fun r2 w2 hc => ?_)
  obtain ⟨⟨ss, hss, _, hnil⟩, s2⟩ := hc 
  obtain rfl : r2 = .slice none 0 0 := hnil.2 (by have := hss.length_eq; simpa [strKeys] using this)
  replace s2 := s2.all --@step s2
  have := lt_of_get g0
  replace g0 := s2.same0 g0
  replace hm := hm.step0 s2
  have := S.size
  replace S := S.trans0 s2
  refine Rg.assign rfl rfl ?_
  refine Rg.nil ?_
  refine T.ret ?_
  exact Kret1 rfl rfl ⟨rfl, S⟩

/-- 'concordance/dict.Make[*concordance/posting.List]' -/
theorem dictmake_nil (w0 : World) :
    Spec Tryz.prog 128 #[.slice none 0 0, .slice none 0 0] w0 (fun v w => ∃ b, v = .tuple #[.pointer (some ⟨b, 0, none⟩), .int .i64 0] ∧ Step allM w0 allM w none') := by
  refine spec_of (args := [_, _]) (fn := Tryz.f128) Tryz.func128 rfl (n := 22) Tryz.ntmps128 ?_
  have S : Step allM w0 allM w0 none' := (Step.refl _ _).widen (fun _ h => h.elim) (fun _ _ => trivial)
  refine T.seq ?_
  refine T.region ?_ -- region 0
  refine Rg.assign rfl rfl ?_
  refine Rg.assign rfl rfl ?_
  refine Rg.nil ?_
  refine T.seq ?_
  refine T.seq ?_
  refine T.region ?_ -- region 1
  refine Rg.move rfl rfl ?_
  refine Rg.lensl Tryz.underlying55 rfl (A := RT.str) (hn := by decide) (M := none') (w1 := w0) (xs := []) V_nil rfl ?_
  refine Rg.move rfl rfl ?_
  refine Rg.lensl Tryz.underlying188 rfl (A := RT.str) (hn := by decide) (M := none') (w1 := w0) (xs := []) V_nil rfl ?_
  refine Rg.ine rfl rfl rfl ?_
  refine Rg.move rfl rfl ?_
  refine Rg.gfalse (g := 11) rfl ((by decide)) ?_
  refine Rg.gyes rfl rfl ?_
  refine Rg.move rfl rfl ?_
  refine Rg.gyes rfl rfl ?_
  refine Rg.call rfl rfl E176 (rises_nil _) (fun r wc hc => ?_)
  obtain ⟨rfl, rfl⟩ := hc --@bool true
  refine Rg.gyes rfl rfl ?_
  refine Rg.not rfl rfl ?_
  refine Rg.eqv (v' := .bool false) rfl ?_
  refine Rg.pickf rfl rfl rfl ?_
  refine Rg.nil ?_
  refine T.iff rfl ?_
  refine T.skip ?_
  refine T.seq ?_
  refine T.region ?_ -- region 3
  refine Rg.move rfl rfl ?_
  refine Rg.call rfl rfl E177 (cloneS_nil _) (fun r wc hc => ?_)
  obtain ⟨rfl, rfl⟩ := hc 
  refine Rg.move rfl rfl ?_
  refine Rg.call rfl rfl E178 (cloneL_nil _) (fun r wc hc => ?_)
  obtain ⟨rfl, rfl⟩ := hc 
  refine Rg.build (places := [(0, 1), (1, 1)]) Tryz.underlying190 I190 B190 rfl ⟨_, _, rfl, rfl, _, _, rfl, rfl, rfl⟩ (out := [_, _]) ⟨0, [_], rfl, rfl, by simp [Value.cells], 1, [_], rfl, rfl, by simp [Value.cells], rfl⟩ ?_
  refine Rg.box allM rfl rfl (fun b3_5 w3_5 p3_5 q3_5 g3_5 s3_5 => ?_)
  replace s3_5 := s3_5.all
  change w3_5.heap[b3_5]? = some (.cells #[.slice none 0 0, .slice none 0 0] _ _) at g3_5
  have := S.size
  replace S := S.trans0 s3_5
  refine Rg.assign rfl rfl ?_
  refine Rg.assign rfl rfl ?_
  refine Rg.nil ?_
  refine T.ret ?_
  exact Kret2 rfl rfl rfl ⟨_, rfl, S⟩

end Go.K

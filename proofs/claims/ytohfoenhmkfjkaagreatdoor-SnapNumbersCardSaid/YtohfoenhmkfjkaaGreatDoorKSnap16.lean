/- The walks of Go functions, operation by operation. -/
import Derived.Test.YtohfoenhmkfjkaaGreatDoorKBuild16
import Derived.Test.YtohfoenhmkfjkaaGreatDoorKTypes
import Derived.Test.YtohfoenhmkfjkaaGreatDoorProg
import Derived.KernelRfl
namespace Go.K
open Go.Proofs
namespace TKSnap16
theorem I3 : TI Tryz.prog 3 (.int .i64 0) 1 8 := by unfold TI; kernel_rfl -- int
theorem I32 : TI Tryz.prog 32 (.slice none 0 0) 1 24 := by unfold TI; kernel_rfl -- []int
theorem I100 : TI Tryz.prog 100 (.map none) 1 8 := by unfold TI; kernel_rfl -- map[int]*snap.held
theorem I102 : TI Tryz.prog 102 (.agg #[(.map none), (.int .i64 0), (.slice none 0 0)]) 3 40 := by unfold TI; kernel_rfl -- snap.Store
theorem I109 : TI Tryz.prog 109 (.pointer none) 1 8 := by unfold TI; kernel_rfl -- *snap.held
theorem I111 : TI Tryz.prog 111 (.agg #[(.int .i64 0)]) 1 8 := by unfold TI; kernel_rfl -- snap.holds
theorem I113 : TI Tryz.prog 113 (.agg #[(.int .i64 0), (.pointer none)]) 2 16 := by unfold TI; kernel_rfl -- snap.held
theorem B102 : placesOf Tryz.prog 102 = [(0, 1), (1, 1), (2, 1)].map some := by kernel_rfl
theorem B111 : placesOf Tryz.prog 111 = [(0, 1)].map some := by kernel_rfl
theorem B113 : placesOf Tryz.prog 113 = [(0, 1), (1, 1)].map some := by kernel_rfl
theorem E60 : Enters Tryz.prog 60 := enters Tryz.func60 rfl (by decide) -- (*concordance/snap.holds).less
theorem E61 : Enters Tryz.prog 61 := enters Tryz.func61 rfl (by decide) -- slices.Sorted[int]
theorem E62 : Enters Tryz.prog 62 := enters Tryz.func62 rfl (by decide) -- maps.Keys[map[int]*concordance/snap.held,int,*concordance/snap.held]
theorem E63 : Enters Tryz.prog 63 := enters Tryz.func63 rfl (by decide) -- slices.Clone[[]int,int]
theorem E115 : Enters Tryz.prog 115 := enters Tryz.func115 rfl (by decide) -- (*concordance/snap.holds).more
end TKSnap16
open TKSnap16
set_option linter.unusedVariables false
set_option linter.unusedSimpArgs false
set_option maxRecDepth 10000

open Go.Maps (int_keyed keyOf_int_mk)
theorem wf64 {x : Int} (h : -9223372036854775808 ≤ x ∧ x ≤ 9223372036854775807) : (Lit.int .i64 x).wf = true := by
  simp only [Lit.wf, Bool.and_eq_true, decide_eq_true_eq]
  exact h
theorem Own.neT {α : Type} {A : RT α} {e t : TypeId} {M : PSet} {w : World} {base b : Nat} {v : Value} {xs : List α} {cs : Array Value} {fr : Nat × Nat} (h : Own A e M w base v xs) (hb : w.heap[b]? = some (.cells cs t fr)) (ht : t ≠ e) : v.ownBlock ≠ some b := fun hv => by
  obtain ⟨⟨C, h1, _⟩, _⟩ := h
  rcases h1.2 with ⟨h2, _⟩ | ⟨g, cap, cur, h2, _, h3, _⟩
  · rw [h2] at hv; cases hv
  · rw [h2] at hv; cases hv; rw [h3] at hb; cases hb; exact ht rfl
theorem MapO.not_own {P : Program} {k e : TypeId} {R : Value → Option (DU × List MemPlace)} {α : Type} {A : RT α} {M M' : PSet} {w : World} {b base : Nat} {m : List (Lit × DU)} {v : Value} {xs : List α} (h : MapO P k R M w b m) (ho : Own A e M' w base v xs) : v.ownBlock ≠ some b := fun hv => by
  obtain ⟨⟨C, h1, _⟩, _⟩ := ho
  rcases h1.2 with ⟨h2, _⟩ | ⟨g, cap, cur, h2, _, h3, _⟩
  · rw [h2] at hv; cases hv
  · rw [h2] at hv; cases hv; exact h.ne h3 rfl
def HeldAt (w : World) (hb : Nat) (c : Int) (x : Value) : Prop := w.heap[hb]? = some (.cells #[.int .i64 c, x] 113 (0, 0))
/-- what a store holds, but for its own block: its map, the row of freed ones, those that are held -/
structure Rest (w : World) (B : Nat) (mb : Nat) (u : Value) (ml : List (Int × Nat)) (fr : List Int) : Prop where
  m : MapO Tryz.prog 3 ptrR allM w mb (ml.map encE)
  o : Own (RT.int .i64) 3 allM w B u fr
  h : ∀ p ∈ ml, ∃ c x, HeldAt w p.2 c x
theorem Rest.step {w w' : World} {B mb : Nat} {u : Value} {ml : List (Int × Nat)} {fr : List Int} {N : PSet} (h : Rest w B mb u ml fr) (s : Step allM w allM w' N) (hN : ∀ b, N b → ∃ cs t, t ≠ 3 ∧ t ≠ 113 ∧ w.heap[b]? = some (.cells cs t (0, 0))) : Rest w' B mb u ml fr :=
  ⟨h.m.step s fun hn => by obtain ⟨cs, t, h1, h2, h3⟩ := hN _ hn; exact h.m.ne h3 rfl, h.o.keepi s fun b hb hn => by obtain ⟨cs, t, h1, h2, h3⟩ := hN _ hn; exact h.o.neT h3 h1 hb,
   fun p hp => by
    obtain ⟨c, x, hx⟩ := h.h p hp
    exact ⟨c, x, s.keep hx fun hn => by obtain ⟨cs, t, h1, h2, h3⟩ := hN _ hn; rw [hx] at h3; cases h3; exact h2 rfl⟩⟩
theorem Rest.step0 {w w' : World} {B mb : Nat} {u : Value} {ml : List (Int × Nat)} {fr : List Int} (h : Rest w B mb u ml fr) (s : Step allM w allM w' none') : Rest w' B mb u ml fr := h.step s fun _ h => h.elim
/-- one that is held is counted anew -/
theorem Rest.count {w w' : World} {B mb hb : Nat} {u : Value} {ml : List (Int × Nat)} {fr : List Int} {c c' : Int} {x x' : Value} (h : Rest w B mb u ml fr) (s : Step allM w allM w' (fun k => k = hb)) (h0 : HeldAt w hb c x) (h1 : HeldAt w' hb c' x') : Rest w' B mb u ml fr :=
  ⟨h.m.step s fun hn => h.m.ne h0 hn, h.o.keepi s fun b hbb hn => by subst hn; exact h.o.neT h0 (by decide) hbb,
   fun p hp => by
    obtain ⟨c2, x2, hx⟩ := h.h p hp
    by_cases e : p.2 = hb
    · rw [e]; exact ⟨_, _, h1⟩
    · exact ⟨c2, x2, s.keep hx e⟩⟩
structure St (w : World) (B : Nat) (sb mb : Nat) (u : Value) (n : Int) (ml : List (Int × Nat)) (fr : List Int) : Prop where
  s : w.heap[sb]? = some (.cells #[.map (some mb), .int .i64 n, u] 102 (0, 0))
  r : Rest w B mb u ml fr
  d : DisK ml
  b : ∀ p ∈ ml, 1 ≤ p.1 ∧ p.1 ≤ n
  z : 0 ≤ n ∧ n ≤ 1000000
  k : (ml.length : Int) + fr.length = n
  bs : B ≤ sb ∧ B ≤ mb ∧ ∀ p ∈ ml, B ≤ p.2
theorem St.step0 {w w' : World} {B sb mb : Nat} {u : Value} {n : Int} {ml : List (Int × Nat)} {fr : List Int} (h : St w B sb mb u n ml fr) (s : Step allM w allM w' none') : St w' B sb mb u n ml fr := ⟨s.same0 h.s, h.r.step0 s, h.d, h.b, h.z, h.k, h.bs⟩
/-- 'concordance/snap.New' -/
theorem new_spec (w0 : World) :
    Spec Tryz.prog 14 #[] w0 (fun v w => ∃ sb mb, v = .pointer (some ⟨sb, 0, none⟩) ∧ St w w0.heap.size sb mb (.slice none 0 0) 0 [] [] ∧ Step allM w0 allM w none') := by
  refine spec_of (args := []) (fn := Tryz.f14) Tryz.func14 rfl (n := 4) Tryz.ntmps14 ?_
  have S : Step allM w0 allM w0 none' := (Step.refl _ _).widen (fun _ h => h.elim) (fun _ _ => trivial)
  refine T.seq ?_
  refine T.region ?_ -- region 0
  refine Rg.assign rfl rfl ?_
  refine Rg.nil ?_
  refine T.seq ?_
  refine T.region ?_ -- region 1
  refine Rg.makeMap allM Tryz.underlying100 rfl ptrR (fun mb w1 p1 q1 hm s1 => ?_)
  replace s1 := s1.all
  replace hm := hm.all --@step s1
  --@fact2 hm ;; hm.step0 @s ;; hm.step @s (by show ¬ (_ = _); omega)
  have := S.size
  replace S := S.trans0 s1
  refine Rg.build (places := [(0, 1), (1, 1), (2, 1)]) Tryz.underlying102 I102 B102 rfl ⟨_, _, rfl, rfl, rfl⟩ (out := [_, .int .i64 0, .slice none 0 0]) ⟨0, [_], rfl, rfl, by simp [Value.cells], rfl⟩ ?_
  refine Rg.box allM rfl rfl (fun b1_2 w1_2 p1_2 q1_2 g1_2 s1_2 => ?_)
  replace s1_2 := s1_2.all
  change w1_2.heap[b1_2]? = some (.cells #[.map (some mb), .int .i64 0, .slice none 0 0] _ _) at g1_2
  replace hm := hm.step0 s1_2
  have := S.size
  replace S := S.trans0 s1_2
  refine Rg.assign rfl rfl ?_
  refine Rg.nil ?_
  refine T.ret ?_
  exact Kret1 rfl rfl ⟨_, mb, rfl, ⟨g1_2, ⟨hm, Own.nil _ _ _ _ _, (fun p hp => by cases hp)⟩, List.Pairwise.nil, (fun p hp => by cases hp), by omega, rfl, by omega, p1, (fun p hp => by cases hp)⟩, S⟩

/-- '(*concordance/snap.Store).Put' -/
theorem put_spec {B sb mb : Nat} {u : Value} {n : Int} {ml : List (Int × Nat)} {fr : List Int} {xv : Option Addr} (w0 : World) (hs : St w0 B sb mb u n ml fr) (hn : n < 1000000) :
    Spec Tryz.prog 16 #[.pointer (some ⟨sb, 0, none⟩), .pointer xv] w0 (fun v w => ∃ hb, v = .int .i64 (n + 1) ∧ St w B sb mb u (n + 1) (insI (n + 1, hb) ml) fr ∧ HeldAt w hb 1 (.pointer xv) ∧ w0.heap.size ≤ hb ∧ Step allM w0 allM w (fun k => B ≤ k)) := by
  have hb_ := hs.b
  have hz_ := hs.z
  have hd_ := hs.d
  have hk_ := hs.k
  have hs_ := hs.bs
  have g0 := hs.s
  have hr := hs.r
  obtain ⟨hs1, hs2, hs3⟩ := hs_
  clear hs
  refine spec_of (args := [_, _]) (fn := Tryz.f16) Tryz.func16 rfl (n := 28) Tryz.ntmps16 ?_
  have S : Step allM w0 allM w0 (fun k => B ≤ k) := (Step.refl _ _).widen (fun _ h => h.elim) (fun _ _ => trivial)
  refine T.seq ?_
  refine T.region ?_ -- region 0
  refine Rg.assign rfl rfl ?_
  refine Rg.nil ?_
  refine T.seq ?_
  refine T.region ?_ -- region 1
  refine Rg.move rfl rfl ?_
  refine Rg.nilCheck rfl ⟨_, rfl⟩ rfl ?_
  refine Rg.fieldc (o' := 1) Tryz.underlying102 rfl rfl I3 (by decide) rfl rfl ?_
  refine Rg.loadc Tryz.underlying3 rfl rfl rfl (by assumption) rfl ?_
  refine Rg.iadd rfl rfl rfl (by omega) ?_
  refine Rg.nilCheck rfl ⟨_, rfl⟩ rfl ?_
  refine Rg.fieldc (o' := 1) Tryz.underlying102 rfl rfl I3 (by decide) rfl rfl ?_
  refine Rg.storec (M := allM) I3 rfl rfl g0 rfl (rfl) trivial (fun w1_7 g1_7 s1_7 => ?_)
  change w1_7.heap[_]? = some (Obj.cells #[.map (some mb), .int .i64 (n + 1), u] _ _) at g1_7
  replace hr := hr.step s1_7 (fun b hb => by cases hb; exact ⟨_, _, by decide, by decide, g0⟩)
  have := S.size
  replace S := S.trans s1_7 (fun k hk h => by subst h; first | (exfalso; omega) | (show _ ≤ _; omega) | exact .inl rfl | exact .inr rfl | exact .inr (.inl rfl) | exact .inr (.inr rfl) | exact rfl)
  have g0_ := g1_7
  clear g0
  have g0 := g0_
  clear g0_
  refine Rg.nil ?_
  refine T.seq ?_
  apply T.drawF 11 [0, 1, 2, 3, 4, 5, 6, 7] (fun k => k = mb) mixed rfl rfl rfl rfl -- region 2
  intro wD2 sA2
  have sD2 := sA2 allM
  have := lt_of_get g0
  replace g0 := sD2.same0 g0
  replace hr := hr.step0 sD2
  have := S.size
  replace S := S.trans0 sD2
  have ns : sb ≠ mb := fun e => hr.m.ne g0 e.symm
  refine Rg.move rfl rfl ?_
  refine Rg.nil ⟨rfl, rfl, rfl, ?_⟩
  refine Rg.nilCheck rfl ⟨_, rfl⟩ rfl ?_
  refine Rg.nil ⟨rfl, rfl, rfl, ?_⟩
  refine Rg.fieldc (o' := 0) Tryz.underlying102 rfl rfl I100 (by decide) rfl rfl ?_
  refine Rg.nil ⟨rfl, rfl, rfl, ?_⟩
  refine Rg.loadc Tryz.underlying100 rfl rfl rfl (by first | assumption | exact Step.same0 sD2 (by assumption)) rfl ?_
  refine Rg.nil ⟨rfl, rfl, rfl, ?_⟩
  refine Rg.move rfl rfl ?_
  refine Rg.nil ⟨rfl, rfl, rfl, ?_⟩
  refine Rg.nilCheck rfl ⟨_, rfl⟩ rfl ?_
  refine Rg.nil ⟨rfl, rfl, rfl, ?_⟩
  refine Rg.fieldc (o' := 1) Tryz.underlying102 rfl rfl I3 (by decide) rfl rfl ?_
  refine Rg.nil ⟨rfl, rfl, rfl, ?_⟩
  refine Rg.loadc Tryz.underlying3 rfl rfl rfl (by first | assumption | exact Step.same0 sD2 (by assumption)) rfl ?_
  refine Rg.nil ⟨rfl, rfl, rfl, ?_⟩
  refine Rg.build (places := [(0, 1)]) Tryz.underlying111 I111 B111 rfl ⟨_, _, rfl, rfl, rfl⟩ (out := [_]) ⟨0, [_], rfl, rfl, by simp [Value.cells], rfl⟩ ?_
  refine Rg.nil ⟨rfl, rfl, rfl, ?_⟩
  refine Rg.move rfl rfl ?_
  refine Rg.nil ⟨rfl, rfl, rfl, ?_⟩
  refine Rg.build (places := [(0, 1), (1, 1)]) Tryz.underlying113 I113 B113 rfl ⟨_, _, rfl, rfl, _, _, rfl, rfl, rfl⟩ (out := [_, _]) ⟨0, [_], rfl, rfl, by simp [Value.cells], 1, [_], rfl, rfl, by simp [Value.cells], rfl⟩ ?_
  refine Rg.nil ⟨rfl, rfl, rfl, ?_⟩
  refine QRg.nil ?_
  refine ⟨Floats.all ⟨FloatOk.move, ⟨FloatOk.nilCheck rfl, ⟨FloatOk.field Tryz.underlying102 rfl I100 (by decide), ⟨FloatOk.load rfl (by assumption) (by first | assumption | exact fun h => h | (intro h; have h : _ = _ := h; omega)), ⟨FloatOk.move, ⟨FloatOk.nilCheck rfl, ⟨FloatOk.field Tryz.underlying102 rfl I3 (by decide), ⟨FloatOk.load rfl (by assumption) (by first | assumption | exact fun h => h | (intro h; have h : _ = _ := h; omega)), trivial⟩⟩⟩⟩⟩⟩⟩⟩, ?_⟩
  have kp := Keep.refl (fun k => k = mb) wD2
  refine Rg.box allM rfl rfl (fun b2_11 w2_11 p2_11 q2_11 g2_11 s2_11 => ?_)
  replace s2_11 := s2_11.all
  change w2_11.heap[b2_11]? = some (.cells #[.int .i64 1, .pointer xv] _ _) at g2_11
  have := lt_of_get g0
  replace g0 := s2_11.same0 g0
  replace hr := hr.step0 s2_11
  have := S.size
  replace S := S.trans0 s2_11
  refine (fun (kp : Keep _ _ _) => Rg.nil ⟨rfl, rfl, kp, ?_⟩) (by first | exact kp | exact kp.go0 (by assumption) | exact kp.goN (by assumption) | exact kp.go (by assumption) (fun _ _ h => by first | exact h | exact h.elim))
  refine Rg.mapset (R := ptrR) Tryz.underlying100 (int_keyed Tryz.underlying3) rfl rfl rfl (keyOf_int_mk Tryz.underlying3 (wf64 (by omega))) rfl hr.m (by rw [List.length_map]; unfold maxLen; omega) (fun w2 hm2 s2 => ?_)
  have nb : b2_11 ≠ mb := fun e => hr.m.ne g2_11 e.symm
  rw [putKey_enc, filter_none (fun q hq => by have := hb_ q hq; omega)] at hm2
  have ho2 := hr.o.keepi s2 (fun b hbb hn => hr.m.not_own hr.o (hn ▸ hbb))
  have hh2 : ∀ p ∈ ml, ∃ c x, HeldAt w2 p.2 c x := fun p hp => by
    obtain ⟨c, x, hx⟩ := hr.h p hp
    exact ⟨c, x, s2.keep hx fun e => hr.m.ne hx e.symm⟩
  --@drop hr
  --@wrote s2
  replace g0 := s2.keep g0 (fun hk => by have hk : _ = _ := hk; omega)
  replace g2_11 := s2.keep g2_11 (fun hk => by have hk : _ = _ := hk; omega)
  have := S.size
  replace S := S.trans s2 (fun k hk h => by subst h; first | (exfalso; omega) | (show _ ≤ _; omega) | exact .inl rfl | exact .inr rfl | exact .inr (.inl rfl) | exact .inr (.inr rfl) | exact rfl)
  refine (fun (kp : Keep _ _ _) => Rg.nil ⟨rfl, rfl, kp, ?_⟩) (by first | exact kp | exact kp.go0 (by assumption) | exact kp.goN (by assumption) | exact kp.go (by assumption) (fun _ _ h => by first | exact h | exact h.elim))
  refine TRg.nil ?_
  refine T.seq ?_
  refine T.region ?_ -- region 3
  refine Rg.move rfl rfl ?_
  refine Rg.nilCheck rfl ⟨_, rfl⟩ rfl ?_
  refine Rg.fieldc (o' := 1) Tryz.underlying102 rfl rfl I3 (by decide) rfl rfl ?_
  refine Rg.loadc Tryz.underlying3 rfl rfl rfl (by first | assumption | exact Step.same0 sD2 (by assumption)) rfl ?_
  refine Rg.assign rfl rfl ?_
  refine Rg.nil ?_
  refine T.ret ?_
  exact Kret1 rfl rfl ⟨b2_11, rfl, ⟨g0, ⟨hm2, ho2, fun p hp => by
    rcases (insI_mem _ _ _).1 hp with rfl | hp
    · exact ⟨_, _, g2_11⟩
    · exact hh2 p hp⟩, hd_.ins (fun q hq => by have := hb_ q hq; omega), (fun p hp => by
    rcases (insI_mem _ _ _).1 hp with rfl | hp
    · exact ⟨by omega, Int.le_refl _⟩
    · have := hb_ p hp; omega), by omega, by rw [insI_len]; omega, hs1, hs2, fun p hp => by
    rcases (insI_mem _ _ _).1 hp with rfl | hp
    · show B ≤ b2_11; omega
    · exact hs3 p hp⟩, g2_11, by omega, S⟩

/-- '(*concordance/snap.holds).less' -/
theorem less_spec {hb : Nat} {c : Int} {x : Value} (w0 : World) (h0 : HeldAt w0 hb c x) (hc : -1000000 ≤ c ∧ c ≤ 1000000) :
    Spec Tryz.prog 60 #[.pointer (some ⟨hb, 0, none⟩)] w0 (fun v w => v = .bool (decide (c - 1 = 0)) ∧ HeldAt w hb (c - 1) x ∧ Step allM w0 allM w (fun k => k = hb)) := by
  have gh : w0.heap[hb]? = some (.cells #[.int .i64 c, x] 113 (0, 0)) := h0
  refine spec_of (args := [_]) (fn := Tryz.f60) Tryz.func60 rfl (n := 15) Tryz.ntmps60 ?_
  have S : Step allM w0 allM w0 (fun k => k = hb) := (Step.refl _ _).widen (fun _ h => h.elim) (fun _ _ => trivial)
  refine T.seq ?_
  refine T.region ?_ -- region 0
  refine Rg.assign rfl rfl ?_
  refine Rg.nil ?_
  refine T.seq ?_
  refine T.region ?_ -- region 1
  refine Rg.move rfl rfl ?_
  refine Rg.nilCheck rfl ⟨_, rfl⟩ rfl ?_
  refine Rg.fieldc (o' := 0) Tryz.underlying111 rfl rfl I3 (by decide) rfl rfl ?_
  refine Rg.loadc Tryz.underlying3 rfl rfl rfl (by assumption) rfl ?_
  refine Rg.isub rfl rfl rfl (by omega) ?_
  refine Rg.nilCheck rfl ⟨_, rfl⟩ rfl ?_
  refine Rg.fieldc (o' := 0) Tryz.underlying111 rfl rfl I3 (by decide) rfl rfl ?_
  refine Rg.storec (M := allM) I3 rfl rfl gh rfl (rfl) trivial (fun w1_7 g1_7 s1_7 => ?_)
  change w1_7.heap[_]? = some (Obj.cells #[.int .i64 (c - 1), x] _ _) at g1_7
  have := S.size
  replace S := S.trans s1_7 (fun k hk h => by subst h; first | (exfalso; omega) | (show _ ≤ _; omega) | exact .inl rfl | exact .inr rfl | exact .inr (.inl rfl) | exact .inr (.inr rfl) | exact rfl)
  have gh_ := g1_7
  clear gh
  have gh := gh_
  clear gh_
  refine Rg.nil ?_
  refine T.seq ?_
  refine T.region ?_ -- region 2
  refine Rg.move rfl rfl ?_
  refine Rg.nilCheck rfl ⟨_, rfl⟩ rfl ?_
  refine Rg.fieldc (o' := 0) Tryz.underlying111 rfl rfl I3 (by decide) rfl rfl ?_
  refine Rg.loadc Tryz.underlying3 rfl rfl rfl (by assumption) rfl ?_
  refine Rg.ieq rfl rfl rfl ?_
  refine Rg.assign rfl rfl ?_
  refine Rg.nil ?_
  refine T.ret ?_
  exact Kret1 rfl rfl ⟨rfl, gh, S⟩

/-- '(*concordance/snap.holds).more' -/
theorem more_spec {hb : Nat} {c : Int} {x : Value} (w0 : World) (h0 : HeldAt w0 hb c x) (hc : -1000000 ≤ c ∧ c ≤ 1000000) :
    Spec Tryz.prog 115 #[.pointer (some ⟨hb, 0, none⟩)] w0 (fun v w => HeldAt w hb (c + 1) x ∧ Step allM w0 allM w (fun k => k = hb)) := by
  have gh : w0.heap[hb]? = some (.cells #[.int .i64 c, x] 113 (0, 0)) := h0
  refine spec_of (args := [_]) (fn := Tryz.f115) Tryz.func115 rfl (n := 9) Tryz.ntmps115 ?_
  have S : Step allM w0 allM w0 (fun k => k = hb) := (Step.refl _ _).widen (fun _ h => h.elim) (fun _ _ => trivial)
  refine T.region ?_ -- region 0
  refine Rg.move rfl rfl ?_
  refine Rg.nilCheck rfl ⟨_, rfl⟩ rfl ?_
  refine Rg.fieldc (o' := 0) Tryz.underlying111 rfl rfl I3 (by decide) rfl rfl ?_
  refine Rg.loadc Tryz.underlying3 rfl rfl rfl (by assumption) rfl ?_
  refine Rg.iadd rfl rfl rfl (by omega) ?_
  refine Rg.nilCheck rfl ⟨_, rfl⟩ rfl ?_
  refine Rg.fieldc (o' := 0) Tryz.underlying111 rfl rfl I3 (by decide) rfl rfl ?_
  refine Rg.storec (M := allM) I3 rfl rfl gh rfl (rfl) trivial (fun w0_7 g0_7 s0_7 => ?_)
  try simp only [List.setIfInBounds_toArray, List.set_cons_zero, List.set_cons_succ] at g0_7
  have := S.size
  replace S := S.trans s0_7 (fun k hk h => by subst h; first | (exfalso; omega) | (show _ ≤ _; omega) | exact .inl rfl | exact .inr rfl | exact .inr (.inl rfl) | exact .inr (.inr rfl) | exact rfl)
  have gh_ := g0_7
  clear gh
  have gh := gh_
  clear gh_
  refine Rg.nil ?_
  first | refine EndP.nil ?_ | simp +decide only [Kseq, Kblock, if_true, if_false] | skip
  exact Kret0n rfl ⟨gh, S⟩

/-- '(*concordance/snap.Store).Drop' -/
theorem drop_none {B sb mb : Nat} {u : Value} {n : Int} {ml : List (Int × Nat)} {fr : List Int} {k : Int} (w0 : World) (hs : St w0 B sb mb u n ml fr) (hk : ∀ q ∈ ml, q.1 ≠ k) (hk0 : 0 ≤ k ∧ k ≤ 1000000) :
    Spec Tryz.prog 17 #[.pointer (some ⟨sb, 0, none⟩), .int .i64 k] w0 (fun v w => v = .tuple #[.bool false, .int .i64 6] ∧ w = w0) := by
  have hb_ := hs.b
  have hz_ := hs.z
  have hd_ := hs.d
  have hk_ := hs.k
  have hs_ := hs.bs
  have g0 := hs.s
  have hr := hs.r
  obtain ⟨hs1, hs2, hs3⟩ := hs_
  refine spec_of (args := [_, _]) (fn := Tryz.f17) Tryz.func17 rfl (n := 37) Tryz.ntmps17 ?_
  have S : Step allM w0 allM w0 (fun k => B ≤ k) := (Step.refl _ _).widen (fun _ h => h.elim) (fun _ _ => trivial)
  refine T.seq ?_
  refine T.region ?_ -- region 0
  refine Rg.assign rfl rfl ?_
  refine Rg.assign rfl rfl ?_
  refine Rg.nil ?_
  refine T.seq ?_
  refine T.region ?_ -- region 1
  refine Rg.move rfl rfl ?_
  refine Rg.nilCheck rfl ⟨_, rfl⟩ rfl ?_
  refine Rg.fieldc (o' := 0) Tryz.underlying102 rfl rfl I100 (by decide) rfl rfl ?_
  refine Rg.loadc Tryz.underlying100 rfl rfl rfl (by assumption) rfl ?_
  refine Rg.move rfl rfl ?_
  refine Rg.mapget (R := ptrR) Tryz.underlying100 (int_keyed Tryz.underlying3) I109 rfl rfl rfl rfl (keyOf_int_mk Tryz.underlying3 (wf64 (by omega))) hr.m (fun v ps hv => ?_)
  rw [atKey_none hk] at hv
  obtain rfl := ptrR_none hv
  refine Rg.assign rfl rfl ?_
  refine Rg.nil ?_
  refine T.seq ?_
  refine T.block ?_
  refine T.seq ?_
  refine T.region ?_ -- region 2
  refine Rg.move rfl rfl ?_
  refine Rg.ptreq Tryz.underlying109 rfl rfl rfl ?_
  refine Rg.assign rfl rfl ?_
  refine Rg.nil ?_
  refine T.iftp rfl (rfl) ?_
  refine T.seq ?_
  refine T.region ?_ -- region 3
  refine Rg.assign rfl rfl ?_
  refine Rg.assign rfl rfl ?_
  refine Rg.nil ?_
  refine T.ret ?_
  exact Kret2 rfl rfl rfl ⟨rfl, rfl⟩

/-- '(*concordance/snap.Store).Drop' -/
theorem drop_more {B sb mb : Nat} {u : Value} {n : Int} {ml : List (Int × Nat)} {fr : List Int} {k : Int} (w0 : World) (hs : St w0 B sb mb u n ml fr) {hb : Nat} {c : Int} {x : Value} (hm : (k, hb) ∈ ml) (h0 : HeldAt w0 hb c x) (hc : -1000000 ≤ c ∧ c ≤ 1000000) (hc1 : c ≠ 1) :
    Spec Tryz.prog 17 #[.pointer (some ⟨sb, 0, none⟩), .int .i64 k] w0 (fun v w => v = .tuple #[.bool false, .int .i64 0] ∧ St w B sb mb u n ml fr ∧ HeldAt w hb (c - 1) x ∧ Step allM w0 allM w (fun k => B ≤ k)) := by
  have hb_ := hs.b
  have hz_ := hs.z
  have hd_ := hs.d
  have hk_ := hs.k
  have hs_ := hs.bs
  have g0 := hs.s
  have hr := hs.r
  obtain ⟨hs1, hs2, hs3⟩ := hs_
  have gh : w0.heap[hb]? = some (.cells #[.int .i64 c, x] 113 (0, 0)) := h0
  have nh : sb ≠ hb := fun e => by subst e; rw [g0] at gh; cases gh
  have hbk := hs3 _ hm
  have hkb := hb_ _ hm
  simp only [] at hbk hkb
  refine spec_of (args := [_, _]) (fn := Tryz.f17) Tryz.func17 rfl (n := 37) Tryz.ntmps17 ?_
  have S : Step allM w0 allM w0 (fun k => B ≤ k) := (Step.refl _ _).widen (fun _ h => h.elim) (fun _ _ => trivial)
  refine T.seq ?_
  refine T.region ?_ -- region 0
  refine Rg.assign rfl rfl ?_
  refine Rg.assign rfl rfl ?_
  refine Rg.nil ?_
  refine T.seq ?_
  refine T.region ?_ -- region 1
  refine Rg.move rfl rfl ?_
  refine Rg.nilCheck rfl ⟨_, rfl⟩ rfl ?_
  refine Rg.fieldc (o' := 0) Tryz.underlying102 rfl rfl I100 (by decide) rfl rfl ?_
  refine Rg.loadc Tryz.underlying100 rfl rfl rfl (by assumption) rfl ?_
  refine Rg.move rfl rfl ?_
  refine Rg.mapget (R := ptrR) Tryz.underlying100 (int_keyed Tryz.underlying3) I109 rfl rfl rfl rfl (keyOf_int_mk Tryz.underlying3 (wf64 (by omega))) hr.m (fun v ps hv => ?_)
  rw [atKey_mem hd_ hm] at hv
  obtain rfl := ptrR_some hv --@box gh
  refine Rg.assign rfl rfl ?_
  refine Rg.nil ?_
  refine T.seq ?_
  refine T.block ?_
  refine T.seq ?_
  refine T.region ?_ -- region 2
  refine Rg.move rfl rfl ?_
  refine Rg.ptreq Tryz.underlying109 rfl rfl rfl ?_
  refine Rg.assign rfl rfl ?_
  refine Rg.nil ?_
  refine T.iffp rfl ((by simp)) ?_
  refine T.seq ?_
  refine T.region ?_ -- region 4
  refine Rg.move rfl rfl ?_
  refine Rg.nilCheck rfl ⟨_, rfl⟩ rfl ?_
  refine Rg.fieldc (o' := 0) Tryz.underlying113 rfl rfl I111 (by decide) rfl rfl ?_
  refine Rg.call rfl rfl E60 (less_spec _ gh hc) (fun r4 w4 h4 => ?_)
  obtain ⟨rfl, g4, s4⟩ := h4
  replace hr := hr.count s4 gh g4
  --@drop hr
  --@wrote s4 gh g4
  --@fact2 hr ;; hr.step0 @s ;; hr.step @s (fun b hb => by cases hb; exact ⟨_, _, by decide, by decide, g0⟩)
  replace g0 := s4.keep g0 (fun hk => by have hk : _ = _ := hk; omega)
  have := S.size
  replace S := S.trans s4 (fun k hk h => by subst h; first | (exfalso; omega) | (show _ ≤ _; omega) | exact .inl rfl | exact .inr rfl | exact .inr (.inl rfl) | exact .inr (.inr rfl) | exact rfl)
  have gh_ := g4
  clear gh
  have gh := gh_
  clear gh_
  refine Rg.not rfl rfl ?_
  refine Rg.eqv (v' := .bool true) (by rw [decide_eq_false (by omega)]; rfl) ?_ --@bool true
  refine Rg.assign rfl rfl ?_
  refine Rg.nil ?_
  refine T.ift rfl ?_
  refine T.seq ?_
  refine T.region ?_ -- region 5
  refine Rg.assign rfl rfl ?_
  refine Rg.assign rfl rfl ?_
  refine Rg.nil ?_
  refine T.ret ?_
  exact Kret2 rfl rfl rfl ⟨rfl, ⟨g0, hr, hd_, hb_, hz_, hk_, hs1, hs2, hs3⟩, gh, S⟩

/-- '(*concordance/snap.Store).Drop' -/
theorem drop_last {B sb mb : Nat} {u : Value} {n : Int} {ml : List (Int × Nat)} {fr : List Int} {k : Int} (w0 : World) (hs : St w0 B sb mb u n ml fr) {hb : Nat} {c : Int} {x : Value} (hm : (k, hb) ∈ ml) (h0 : HeldAt w0 hb c x) (hc : -1000000 ≤ c ∧ c ≤ 1000000) (hc1 : c = 1) :
    Spec Tryz.prog 17 #[.pointer (some ⟨sb, 0, none⟩), .int .i64 k] w0 (fun v w => v = .tuple #[.bool true, .int .i64 0] ∧ (∃ u', St w B sb mb u' n (ml.filter fun p => !decide (p.1 = k)) (fr ++ [k])) ∧ Step allM w0 allM w (fun k => B ≤ k)) := by
  have hb_ := hs.b
  have hz_ := hs.z
  have hd_ := hs.d
  have hk_ := hs.k
  have hs_ := hs.bs
  have g0 := hs.s
  have hr := hs.r
  obtain ⟨hs1, hs2, hs3⟩ := hs_
  have gh : w0.heap[hb]? = some (.cells #[.int .i64 c, x] 113 (0, 0)) := h0
  have nh : sb ≠ hb := fun e => by subst e; rw [g0] at gh; cases gh
  have hbk := hs3 _ hm
  have hkb := hb_ _ hm
  simp only [] at hbk hkb
  refine spec_of (args := [_, _]) (fn := Tryz.f17) Tryz.func17 rfl (n := 37) Tryz.ntmps17 ?_
  have S : Step allM w0 allM w0 (fun k => B ≤ k) := (Step.refl _ _).widen (fun _ h => h.elim) (fun _ _ => trivial)
  refine T.seq ?_
  refine T.region ?_ -- region 0
  refine Rg.assign rfl rfl ?_
  refine Rg.assign rfl rfl ?_
  refine Rg.nil ?_
  refine T.seq ?_
  refine T.region ?_ -- region 1
  refine Rg.move rfl rfl ?_
  refine Rg.nilCheck rfl ⟨_, rfl⟩ rfl ?_
  refine Rg.fieldc (o' := 0) Tryz.underlying102 rfl rfl I100 (by decide) rfl rfl ?_
  refine Rg.loadc Tryz.underlying100 rfl rfl rfl (by assumption) rfl ?_
  refine Rg.move rfl rfl ?_
  refine Rg.mapget (R := ptrR) Tryz.underlying100 (int_keyed Tryz.underlying3) I109 rfl rfl rfl rfl (keyOf_int_mk Tryz.underlying3 (wf64 (by omega))) hr.m (fun v ps hv => ?_)
  rw [atKey_mem hd_ hm] at hv
  obtain rfl := ptrR_some hv --@box gh
  refine Rg.assign rfl rfl ?_
  refine Rg.nil ?_
  refine T.seq ?_
  refine T.block ?_
  refine T.seq ?_
  refine T.region ?_ -- region 2
  refine Rg.move rfl rfl ?_
  refine Rg.ptreq Tryz.underlying109 rfl rfl rfl ?_
  refine Rg.assign rfl rfl ?_
  refine Rg.nil ?_
  refine T.iffp rfl ((by simp)) ?_
  refine T.seq ?_
  refine T.region ?_ -- region 4
  refine Rg.move rfl rfl ?_
  refine Rg.nilCheck rfl ⟨_, rfl⟩ rfl ?_
  refine Rg.fieldc (o' := 0) Tryz.underlying113 rfl rfl I111 (by decide) rfl rfl ?_
  refine Rg.call rfl rfl E60 (less_spec _ gh hc) (fun r4 w4 h4 => ?_)
  obtain ⟨rfl, g4, s4⟩ := h4
  replace hr := hr.count s4 gh g4
  --@drop hr
  --@wrote s4 gh g4
  --@fact2 hr ;; hr.step0 @s ;; hr.step @s (fun b hb => by cases hb; exact ⟨_, _, by decide, by decide, g0⟩)
  replace g0 := s4.keep g0 (fun hk => by have hk : _ = _ := hk; omega)
  have := S.size
  replace S := S.trans s4 (fun k hk h => by subst h; first | (exfalso; omega) | (show _ ≤ _; omega) | exact .inl rfl | exact .inr rfl | exact .inr (.inl rfl) | exact .inr (.inr rfl) | exact rfl)
  have gh_ := g4
  clear gh
  have gh := gh_
  clear gh_
  refine Rg.not rfl rfl ?_
  refine Rg.eqv (v' := .bool false) (by rw [decide_eq_true (by omega)]; rfl) ?_ --@bool false
  refine Rg.assign rfl rfl ?_
  refine Rg.nil ?_
  refine T.iff rfl ?_
  refine T.skip ?_
  refine T.seq ?_
  refine T.region ?_ -- region 6
  refine Rg.move rfl rfl ?_
  refine Rg.nilCheck rfl ⟨_, rfl⟩ rfl ?_
  refine Rg.fieldc (o' := 0) Tryz.underlying102 rfl rfl I100 (by decide) rfl rfl ?_
  refine Rg.loadc Tryz.underlying100 rfl rfl rfl (by assumption) rfl ?_
  refine Rg.move rfl rfl ?_
  refine Rg.mapdel Tryz.underlying100 (int_keyed Tryz.underlying3) rfl rfl (keyOf_int_mk Tryz.underlying3 (wf64 (by omega))) hr.m (fun w6 hm6 s6 => ?_)
  have ns : sb ≠ mb := fun e => hr.m.ne g0 e.symm
  have nbh : hb ≠ mb := fun e => hr.m.ne gh e.symm
  rw [delKey_enc] at hm6
  replace hr : Rest w6 B mb u (ml.filter fun p => !decide (p.1 = k)) fr := ⟨hm6, hr.o.keepi s6 (fun b hbb hn => hr.m.not_own hr.o (hn ▸ hbb)), fun p hp => by
    obtain ⟨c, x, hx⟩ := hr.h p (List.mem_filter.1 hp).1
    exact ⟨c, x, s6.keep hx fun e => hr.m.ne hx e.symm⟩⟩
  --@drop hr
  --@wrote s6
  replace g0 := s6.keep g0 (fun hk => by have hk : _ = _ := hk; omega)
  replace gh := s6.keep gh (fun hk => by have hk : _ = _ := hk; omega)
  have := S.size
  replace S := S.trans s6 (fun k hk h => by subst h; first | (exfalso; omega) | (show _ ≤ _; omega) | exact .inl rfl | exact .inr rfl | exact .inr (.inl rfl) | exact .inr (.inr rfl) | exact rfl)
  refine Rg.nil ?_
  refine T.seq ?_
  refine T.region ?_ -- region 7
  refine Rg.move rfl rfl ?_
  refine Rg.move rfl rfl ?_
  refine Rg.nilCheck rfl ⟨_, rfl⟩ rfl ?_
  refine Rg.fieldc (o' := 2) Tryz.underlying102 rfl rfl I32 (by decide) rfl rfl ?_
  refine Rg.loadc Tryz.underlying32 rfl rfl rfl (by assumption) rfl ?_
  refine Rg.move rfl rfl ?_
  have hlt : Lt (blkM u) w6 := fun b hb => (hr.o.base b hb).2
  refine Rg.sl1 (A := RT.int .i64) (hn := by decide) (M := blkM u) Tryz.underlying32 I3 (by decide) rfl rfl hlt (V_i64 (by omega)) (.inr ⟨rfl, rfl⟩) (fun u7 w7 hu7 s7 => ?_)
  have t7 := s7
  replace s7 := s7.all
  replace hr := hr.step0 s7 --@step s7
  have := lt_of_get g0
  replace g0 := s7.same0 g0
  have := lt_of_get gh
  replace gh := s7.same0 gh
  have := S.size
  replace S := S.trans0 s7
  have hbs7 : B ≤ w7.heap.size := by have := lt_of_get g0; omega
  refine Rg.append (M := blkM u) (base := B) Tryz.underlying32 I3 rfl rfl rfl rfl hr.o.lone hu7 (Le.refl _ _) (by simp; omega) (by simp; omega) hbs7 (fun u8 M8 w8 ho8 s8 => ?_)
  have hblk : ∀ b, blk u b → B ≤ b ∧ b ≠ sb ∧ b ≠ hb ∧ b ≠ mb := fun b h => ⟨(hr.o.base b h).1, fun e => hr.o.neT g0 (by decide) (e ▸ h), fun e => hr.o.neT gh (by decide) (e ▸ h), fun e => hr.m.not_own hr.o (e ▸ h)⟩
  replace s8 := s8.all
  replace g0 := s8.keep g0 (fun h => (hblk _ h).2.1 rfl)
  have hm8 := hr.m.step s8 (fun h => (hblk _ h).2.2.2 rfl)
  have hh8 : ∀ p ∈ (ml.filter fun p => !decide (p.1 = k)), ∃ c x, HeldAt w8 p.2 c x := fun p hp => by
    obtain ⟨c, x, hx⟩ := hr.h p hp
    exact ⟨c, x, s8.keep hx fun h => hr.o.neT hx (by decide) h⟩
  replace ho8 := ho8.alli (M' := allM) fun _ _ => trivial
  replace S := S.trans s8 (fun b _ h => (hblk b h).1)
  replace hr : Rest w8 B mb u8 (ml.filter fun p => !decide (p.1 = k)) (fr ++ [k]) := ⟨hm8, ho8, hh8⟩
  --@drop gh
  --@fact2 hr ;; hr.step0 @s ;; hr.step @s (fun b hb => by cases hb; exact ⟨_, _, by decide, by decide, g0⟩)
  refine Rg.nilCheck rfl ⟨_, rfl⟩ rfl ?_
  refine Rg.fieldc (o' := 2) Tryz.underlying102 rfl rfl I32 (by decide) rfl rfl ?_
  refine Rg.storec (M := allM) I32 rfl rfl g0 rfl ((by obtain ⟨_, _, he, _⟩ := ho8.isSlice; rw [he]; rfl)) trivial (fun w7_10 g7_10 s7_10 => ?_)
  change w7_10.heap[_]? = some (Obj.cells #[.map (some mb), .int .i64 n, u8] _ _) at g7_10
  replace hr := hr.step s7_10 (fun b hb => by cases hb; exact ⟨_, _, by decide, by decide, g0⟩)
  have := S.size
  replace S := S.trans s7_10 (fun k hk h => by subst h; first | (exfalso; omega) | (show _ ≤ _; omega) | exact .inl rfl | exact .inr rfl | exact .inr (.inl rfl) | exact .inr (.inr rfl) | exact rfl)
  have g0_ := g7_10
  clear g0
  have g0 := g0_
  clear g0_
  refine Rg.nil ?_
  refine T.seq ?_
  refine T.region ?_ -- region 8
  refine Rg.assign rfl rfl ?_
  refine Rg.assign rfl rfl ?_
  refine Rg.nil ?_
  refine T.ret ?_
  have hfl := filter_len hd_ hm
  exact Kret2 rfl rfl rfl ⟨rfl, ⟨u8, g0, hr, hd_.filter k, (fun p hp => hb_ p (List.mem_filter.1 hp).1), hz_, by simp; omega, hs1, hs2, fun p hp => hs3 p (List.mem_filter.1 hp).1⟩, S⟩

/-- '(*concordance/snap.Store).Hold' -/
theorem hold_spec {B sb mb : Nat} {u : Value} {n : Int} {ml : List (Int × Nat)} {fr : List Int} {k : Int} (w0 : World) (hs : St w0 B sb mb u n ml fr) {hb : Nat} {c : Int} {x : Value} (hm : (k, hb) ∈ ml) (h0 : HeldAt w0 hb c x) (hc : -1000000 ≤ c ∧ c ≤ 1000000)  :
    Spec Tryz.prog 64 #[.pointer (some ⟨sb, 0, none⟩), .int .i64 k] w0 (fun v w => v = .int .i64 0 ∧ St w B sb mb u n ml fr ∧ HeldAt w hb (c + 1) x ∧ Step allM w0 allM w (fun k => B ≤ k)) := by
  have hb_ := hs.b
  have hz_ := hs.z
  have hd_ := hs.d
  have hk_ := hs.k
  have hs_ := hs.bs
  have g0 := hs.s
  have hr := hs.r
  obtain ⟨hs1, hs2, hs3⟩ := hs_
  have gh : w0.heap[hb]? = some (.cells #[.int .i64 c, x] 113 (0, 0)) := h0
  have nh : sb ≠ hb := fun e => by subst e; rw [g0] at gh; cases gh
  have hbk := hs3 _ hm
  have hkb := hb_ _ hm
  simp only [] at hbk hkb
  refine spec_of (args := [_, _]) (fn := Tryz.f64) Tryz.func64 rfl (n := 18) Tryz.ntmps64 ?_
  have S : Step allM w0 allM w0 (fun k => B ≤ k) := (Step.refl _ _).widen (fun _ h => h.elim) (fun _ _ => trivial)
  refine T.seq ?_
  refine T.region ?_ -- region 0
  refine Rg.assign rfl rfl ?_
  refine Rg.nil ?_
  refine T.seq ?_
  refine T.region ?_ -- region 1
  refine Rg.move rfl rfl ?_
  refine Rg.nilCheck rfl ⟨_, rfl⟩ rfl ?_
  refine Rg.fieldc (o' := 0) Tryz.underlying102 rfl rfl I100 (by decide) rfl rfl ?_
  refine Rg.loadc Tryz.underlying100 rfl rfl rfl (by assumption) rfl ?_
  refine Rg.move rfl rfl ?_
  refine Rg.mapget (R := ptrR) Tryz.underlying100 (int_keyed Tryz.underlying3) I109 rfl rfl rfl rfl (keyOf_int_mk Tryz.underlying3 (wf64 (by omega))) hr.m (fun v ps hv => ?_)
  rw [atKey_mem hd_ hm] at hv
  obtain rfl := ptrR_some hv --@box gh
  refine Rg.assign rfl rfl ?_
  refine Rg.nil ?_
  refine T.seq ?_
  refine T.seq ?_
  refine T.region ?_ -- region 2
  refine Rg.move rfl rfl ?_
  refine Rg.ptreq Tryz.underlying109 rfl rfl rfl ?_
  refine Rg.nil ?_
  refine T.iffp rfl ((by simp)) ?_
  refine T.skip ?_
  refine T.seq ?_
  refine T.region ?_ -- region 4
  refine Rg.move rfl rfl ?_
  refine Rg.nilCheck rfl ⟨_, rfl⟩ rfl ?_
  refine Rg.fieldc (o' := 0) Tryz.underlying113 rfl rfl I111 (by decide) rfl rfl ?_
  refine Rg.call rfl rfl E115 (more_spec _ gh hc) (fun r4 w4 h4 => ?_)
  obtain ⟨g4, s4⟩ := h4
  replace hr := hr.count s4 gh g4
  --@drop hr
  --@wrote s4 gh g4
  --@fact2 hr ;; hr.step0 @s ;; hr.step @s (fun b hb => by cases hb; exact ⟨_, _, by decide, by decide, g0⟩)
  replace g0 := s4.keep g0 (fun hk => by have hk : _ = _ := hk; omega)
  have := S.size
  replace S := S.trans s4 (fun k hk h => by subst h; first | (exfalso; omega) | (show _ ≤ _; omega) | exact .inl rfl | exact .inr rfl | exact .inr (.inl rfl) | exact .inr (.inr rfl) | exact rfl)
  have gh_ := g4
  clear gh
  have gh := gh_
  clear gh_
  refine Rg.nil ?_
  refine T.seq ?_
  refine T.region ?_ -- region 5
  refine Rg.assign rfl rfl ?_
  refine Rg.nil ?_
  refine T.ret ?_
  exact Kret1 rfl rfl ⟨rfl, ⟨g0, hr, hd_, hb_, hz_, hk_, hs1, hs2, hs3⟩, gh, S⟩

/-- '(*concordance/snap.Store).Held' -/
theorem held_spec {B sb mb : Nat} {u : Value} {n : Int} {ml : List (Int × Nat)} {fr : List Int} (w0 : World) (hs : St w0 B sb mb u n ml fr) :
    Spec Tryz.prog 18 #[.pointer (some ⟨sb, 0, none⟩)] w0 (fun v w => (∃ a cap, v = .slice a ml.length cap) ∧ Step allM w0 allM w none') := by
  have hb_ := hs.b
  have hz_ := hs.z
  have hd_ := hs.d
  have hk_ := hs.k
  have hs_ := hs.bs
  have g0 := hs.s
  have hr := hs.r
  obtain ⟨hs1, hs2, hs3⟩ := hs_
  refine spec_of (args := [_]) (fn := Tryz.f18) Tryz.func18 rfl (n := 9) Tryz.ntmps18 ?_
  have S : Step allM w0 allM w0 none' := (Step.refl _ _).widen (fun _ h => h.elim) (fun _ _ => trivial)
  refine T.seq ?_
  refine T.region ?_ -- region 0
  refine Rg.assign rfl rfl ?_
  refine Rg.nil ?_
  refine T.seq ?_
  refine T.region ?_ -- region 1
  refine Rg.move rfl rfl ?_
  refine Rg.nilCheck rfl ⟨_, rfl⟩ rfl ?_
  refine Rg.fieldc (o' := 0) Tryz.underlying102 rfl rfl I100 (by decide) rfl rfl ?_
  refine Rg.loadc Tryz.underlying100 rfl rfl rfl (by assumption) rfl ?_
  refine Rg.call rfl rfl E62 (keysI_spec _ _) (fun r w1 hc => ?_)
  obtain ⟨rfl, hw1⟩ := hc 
  have s1 : Step allM w0 allM w1 none' := by rw [hw1]; exact step_alloc _ w0 _
  have hbb := cell_of_alloc hw1 --@step s1
  have := lt_of_get g0
  replace g0 := s1.same0 g0
  replace hr := hr.step0 s1
  have := S.size
  replace S := S.trans0 s1
  refine Rg.call rfl rfl E61 (sortedI_spec hr.m hbb (by rw [List.length_map]; omega)) (fun r2 w2 hc => ?_)
  obtain ⟨⟨ss, hss, how, _⟩, s2⟩ := hc 
  have hsl : ss.length = ml.length := by have := hss.length_eq; simpa [intKeys] using this
  obtain ⟨a2, c2, rfl⟩ : ∃ a cap, r2 = .slice a ml.length cap := by
    rcases how.2 with ⟨h1, h2⟩ | ⟨g, cap, cur, h1, _⟩
    · exact ⟨none, 0, by rw [h1, ← hsl, h2]⟩
    · exact ⟨_, cap, by rw [h1, hsl]⟩
  replace s2 := s2.all --@step s2
  have := lt_of_get g0
  replace g0 := s2.same0 g0
  replace hr := hr.step0 s2
  have := S.size
  replace S := S.trans0 s2
  refine Rg.assign rfl rfl ?_
  refine Rg.nil ?_
  refine T.ret ?_
  exact Kret1 rfl rfl ⟨⟨_, _, rfl⟩, S⟩

/-- 'slices.Clone[[]int,int]' -/
theorem cloneI_some {B : Nat} {a : Option Addr} {cap : Nat} {xs : List Int} (w0 : World) (ho : Own (RT.int .i64) 3 allM w0 B (.slice a xs.length cap) xs) (ha : a ≠ none) (hl : xs.length ≤ 1000000) :
    Spec Tryz.prog 63 #[.slice a xs.length cap] w0 (fun v w => (∃ a cap, v = .slice a xs.length cap) ∧ Step allM w0 allM w none') := by
  have hxs : (RT.int .i64).sl (by decide) |>.V none' w0 xs (.slice a xs.length cap) := ho.sl (M0 := none') Le.none (fun _ _ h => h) (by omega)
  refine spec_of (args := [_]) (fn := Tryz.f63) Tryz.func63 rfl (n := 8) Tryz.ntmps63 ?_
  have S : Step allM w0 allM w0 none' := (Step.refl _ _).widen (fun _ h => h.elim) (fun _ _ => trivial)
  refine T.seq ?_
  refine T.region ?_ -- region 0
  refine Rg.assign rfl rfl ?_
  refine Rg.nil ?_
  refine T.seq ?_
  refine T.seq ?_
  refine T.region ?_ -- region 1
  refine Rg.move rfl rfl ?_
  refine Rg.sleqnil Tryz.underlying32 rfl rfl rfl ?_
  refine Rg.nil ?_
  refine T.iffp rfl (ha) ?_
  refine T.skip ?_
  refine T.seq ?_
  refine T.region ?_ -- region 3
  refine Rg.sl0o Tryz.underlying32 I3 none' rfl (fun g w1 z1 z1' g1 s1 => ?_)
  have t1 := s1
  replace s1 := s1.all --@step s1
  replace ho := ho.keepi s1 (fun _ _ h => h)
  have := S.size
  replace S := S.trans0 s1
  refine Rg.move rfl rfl ?_
  refine Rg.append (M := ins none' g) (base := w0.heap.size) Tryz.underlying32 I3 rfl rfl rfl rfl (Own.empty g1 z1 (.inl rfl)) (hxs.le t1.le) (Le.refl _ _) (by simp; omega) (by simp; omega) (by omega) (fun v2 M2 w2 ho2 s2 => ?_)
  obtain ⟨a2, c2, rfl, _⟩ := ho2.isSlice
  replace s2 := s2.all
  replace S := S.trans s2 (fun b hb h => by have h : some g = some b := h; cases h; omega)
  refine Rg.assign rfl rfl ?_
  refine Rg.nil ?_
  refine T.ret ?_
  exact Kret1 rfl rfl ⟨⟨a2, c2, by simp⟩, S⟩

theorem cloneI_spec {B : Nat} {v : Value} {xs : List Int} (w0 : World) (ho : Own (RT.int .i64) 3 allM w0 B v xs) (hl : xs.length ≤ 1000000) : Spec Tryz.prog 63 #[v] w0 (fun v w => (∃ a cap, v = .slice a xs.length cap) ∧ Step allM w0 allM w none') := by
  obtain ⟨a, cap, rfl, _⟩ := ho.isSlice
  cases a with
  | some a => exact cloneI_some w0 ho (by simp) hl
  | none =>
    have hx : xs.length = 0 ∧ cap = 0 := by
      obtain ⟨⟨C, h1, _⟩, _⟩ := ho
      rcases h1.2 with ⟨h2, h3⟩ | ⟨g, cap, cur, h2, _⟩
      · simp at h2; exact ⟨by rw [h2.1]; rfl, h2.2⟩
      · cases h2
    rw [hx.1, hx.2]
    exact (cloneI_nil w0).mono fun v w ⟨h1, h2⟩ => ⟨⟨none, 0, h1⟩, by rw [h2]; exact Step.refl _ _⟩
/-- '(*concordance/snap.Store).Freed' -/
theorem freed_spec {B sb mb : Nat} {u : Value} {n : Int} {ml : List (Int × Nat)} {fr : List Int} (w0 : World) (hs : St w0 B sb mb u n ml fr) :
    Spec Tryz.prog 19 #[.pointer (some ⟨sb, 0, none⟩)] w0 (fun v w => (∃ a cap, v = .slice a fr.length cap) ∧ Step allM w0 allM w none') := by
  have hb_ := hs.b
  have hz_ := hs.z
  have hd_ := hs.d
  have hk_ := hs.k
  have hs_ := hs.bs
  have g0 := hs.s
  have hr := hs.r
  obtain ⟨hs1, hs2, hs3⟩ := hs_
  refine spec_of (args := [_]) (fn := Tryz.f19) Tryz.func19 rfl (n := 8) Tryz.ntmps19 ?_
  have S : Step allM w0 allM w0 none' := (Step.refl _ _).widen (fun _ h => h.elim) (fun _ _ => trivial)
  refine T.seq ?_
  refine T.region ?_ -- region 0
  refine Rg.assign rfl rfl ?_
  refine Rg.nil ?_
  refine T.seq ?_
  refine T.region ?_ -- region 1
  refine Rg.move rfl rfl ?_
  refine Rg.nilCheck rfl ⟨_, rfl⟩ rfl ?_
  refine Rg.fieldc (o' := 2) Tryz.underlying102 rfl rfl I32 (by decide) rfl rfl ?_
  refine Rg.loadc Tryz.underlying32 rfl rfl rfl (by assumption) rfl ?_
  refine Rg.call rfl rfl E63 (cloneI_spec _ hr.o (by omega)) (fun r w1 hc => ?_)
  obtain ⟨⟨a1, c1, rfl⟩, s1⟩ := hc --@step s1
  have := lt_of_get g0
  replace g0 := s1.same0 g0
  replace hr := hr.step0 s1
  have := S.size
  replace S := S.trans0 s1
  refine Rg.assign rfl rfl ?_
  refine Rg.nil ?_
  refine T.ret ?_
  exact Kret1 rfl rfl ⟨⟨_, _, rfl⟩, S⟩

end Go.K

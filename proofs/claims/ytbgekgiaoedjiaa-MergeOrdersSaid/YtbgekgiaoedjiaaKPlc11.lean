/- The walks of Go functions, operation by operation. -/
import Derived.Test.YtbgekgiaoedjiaaKTypes
import Derived.Test.YtbgekgiaoedjiaaKNum
import Derived.Test.YtbgekgiaoedjiaaKBits
import Derived.Test.YtbgekgiaoedjiaaKHp
import Derived.Test.YtbgekgiaoedjiaaKFloat
import Derived.Test.YtbgekgiaoedjiaaKRep11
import Derived.Test.YtbgekgiaoedjiaaProg
import Derived.KernelRfl
namespace Go.K
open Go.Proofs
namespace TKPlc11
theorem I30 : TI Try.prog 30 (.agg #[(.int .i64 0), (.int .i64 0)]) 2 16 := by unfold TI; kernel_rfl -- [2]int
theorem E18 : Enters Try.prog 18 := enters Try.func18 rfl (by decide) -- slices.Repeat[[]int,int]
end TKPlc11
open TKPlc11
set_option linter.unusedVariables false
set_option linter.unusedSimpArgs false
set_option maxRecDepth 10000

/-- where a pair stands in a list; -1: nowhere -/
def PlaceR (o : List Fo) (p : Fo) (r : Int) : Prop := (r = -1 ∧ p ∉ o) ∨ ∃ t : Nat, r = (t : Int) ∧ o[t]? = some p
theorem PlaceR.un {o : List Fo} {p : Fo} {r r' : Int} (hn : o.Nodup) (h : PlaceR o p r) (h' : PlaceR o p r') : r = r' := by
  rcases h with ⟨h1, h2⟩ | ⟨t, h1, h2⟩ <;> rcases h' with ⟨h3, h4⟩ | ⟨t', h3, h4⟩
  · omega
  · exact absurd (List.mem_of_getElem? h4) h2
  · exact absurd (List.mem_of_getElem? h2) h4
  · obtain ⟨a1, a2⟩ := List.getElem?_eq_some_iff.1 h2; obtain ⟨b1, b2⟩ := List.getElem?_eq_some_iff.1 h4
    have := (List.getElem_inj (h₀ := a1) (h₁ := b1) hn).1 (a2.trans b2.symm)
    omega
theorem PlaceR.hit {o : List Fo} {p : Fo} {k : Nat} (h : o[k]? = some p) : PlaceR (o.take (k + 1)) p (k : Int) := .inr ⟨k, rfl, by rw [List.getElem?_take, if_pos (by omega)]; exact h⟩
theorem PlaceR.miss {o : List Fo} {p q : Fo} {k : Nat} {r : Int} (h : o[k]? = some q) (hne : q ≠ p) (hr : PlaceR (o.take k) p r) : PlaceR (o.take (k + 1)) p r := by
  obtain ⟨hk, hq⟩ := List.getElem?_eq_some_iff.1 h
  rw [List.take_succ_eq_append_getElem hk, hq]
  rcases hr with ⟨h1, h2⟩ | ⟨t, h1, h2⟩
  · exact .inl ⟨h1, fun hm => by rcases List.mem_append.1 hm with hm | hm; exact h2 hm; rw [List.mem_singleton] at hm; exact hne hm.symm⟩
  · exact .inr ⟨t, h1, by rw [List.getElem?_append_left (List.getElem?_eq_some_iff.1 h2).1]; exact h2⟩
theorem PlaceR.all {o : List Fo} {p : Fo} {r : Int} (h : PlaceR (o.take o.length) p r) : PlaceR o p r := by rwa [List.take_length] at h
theorem fo_val2 {M : PSet} {w : World} {a b : Int} {v : Value} (h : RT.fo.V M w (a, b) v) : v = .agg #[.int .i64 a, .int .i64 b] ∧ i64r a ∧ i64r b := by
  obtain ⟨vs, ⟨va, vb, rfl, ⟨rfl, h1⟩, ⟨rfl, h2⟩⟩, rfl⟩ := h
  exact ⟨rfl, h1, h2⟩
def Plc (o : List Fo) (i : Int) (n : Nat) (xs : List Int) : Prop := xs.length = n ∧ ∀ j, j < n → PlaceR o (i, (j : Int)) (xs.getD j 0)
/-- 'concordance/merge.Places' -/
theorem Places_spec {M : PSet} {w0 : World} {v : Value} {o : List Fo} {i : Int} {n : Nat} (hM : Lt M w0) (hv : ((RT.fo).sl).V M w0 o v) (hn : n ≤ 1073741824) :
    Spec Try.prog 7 #[v, .int .i64 i, .int .i64 n] w0 (fun v' w' => ∃ M' xs, Plc o i n xs ∧ Own (RT.int .i64) 3 M' w' w0.heap.size v' xs ∧ Lt M' w' ∧ Step M w0 M' w' none') := by
  have hol := V_sl_len hv
  refine spec_of (args := [_, _, _]) (fn := Try.f7) Try.func7 rfl (n := 44) Try.ntmps7 ?_
  refine T.seq ?_
  refine T.region ?_ -- region 0
  refine Rg.assign rfl rfl ?_
  refine Rg.nil ?_
  refine T.seq ?_
  refine T.region ?_ -- region 1
  refine Rg.sl1 (A := RT.int .i64) (hn := by decide) (M := M) Try.underlying23 I3 (by decide) rfl rfl hM (V_i64 (by decide)) (.inr ⟨rfl, rfl⟩) (fun u w1 hu s1 => ?_)
  refine Rg.move rfl rfl ?_
  refine Rg.max2 rfl rfl rfl ?_
  refine Rg.eqv (v' := .int .i64 (n : Int)) (congrArg _ (by omega)) ?_
  refine Rg.call rfl rfl E18 (Repeat_spec (s1.lt hM) hu hn) (fun rv w2 h => ?_)
  obtain ⟨M2, ho2, hM2, s2⟩ := h
  have S2 := s1.trans0 s2
  replace ho2 := ho2.rebase s1.size
  refine Rg.assign rfl rfl ?_
  refine Rg.nil ?_
  refine T.seq ?_
  refine T.seq ?_
  refine T.region ?_ -- region 2
  refine Rg.move rfl rfl ?_
  refine Rg.lensl Try.underlying26 rfl (hv.le S2.le) rfl ?_
  refine Rg.move rfl rfl ?_
  refine Rg.nil ?_
  refine T.block ?_
  refine T.loop (σ := Nat × List Int) (fun s => [(1, .int .i64 i), (7, rv), (14, v), (15, .int .i64 o.length), (16, .int .i64 s.1)]) (fun s w => s.1 ≤ o.length ∧ Plc (o.take s.1) i n s.2 ∧ ∃ M1, Lt M1 w ∧ Own (RT.int .i64) 3 M1 w w0.heap.size rv s.2 ∧ Step M w0 M1 w none') (fun s => o.length - s.1) (0, List.replicate n (-1)) (.cons rfl (.cons rfl (.cons rfl (.cons rfl (.cons rfl .nil))))) ?_ ?_ -- loop 0
  · refine ⟨Nat.zero_le _, ⟨by simp, fun j hj => .inl ⟨?_, by simp⟩⟩, M2, hM2, ho2, S2⟩
    simp only [List.getD_eq_getElem?_getD, List.getElem?_replicate]; rw [if_pos hj]; rfl
  · clear ho2 S2 hM2
    rintro ⟨k, xs⟩ w1 ⟨hk, ⟨hxl, hpl⟩, M1, hM1, ho, S⟩
    dsimp only at hk hxl hpl ho ⊢
    refine T.seq ?_
    refine T.region ?_ -- region 3
    refine Rg.ilt rfl rfl rfl ?_
    refine Rg.nil ?_
    refine T.seq ?_
    refine T.ifp rfl (fun c3 => ?_) (fun c3 => ?_)
    · -- c3 True
      refine T.skip ?_
      refine T.seq ?_
      refine T.block ?_
      refine T.seq ?_
      refine T.region ?_ -- region 4
      refine Rg.move rfl rfl ?_
      obtain ⟨⟨a, b⟩, hx⟩ : ∃ x, o[k]? = some x := ⟨_, List.getElem?_eq_getElem (by omega)⟩
      refine Rg.idx (M := M1) Try.underlying26 I30 rfl rfl rfl (hv.le S.le) (Le.refl _ _) (by omega) (fun u4 a4 hg4 hu4 => ?_)
      obtain rfl : (a, b) = a4 := Eq.symm (Option.some.inj (hg4.symm.trans (by rw [Int.toNat_natCast]; exact hx)))
      refine Rg.loadagg (M := M1) (A := RT.fo) Try.underlying30 rfl I30 (by decide) rfl rfl rfl hu4 (Le.refl _ _) (fun v4 hv4 => ?_)
      obtain ⟨rfl, ra, rb⟩ := fo_val2 hv4
      refine Rg.alloc M1 I30 rfl (fun b4 wa za za' ga sa => ?_)
      refine Rg.assign rfl rfl ?_
      refine Rg.storeaggc (M := ins M1 b4) (vs := [.int .i64 a, .int .i64 b]) I30 rfl rfl (by intro u hu; simp only [List.mem_cons, List.not_mem_nil, or_false] at hu; rcases hu with rfl | rfl <;> rfl) rfl rfl ga (.inl rfl) (fun ws gs ss => ?_)
      have sS := (sa.transNew ss (fun b hb => by have hb : b = b4 := hb; rw [hb]; exact za)).any M1
      have ho := ho.step0 sS
      have S := S.trans0 sS
      have hM1 := sS.lt hM1
      refine Rg.nil ?_
      refine T.seq ?_
      refine T.region ?_ -- region 5
      refine Rg.idxarr (len := 2) Try.underlying30 I3 rfl rfl rfl (by omega) ?_
      refine Rg.loadc Try.underlying3 rfl rfl rfl gs rfl ?_
      refine Rg.move rfl rfl ?_
      refine Rg.ieq rfl rfl rfl ?_
      refine Rg.move rfl rfl ?_
      refine Rg.gsplitp (g := 25) rfl (fun g5_4 => ?_) (fun g5_4 => ?_)
      · -- g5_4 True
        refine Rg.gyes rfl rfl ?_
        refine Rg.idxarr (len := 2) Try.underlying30 I3 rfl rfl rfl (by omega) ?_
        refine Rg.gyes rfl rfl ?_
        refine Rg.loadc Try.underlying3 rfl rfl rfl gs rfl ?_
        refine Rg.gyes rfl rfl ?_
        refine Rg.ige rfl rfl rfl ?_
        refine Rg.pickt rfl rfl rfl ?_
        refine Rg.move rfl rfl ?_
        refine Rg.gsplitp (g := 30) rfl (fun g5_9 => ?_) (fun g5_9 => ?_)
        · -- g5_9 True
          refine Rg.gyes rfl rfl ?_
          refine Rg.idxarr (len := 2) Try.underlying30 I3 rfl rfl rfl (by omega) ?_
          refine Rg.gyes rfl rfl ?_
          refine Rg.loadc Try.underlying3 rfl rfl rfl gs rfl ?_
          refine Rg.gyes rfl rfl ?_
          refine Rg.move rfl rfl ?_
          refine Rg.gyes rfl rfl ?_
          refine Rg.lenown Try.underlying23 rfl ho rfl ?_
          refine Rg.gyes rfl rfl ?_
          refine Rg.ilt rfl rfl rfl ?_
          refine Rg.pickt rfl rfl rfl ?_
          refine Rg.nil ?_
          refine T.ifp rfl (fun c5 => ?_) (fun c5 => ?_)
          · -- c5 True
            obtain ⟨g, cap, cur, rfl, hbg, hMg, hcur⟩ := ho.ofSome (ho.notnil (by omega))
            refine T.region ?_ -- region 6
            refine Rg.move rfl rfl ?_
            refine Rg.idxarr (len := 2) Try.underlying30 I3 rfl rfl rfl (by omega) ?_
            refine Rg.loadc Try.underlying3 rfl rfl rfl gs rfl ?_
            refine Rg.move rfl rfl ?_
            refine Rg.idxo (size := 1) Try.underlying23 I3 rfl rfl rfl (by omega) (q := b.toNat) (by omega) ?_
            refine Rg.storei (M := M1) I3 rfl rfl ho (by omega) ⟨by show (-9223372036854775808 : Int) ≤ _; omega, by show _ ≤ (9223372036854775807 : Int); omega⟩ (fun w6 ho6 s6 => ?_)
            refine Rg.nil ?_
            refine T.region ?_ -- region 7
            refine Rg.iadd rfl rfl rfl (by omega) ?_
            refine Rg.move rfl rfl ?_
            refine Rg.nil ?_
            refine ⟨rfl, (k + 1, xs.set b.toNat (k : Int)), (.cons rfl (.cons rfl (.cons rfl (.cons rfl (.cons rfl .nil))))), ?_, ?_⟩
            · refine ⟨by simp only; omega, ⟨by simp only [List.length_set]; exact hxl, fun j hj => ?_⟩, M1, s6.lt hM1, ho6, S.transNew s6 (fun b hb => by have hb : b = g := hb; omega)⟩
              simp only [List.getD_eq_getElem?_getD, List.getElem?_set]
              by_cases e : b.toNat = j
              · rw [if_pos e, if_pos (by omega)]
                exact .hit (by rw [hx]; congr 2 <;> omega)
              · rw [if_neg e, ← List.getD_eq_getElem?_getD]
                exact .miss hx (fun h => by simp only [Prod.mk.injEq] at h; omega) (hpl j hj)
            · show o.length - (k + 1) < o.length - k; omega
          · -- c5 False
            refine T.skip ?_
            refine T.region ?_ -- region 7
            refine Rg.iadd rfl rfl rfl (by omega) ?_
            refine Rg.move rfl rfl ?_
            refine Rg.nil ?_
            refine ⟨rfl, (k + 1, xs), (.cons rfl (.cons rfl (.cons rfl (.cons rfl (.cons rfl .nil))))), ?_, ?_⟩
            · refine ⟨by simp only; omega, ⟨hxl, fun j hj => .miss hx (fun h => ?_) (hpl j hj)⟩, M1, hM1, ho, S⟩
              simp only [Prod.mk.injEq] at h
              first | omega | (simp_all; done) | (simp_all; omega)
            · show o.length - (k + 1) < o.length - k; omega
        · -- g5_9 False
          refine Rg.gno rfl rfl rfl rfl ?_
          refine Rg.gno rfl rfl rfl rfl ?_
          refine Rg.gno rfl rfl rfl rfl ?_
          refine Rg.gno rfl rfl rfl rfl ?_
          refine Rg.gno rfl rfl rfl rfl ?_
          refine Rg.pickf rfl rfl rfl ?_
          refine Rg.nil ?_
          refine T.iff rfl ?_
          refine T.skip ?_
          refine T.region ?_ -- region 7
          refine Rg.iadd rfl rfl rfl (by omega) ?_
          refine Rg.move rfl rfl ?_
          refine Rg.nil ?_
          refine ⟨rfl, (k + 1, xs), (.cons rfl (.cons rfl (.cons rfl (.cons rfl (.cons rfl .nil))))), ?_, ?_⟩
          · refine ⟨by simp only; omega, ⟨hxl, fun j hj => .miss hx (fun h => ?_) (hpl j hj)⟩, M1, hM1, ho, S⟩
            simp only [Prod.mk.injEq] at h
            first | omega | (simp_all; done) | (simp_all; omega)
          · show o.length - (k + 1) < o.length - k; omega
      · -- g5_4 False
        refine Rg.gno rfl rfl rfl rfl ?_
        refine Rg.gno rfl rfl rfl rfl ?_
        refine Rg.gno rfl rfl rfl rfl ?_
        refine Rg.pickf rfl rfl rfl ?_
        refine Rg.move rfl rfl ?_
        refine Rg.gno rfl rfl rfl rfl ?_
        refine Rg.gno rfl rfl rfl rfl ?_
        refine Rg.gno rfl rfl rfl rfl ?_
        refine Rg.gno rfl rfl rfl rfl ?_
        refine Rg.gno rfl rfl rfl rfl ?_
        refine Rg.pickf rfl rfl rfl ?_
        refine Rg.nil ?_
        refine T.iff rfl ?_
        refine T.skip ?_
        refine T.region ?_ -- region 7
        refine Rg.iadd rfl rfl rfl (by omega) ?_
        refine Rg.move rfl rfl ?_
        refine Rg.nil ?_
        refine ⟨rfl, (k + 1, xs), (.cons rfl (.cons rfl (.cons rfl (.cons rfl (.cons rfl .nil))))), ?_, ?_⟩
        · refine ⟨by simp only; omega, ⟨hxl, fun j hj => .miss hx (fun h => ?_) (hpl j hj)⟩, M1, hM1, ho, S⟩
          simp only [Prod.mk.injEq] at h
          first | omega | (simp_all; done) | (simp_all; omega)
        · show o.length - (k + 1) < o.length - k; omega
    · -- c3 False
      refine T.exit ?_
      refine T.seq ?_
      refine T.region ?_ -- region 8
      refine Rg.move rfl rfl ?_
      refine Rg.assign rfl rfl ?_
      refine Rg.nil ?_
      refine T.ret ?_
      obtain rfl : k = o.length := by omega
      exact Kret1 rfl rfl ⟨M1, xs, ⟨hxl, fun j hj => (hpl j hj).all⟩, ho, hM1, S⟩

/-- 'concordance/concordanceref11.Place' -/
theorem Place11_spec {M : PSet} {w0 : World} {v : Value} {o : List Fo} {i k : Int} (hM : Lt M w0) (hv : ((RT.fo).sl).V M w0 o v) :
    Spec Try.prog 8 #[v, .int .i64 i, .int .i64 k] w0 (fun v' w' => ∃ r : Int, v' = .int .i64 r ∧ PlaceR o (i, k) r ∧ Step M w0 M w' none') := by
  have hlen := V_sl_len hv
  refine spec_of (args := [_, _, _]) (fn := Try.f8) Try.func8 rfl (n := 31) Try.ntmps8 ?_
  refine T.seq ?_
  refine T.region ?_ -- region 0
  refine Rg.assign rfl rfl ?_
  refine Rg.nil ?_
  refine T.seq ?_
  refine T.seq ?_
  refine T.region ?_ -- region 1
  refine Rg.assign rfl rfl ?_
  refine Rg.nil ?_
  refine T.block ?_
  refine T.loop (σ := Nat) (fun s => [(0, v), (1, .int .i64 i), (2, .int .i64 k), (7, .int .i64 s)]) (fun s w => s ≤ o.length ∧ (i, k) ∉ o.take s ∧ Step M w0 M w none') (fun s => o.length - s) 0 (.cons rfl (.cons rfl (.cons rfl (.cons rfl .nil)))) ?_ ?_ -- loop 0
  · exact ⟨Nat.zero_le _, by simp, Step.refl _ _⟩
  · rintro j w1 ⟨hj, hno, S⟩
    refine T.seq ?_
    refine T.seq ?_
    refine T.region ?_ -- region 2
    refine Rg.move rfl rfl ?_
    refine Rg.move rfl rfl ?_
    refine Rg.lensl Try.underlying26 rfl hv rfl ?_
    refine Rg.ilt rfl rfl rfl ?_
    refine Rg.nil ?_
    refine T.ifp rfl (fun c2 => ?_) (fun c2 => ?_)
    · -- c2 True
      refine T.skip ?_
      refine T.seq ?_
      refine T.block ?_
      refine T.seq ?_
      refine T.region ?_ -- region 4
      obtain ⟨⟨a, b⟩, hx⟩ : ∃ x, o[j]? = some x := ⟨_, List.getElem?_eq_getElem (by omega)⟩
      refine Rg.move rfl rfl ?_
      refine Rg.move rfl rfl ?_

      refine Rg.idx (M := M) Try.underlying26 I30 rfl rfl rfl (hv.le S.le) (Le.refl _ _) (by omega) (fun u4_2 a4_2 hg4_2 hu4_2 => ?_)
      obtain rfl : (a, b) = a4_2 := Eq.symm (Option.some.inj (hg4_2.symm.trans (by rw [Int.toNat_natCast]; exact hx)))
      refine Rg.idxpr (M := M) Try.underlying30 I3 rfl rfl rfl (by omega) hu4_2 (Le.refl _ _) (fun u3 hu3 => ?_)
      --@ptr RT.int .i64 ;; a
      refine Rg.loadi64 (M := M) Try.underlying3 rfl rfl (by assumption) (by repeat (first | exact Le.refl _ _ | refine Le.trans (Step.le (by assumption)) ?_)) (fun in4_4 => ?_)
      refine Rg.eqv (v' := .int .i64 (a)) rfl ?_
      replace in4_4 : -9223372036854775808 ≤ (a : Int) ∧ a ≤ 9223372036854775807 := in4_4
      refine Rg.move rfl rfl ?_
      refine Rg.ieq rfl rfl rfl ?_
      refine Rg.move rfl rfl ?_
      refine Rg.gsplitp (g := 21) rfl (fun g4_7 => ?_) (fun g4_7 => ?_)
      · -- g4_7 True
        refine Rg.gyes rfl rfl ?_
        refine Rg.move rfl rfl ?_
        refine Rg.gyes rfl rfl ?_
        refine Rg.move rfl rfl ?_
        refine Rg.gyes rfl rfl ?_

        refine Rg.idx (M := M) Try.underlying26 I30 rfl rfl rfl (hv.le S.le) (Le.refl _ _) (by omega) (fun u4_10 a4_10 hg4_10 hu4_10 => ?_)
        obtain rfl : (a, b) = a4_10 := Eq.symm (Option.some.inj (hg4_10.symm.trans (by rw [Int.toNat_natCast]; exact hx)))
        refine Rg.gyes rfl rfl ?_
        refine Rg.idxpr (M := M) Try.underlying30 I3 rfl rfl rfl (by omega) hu4_10 (Le.refl _ _) (fun u11 hu11 => ?_)
        --@ptr RT.int .i64 ;; b
        refine Rg.gyes rfl rfl ?_
        refine Rg.loadi64 (M := M) Try.underlying3 rfl rfl (by assumption) (by repeat (first | exact Le.refl _ _ | refine Le.trans (Step.le (by assumption)) ?_)) (fun in4_12 => ?_)
        refine Rg.eqv (v' := .int .i64 (b)) rfl ?_
        replace in4_12 : -9223372036854775808 ≤ (b : Int) ∧ b ≤ 9223372036854775807 := in4_12
        refine Rg.gyes rfl rfl ?_
        refine Rg.move rfl rfl ?_
        refine Rg.gyes rfl rfl ?_
        refine Rg.ieq rfl rfl rfl ?_
        refine Rg.pickt rfl rfl rfl ?_
        refine Rg.nil ?_
        refine T.ifp rfl (fun c4 => ?_) (fun c4 => ?_)
        · -- c4 True
          refine T.seq ?_
          refine T.region ?_ -- region 5
          refine Rg.move rfl rfl ?_
          refine Rg.assign rfl rfl ?_
          refine Rg.nil ?_
          refine T.ret ?_
          exact Kret1 rfl rfl ⟨_, rfl, .inr ⟨j, rfl, by rw [hx]; simp_all⟩, S⟩
        · -- c4 False
          refine T.skip ?_
          refine T.region ?_ -- region 3
          refine Rg.move rfl rfl ?_
          refine Rg.iadd rfl rfl rfl (by omega) ?_
          refine Rg.assign rfl rfl ?_
          refine Rg.nil ?_
          refine ⟨rfl, j + 1, (.cons rfl (.cons rfl (.cons rfl (.cons rfl .nil)))), ?_, ?_⟩
          · refine ⟨by omega, ?_, S⟩
            obtain ⟨h1, h2⟩ := List.getElem?_eq_some_iff.1 hx
            rw [List.take_succ_eq_append_getElem h1, h2]
            intro hm
            rcases List.mem_append.1 hm with hm | hm
            · exact hno hm
            · rw [List.mem_singleton, Prod.mk.injEq] at hm
              first | omega | (simp_all; done) | (simp_all; omega)
          · show o.length - (j + 1) < o.length - j; omega
      · -- g4_7 False
        refine Rg.gno rfl rfl rfl rfl ?_
        refine Rg.gno rfl rfl rfl rfl ?_
        refine Rg.gno rfl rfl rfl rfl ?_
        refine Rg.gno rfl rfl rfl rfl ?_
        refine Rg.gno rfl rfl rfl rfl ?_
        refine Rg.gno rfl rfl rfl rfl ?_
        refine Rg.gno rfl rfl rfl rfl ?_
        refine Rg.pickf rfl rfl rfl ?_
        refine Rg.nil ?_
        refine T.iff rfl ?_
        refine T.skip ?_
        refine T.region ?_ -- region 3
        refine Rg.move rfl rfl ?_
        refine Rg.iadd rfl rfl rfl (by omega) ?_
        refine Rg.assign rfl rfl ?_
        refine Rg.nil ?_
        refine ⟨rfl, j + 1, (.cons rfl (.cons rfl (.cons rfl (.cons rfl .nil)))), ?_, ?_⟩
        · refine ⟨by omega, ?_, S⟩
          obtain ⟨h1, h2⟩ := List.getElem?_eq_some_iff.1 hx
          rw [List.take_succ_eq_append_getElem h1, h2]
          intro hm
          rcases List.mem_append.1 hm with hm | hm
          · exact hno hm
          · rw [List.mem_singleton, Prod.mk.injEq] at hm
            first | omega | (simp_all; done) | (simp_all; omega)
        · show o.length - (j + 1) < o.length - j; omega
    · -- c2 False
      refine T.exit ?_
      refine T.seq ?_
      refine T.region ?_ -- region 6
      refine Rg.assign rfl rfl ?_
      refine Rg.nil ?_
      refine T.ret ?_
      exact Kret1 rfl rfl ⟨-1, rfl, .inl ⟨rfl, by rwa [List.take_of_length_le (by omega)] at hno⟩, S⟩

end Go.K

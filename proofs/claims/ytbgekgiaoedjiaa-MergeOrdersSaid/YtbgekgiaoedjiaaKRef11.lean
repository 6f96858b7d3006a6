/- The walks of Go functions, operation by operation. -/
import Derived.Test.YtbgekgiaoedjiaaKTypes
import Derived.Test.YtbgekgiaoedjiaaKNum
import Derived.Test.YtbgekgiaoedjiaaKBits
import Derived.Test.YtbgekgiaoedjiaaKHp
import Derived.Test.YtbgekgiaoedjiaaKFloat
import Derived.Test.YtbgekgiaoedjiaaKRep11
import Derived.Test.YtbgekgiaoedjiaaKRef04
import Derived.Test.YtbgekgiaoedjiaaKOrder11
import Derived.Test.YtbgekgiaoedjiaaProg
import Derived.KernelRfl
namespace Go.K
open Go.Proofs
namespace TKRef11
theorem I30 : TI Try.prog 30 (.agg #[(.int .i64 0), (.int .i64 0)]) 2 16 := by unfold TI; kernel_rfl -- [2]int
theorem E17 : Enters Try.prog 17 := enters Try.func17 rfl (by decide) -- concordance/concordanceref04.Rises
end TKRef11
open TKRef11
set_option linter.unusedVariables false
set_option linter.unusedSimpArgs false
set_option maxRecDepth 10000

/-- a row of places -/
def atRow (n : Nat) (at_ : Nat → Nat) : List Int := (List.range n).map fun j => ((at_ j : Nat) : Int)
theorem atRow_len (n : Nat) (at_ : Nat → Nat) : (atRow n at_).length = n := by unfold atRow; simp
theorem atRow_get {n : Nat} {at_ : Nat → Nat} {j : Nat} (h : j < n) : (atRow n at_)[j]? = some ((at_ j : Nat) : Int) := by unfold atRow; rw [List.getElem?_map, List.getElem?_range h]; rfl
theorem atRow_up {n : Nat} {at_ : Nat → Nat} {i : Nat} (h : i < n) : (atRow n at_).set i ((at_ i : Nat) + 1 : Int) = atRow n (up1 at_ i) := by
  refine List.ext_getElem? fun j => ?_
  rw [List.getElem?_set, atRow_len]
  by_cases e : i = j
  · subst e
    rw [if_pos rfl, if_pos h, atRow_get h]; simp [up1]
  · rw [if_neg e]
    rcases Nat.lt_or_ge j n with hj | hj
    · rw [atRow_get hj, atRow_get hj]; simp only [up1, if_neg (Ne.symm e)]
    · rw [List.getElem?_eq_none (by rw [atRow_len]; omega), List.getElem?_eq_none (by rw [atRow_len]; omega)]
theorem atRow_zero (n : Nat) : atRow n (fun _ => 0) = List.replicate n 0 := by
  refine List.ext_getElem? fun j => ?_
  rcases Nat.lt_or_ge j n with hj | hj
  · rw [atRow_get hj, List.getElem?_replicate, if_pos hj]; rfl
  · rw [List.getElem?_eq_none (by rw [atRow_len]; omega), List.getElem?_eq_none (by simp; omega)]
/-- the least of the lists' next numbers, of the first so many lists -/
def Best (ls : List (List Int)) (at_ : Nat → Nat) (i : Nat) (best : Int) : Prop :=
  (best = -1 ∧ ∀ j, j < i → ∀ m, ¬ Tr ls j (at_ j) m) ∨ ∃ (b : Nat) (n : Int), best = (b : Int) ∧ b < i ∧ Tr ls b (at_ b) n ∧ ∀ j, j < i → ∀ m, Tr ls j (at_ j) m → n ≤ m
theorem Best.skip {ls : List (List Int)} {at_ : Nat → Nat} {i : Nat} {best : Int} (h : Best ls at_ i best) (hn : ∀ m, ¬ Tr ls i (at_ i) m) : Best ls at_ (i + 1) best := by
  rcases h with ⟨h1, h2⟩ | ⟨b, n, h1, h2, h3, h4⟩
  · exact .inl ⟨h1, fun j hj => by rcases Nat.eq_or_lt_of_le (show j ≤ i by omega) with e | e; (subst e; exact hn); exact h2 j e⟩
  · exact .inr ⟨b, n, h1, by omega, h3, fun j hj m hm => by rcases Nat.eq_or_lt_of_le (show j ≤ i by omega) with e | e; (subst e; exact absurd hm (hn m)); exact h4 j e m hm⟩
theorem Best.stay {ls : List (List Int)} {at_ : Nat → Nat} {i b : Nat} {n1 n2 : Int} (hb : b < i) (h3 : Tr ls b (at_ b) n2) (h4 : ∀ j, j < i → ∀ m, Tr ls j (at_ j) m → n2 ≤ m) (ht : Tr ls i (at_ i) n1) (hle : n2 ≤ n1) : Best ls at_ (i + 1) (b : Int) :=
  .inr ⟨b, n2, rfl, by omega, h3, fun j hj m hm => by rcases Nat.eq_or_lt_of_le (show j ≤ i by omega) with e | e; (subst e; rw [hm.un ht]; exact hle); exact h4 j e m hm⟩
theorem Best.take {ls : List (List Int)} {at_ : Nat → Nat} {i : Nat} {best n1 : Int} (h : Best ls at_ i best) (ht : Tr ls i (at_ i) n1) (hlt : best = -1 ∨ ∃ (b : Nat) (n2 : Int), best = (b : Int) ∧ Tr ls b (at_ b) n2 ∧ n1 < n2) : Best ls at_ (i + 1) (i : Int) := by
  refine .inr ⟨i, n1, rfl, by omega, ht, fun j hj m hm => ?_⟩
  rcases Nat.eq_or_lt_of_le (show j ≤ i by omega) with e | e
  · subst e; rw [hm.un ht]; exact Int.le_refl _
  · rcases h with ⟨h1, h2⟩ | ⟨b, n, h1, h2, h3, h4⟩
    · exact absurd hm (h2 j e m)
    · rcases hlt with h5 | ⟨b', n2, h5, h6, h7⟩
      · omega
      · obtain rfl : b = b' := by omega
        have := h4 j e m hm; have := h3.un h6; omega
/-- 'concordance/concordanceref11.Order' -/
theorem rOrder_spec {M : PSet} {w0 : World} {v : Value} {ls : List (List Int)} (hM : Lt M w0) (hv : (((RT.int .i64).sl).sl).V M w0 ls v) (hll : ls.length ≤ 1099511627776) (hl : ∀ l ∈ ls, l.length ≤ 1099511627776) (htot : tot ls ≤ 1099511627776) :
    Spec Try.prog 6 #[v] w0 (fun v' w' => (∃ vo : Value, ∃ e : Int, v' = .tuple #[vo, .int .i64 e] ∧ ((¬ Up ls ∧ e = 1 ∧ vo = .slice none 0 0) ∨ (Up ls ∧ ∃ r, ResO ls r ∧ ((r = none ∧ e = 5 ∧ vo = .slice none 0 0) ∨ ∃ out, r = some out ∧ e = 0 ∧ ((RT.fo).sl).V M w' (outO out) vo)))) ∧ Step M w0 M w' none') := by
  have hlen := V_sl_len hv
  refine spec_of (args := [_]) (fn := Try.f6) Try.func6 rfl (n := 104) Try.ntmps6 ?_
  refine T.seq ?_
  refine T.region ?_ -- region 0
  refine Rg.assign rfl rfl ?_
  refine Rg.assign rfl rfl ?_
  refine Rg.nil ?_
  refine T.seq ?_
  refine T.seq ?_
  refine T.region ?_ -- region 1
  refine Rg.assign rfl rfl ?_
  refine Rg.nil ?_
  refine T.block ?_
  refine T.loop (σ := Nat) (fun s => [(0, v), (4, .int .i64 s)]) (fun s w => s ≤ ls.length ∧ (∀ l ∈ ls.take s, rises (-1) l = true) ∧ Step M w0 M w none') (fun s => ls.length - s) 0 (.cons rfl (.cons rfl .nil)) ?_ ?_ -- loop 0
  · exact ⟨Nat.zero_le _, by simp, Step.refl _ _⟩
  · rintro i w1 ⟨hi, hup, S⟩
    refine T.seq ?_
    refine T.seq ?_
    refine T.region ?_ -- region 2
    refine Rg.move rfl rfl ?_
    refine Rg.move rfl rfl ?_
    refine Rg.lensl Try.underlying22 rfl hv rfl ?_
    refine Rg.ilt rfl rfl rfl ?_
    refine Rg.nil ?_
    refine T.ifp rfl (fun c2 => ?_) (fun c2 => ?_)
    · -- c2 True
      obtain ⟨li, hli⟩ : ∃ x, ls[i]? = some x := ⟨_, List.getElem?_eq_getElem (by omega)⟩
      refine T.skip ?_
      refine T.seq ?_
      refine T.block ?_
      refine T.seq ?_
      refine T.region ?_ -- region 4
      refine Rg.move rfl rfl ?_
      refine Rg.move rfl rfl ?_

      refine Rg.idx (M := M) Try.underlying22 I23 rfl rfl rfl (hv.le S.le) (Le.refl _ _) (by omega) (fun u4_2 a4_2 hg4_2 hu4_2 => ?_)
      obtain rfl : li = a4_2 := Eq.symm (Option.some.inj (hg4_2.symm.trans (by rw [Int.toNat_natCast]; exact hli)))
      refine Rg.load (M := M) Try.underlying23 rfl rfl rfl rfl rfl (by assumption) (by repeat (first | exact Le.refl _ _ | refine Le.trans (Step.le (by assumption)) ?_)) (fun v4_3 hv4_3 => ?_)
      replace hv4_3 : (((RT.int .i64).sl)).V M _ li v4_3 := hv4_3
      refine Rg.call rfl rfl E17 (Rises_spec (S.lt hM) hv4_3) (fun r1 w2 h => ?_)
      obtain ⟨rfl, s1⟩ := h
      replace S := S.trans0 s1
      refine Rg.assign rfl rfl ?_
      refine Rg.nil ?_
      refine T.seq ?_
      refine T.region ?_ -- region 5
      refine Rg.move rfl rfl ?_
      refine Rg.not rfl rfl ?_
      refine Rg.eqv (v' := .bool (decide (rises (-1) li = false))) (congrArg Value.bool (by cases rises (-1) li <;> rfl)) ?_
      refine Rg.nil ?_
      refine T.ifp rfl (fun c5 => ?_) (fun c5 => ?_)
      · -- c5 True
        refine T.seq ?_
        refine T.region ?_ -- region 6
        refine Rg.assign rfl rfl ?_
        refine Rg.assign rfl rfl ?_
        refine Rg.nil ?_
        refine T.ret ?_
        exact Kret2 rfl rfl rfl ⟨⟨_, 1, rfl, .inl ⟨fun h => by have := h li (List.mem_of_getElem? hli); simp_all, rfl, rfl⟩⟩, S⟩
      · -- c5 False
        refine T.skip ?_
        refine T.region ?_ -- region 3
        refine Rg.move rfl rfl ?_
        refine Rg.iadd rfl rfl rfl (by omega) ?_
        refine Rg.assign rfl rfl ?_
        refine Rg.nil ?_
        refine ⟨rfl, i + 1, (.cons rfl (.cons rfl .nil)), ?_, ?_⟩
        · refine ⟨by omega, fun l hl => ?_, S⟩
          obtain ⟨h1, h2⟩ := List.getElem?_eq_some_iff.1 hli
          rw [List.take_succ_eq_append_getElem h1, h2] at hl
          rcases List.mem_append.1 hl with h | h
          · exact hup l h
          · rw [List.mem_singleton] at h; subst h; simpa using c5
        · show ls.length - (i + 1) < ls.length - i; omega
    · -- c2 False
      obtain rfl : i = ls.length := by omega
      have hup : Up ls := by rw [List.take_length] at hup; exact hup
      refine T.exit ?_
      refine T.seq ?_
      refine T.region ?_ -- region 7
      refine Rg.move rfl rfl ?_
      refine Rg.lensl Try.underlying22 rfl hv rfl ?_
      refine Rg.mk0 (len := ls.length) M Try.underlying23 I3 rfl rfl rfl rfl (by omega) (by omega) (fun g wg zg zg' gg sg => ?_)
      have hoa : Own (RT.int .i64) 3 (ins M g) wg w0.heap.size (.slice (some ⟨g, 0, none⟩) ls.length ls.length) (atRow ls.length (fun _ => 0)) := by rw [atRow_zero]; exact Own.zeros gg (by have := S.size; omega) (.inl rfl) (by omega)
      have Sg := S.trans0 sg
      clear gg
      refine Rg.assign rfl rfl ?_
      refine Rg.nil ?_
      refine T.seq ?_
      refine T.region ?_ -- region 8
      refine Rg.assign rfl rfl ?_
      refine Rg.nil ?_
      refine T.seq ?_
      refine T.region ?_ -- region 9
      refine Rg.assign rfl rfl ?_
      refine Rg.nil ?_
      refine T.block ?_
      refine T.loop (σ := (Nat → Nat) × List Hd × Int × Value) (fun s => [(0, v), (6, .slice (some ⟨g, 0, none⟩) ls.length ls.length), (7, s.2.2.2), (8, .int .i64 s.2.2.1)]) (fun s w => AInv ls s.1 s.2.1 s.2.2.1 ∧ ∃ M1, Lt M1 w ∧ Own (RT.int .i64) 3 M1 w w0.heap.size (.slice (some ⟨g, 0, none⟩) ls.length ls.length) (atRow ls.length s.1) ∧ Own RT.fo 30 M1 w w0.heap.size s.2.2.2 (outO s.2.1) ∧ Step M w0 M1 w none') (fun s => rem ls s.1) (fun _ => 0, [], -1, _) (.cons rfl (.cons rfl (.cons rfl (.cons rfl .nil)))) ?_ ?_ -- loop 1
      · exact ⟨AInv.zero ls hup, _, Sg.lt hM, hoa, Own.nil _ _ _ _ _, Sg⟩
      · clear S hoa Sg
        rintro ⟨at_, out, last, vo⟩ w1 ⟨hai, M1, hM1, hoa, ho, S⟩
        dsimp only at hai hoa ho ⊢
        refine T.block ?_
        refine T.seq ?_
        refine T.region ?_ -- region 10
        refine Rg.assign rfl rfl ?_
        refine Rg.nil ?_
        refine T.seq ?_
        refine T.seq ?_
        refine T.region ?_ -- region 11
        refine Rg.assign rfl rfl ?_
        refine Rg.nil ?_
        refine T.block ?_
        refine T.loop (σ := Nat × Int) (fun s => [(0, v), (6, .slice (some ⟨g, 0, none⟩) ls.length ls.length), (7, vo), (8, .int .i64 last), (9, .int .i64 s.2), (10, .int .i64 s.1)]) (fun s w => s.1 ≤ ls.length ∧ Best ls at_ s.1 s.2 ∧ Lt M1 w ∧ Own (RT.int .i64) 3 M1 w w0.heap.size (.slice (some ⟨g, 0, none⟩) ls.length ls.length) (atRow ls.length at_) ∧ Own RT.fo 30 M1 w w0.heap.size vo (outO out) ∧ Step M w0 M1 w none') (fun s => ls.length - s.1) (0, -1) (.cons rfl (.cons rfl (.cons rfl (.cons rfl (.cons rfl (.cons rfl .nil)))))) ?_ ?_ -- loop 2
        · exact ⟨Nat.zero_le _, .inl ⟨rfl, fun j hj => by omega⟩, hM1, hoa, ho, S⟩
        · clear hM1 hoa ho S
          rintro ⟨i, best⟩ w2 ⟨hi, hbe, hM1, hoa, ho, S2⟩
          dsimp only at hi hbe ⊢
          refine T.seq ?_
          refine T.seq ?_
          refine T.region ?_ -- region 12
          refine Rg.move rfl rfl ?_
          refine Rg.move rfl rfl ?_
          refine Rg.lensl Try.underlying22 rfl hv rfl ?_
          refine Rg.ilt rfl rfl rfl ?_
          refine Rg.nil ?_
          refine T.ifp rfl (fun c12 => ?_) (fun c12 => ?_)
          · -- c12 True
            obtain ⟨li, hli⟩ : ∃ x, ls[i]? = some x := ⟨_, List.getElem?_eq_getElem (by omega)⟩
            refine T.skip ?_
            refine T.seq ?_
            refine T.block ?_
            refine T.seq ?_
            apply T.drawQ0 mixed rfl rfl -- region 14
            intro wD14 sA14
            have sD14 := sA14 M1
            refine Rg.move rfl rfl ?_
            refine Rg.nil ⟨rfl, rfl, rfl, ?_⟩
            refine Rg.move rfl rfl ?_
            refine Rg.nil ⟨rfl, rfl, rfl, ?_⟩
            refine Rg.idxo (size := 1) Try.underlying23 I3 rfl rfl rfl (by omega) (q := i) (by omega) ?_
            refine Rg.nil ⟨rfl, rfl, rfl, ?_⟩
            refine Rg.loadi64 (M := fun b => M1 b ∧ b ≠ g) Try.underlying3 rfl rfl ((hoa.step0 sD14).ptri (atRow_get (show i < ls.length by omega))) (Le.refl _ _) (fun hin => ?_)
            refine Rg.nil ⟨rfl, rfl, rfl, ?_⟩
            refine Rg.move rfl rfl ?_
            refine Rg.nil ⟨rfl, rfl, rfl, ?_⟩
            refine Rg.move rfl rfl ?_
            refine Rg.nil ⟨rfl, rfl, rfl, ?_⟩

            refine Rg.idx (M := M1) Try.underlying22 I23 rfl rfl rfl ((hv.le S2.le).le sD14.le) (Le.refl _ _) (by omega) (fun u14_6 a14_6 hg14_6 hu14_6 => ?_)
            obtain rfl : li = a14_6 := Eq.symm (Option.some.inj (hg14_6.symm.trans (by rw [Int.toNat_natCast]; exact hli)))
            refine Rg.nil ⟨rfl, rfl, rfl, ?_⟩
            refine Rg.load (M := M1) Try.underlying23 rfl rfl rfl rfl rfl (by assumption) (by repeat (first | exact Le.refl _ _ | refine Le.trans (Step.le (by assumption)) ?_)) (fun v14_7 hv14_7 => ?_)
            replace hv14_7 : (((RT.int .i64).sl)).V M1 _ li v14_7 := hv14_7
            refine Rg.nil ⟨rfl, rfl, rfl, ?_⟩
            first | refine Rg.lensl Try.underlying23 rfl (by assumption) rfl ?_ | refine Rg.lenown Try.underlying23 rfl (by assumption) rfl ?_
            refine Rg.nil ⟨rfl, rfl, rfl, ?_⟩
            refine Rg.ilt rfl rfl rfl ?_
            refine Rg.nil ⟨rfl, rfl, rfl, ?_⟩
            refine Rg.move rfl rfl ?_
            refine Rg.nil ⟨rfl, rfl, rfl, ?_⟩
            refine Rg.gsplitp (g := 44) rfl (fun g14_10 => ?_) (fun g14_10 => ?_)
            · -- g14_10 True
              obtain ⟨n1, hn1⟩ : ∃ x, li[at_ i]? = some x := ⟨_, List.getElem?_eq_getElem (by omega)⟩
              have ht1 : Tr ls i (at_ i) n1 := ⟨li, hli, hn1⟩
              refine Rg.gyes rfl rfl ?_
              refine Rg.move rfl rfl ?_
              refine Rg.nil ⟨rfl, rfl, rfl, ?_⟩
              refine Rg.gyes rfl rfl ?_
              refine Rg.ilt rfl rfl rfl ?_
              refine Rg.nil ⟨rfl, rfl, rfl, ?_⟩
              refine Rg.gyes rfl rfl ?_
              refine Rg.move rfl rfl ?_
              refine Rg.nil ⟨rfl, rfl, rfl, ?_⟩
              refine Rg.gsplitp (g := 47) rfl (fun g14_13 => ?_) (fun g14_13 => ?_)
              · -- g14_13 True
                refine Rg.gno rfl rfl rfl rfl ?_
                refine Rg.nil ⟨rfl, rfl, rfl, ?_⟩
                refine Rg.gno rfl rfl rfl rfl ?_
                refine Rg.nil ⟨rfl, rfl, rfl, ?_⟩
                refine Rg.gno rfl rfl rfl rfl ?_
                refine Rg.nil ⟨rfl, rfl, rfl, ?_⟩
                refine Rg.gno rfl rfl rfl rfl ?_
                refine Rg.nil ⟨rfl, rfl, rfl, ?_⟩
                refine Rg.gno rfl rfl rfl rfl ?_
                refine Rg.nil ⟨rfl, rfl, rfl, ?_⟩
                refine Rg.gno rfl rfl rfl rfl ?_
                refine Rg.nil ⟨rfl, rfl, rfl, ?_⟩
                refine Rg.gno rfl rfl rfl rfl ?_
                refine Rg.nil ⟨rfl, rfl, rfl, ?_⟩
                refine Rg.gno rfl rfl rfl rfl ?_
                refine Rg.nil ⟨rfl, rfl, rfl, ?_⟩
                refine Rg.gno rfl rfl rfl rfl ?_
                refine Rg.nil ⟨rfl, rfl, rfl, ?_⟩
                refine Rg.gno rfl rfl rfl rfl ?_
                refine Rg.nil ⟨rfl, rfl, rfl, ?_⟩
                refine Rg.gno rfl rfl rfl rfl ?_
                refine Rg.nil ⟨rfl, rfl, rfl, ?_⟩
                refine Rg.gno rfl rfl rfl rfl ?_
                refine Rg.nil ⟨rfl, rfl, rfl, ?_⟩
                refine Rg.gno rfl rfl rfl rfl ?_
                refine Rg.nil ⟨rfl, rfl, rfl, ?_⟩
                refine Rg.gno rfl rfl rfl rfl ?_
                refine Rg.nil ⟨rfl, rfl, rfl, ?_⟩
                refine Rg.gno rfl rfl rfl rfl ?_
                refine Rg.nil ⟨rfl, rfl, rfl, ?_⟩
                refine Rg.gno rfl rfl rfl rfl ?_
                refine Rg.nil ⟨rfl, rfl, rfl, ?_⟩
                refine Rg.gno rfl rfl rfl rfl ?_
                refine Rg.nil ⟨rfl, rfl, rfl, ?_⟩
                refine Rg.gno rfl rfl rfl rfl ?_
                refine Rg.nil ⟨rfl, rfl, rfl, ?_⟩
                refine Rg.gno rfl rfl rfl rfl ?_
                refine Rg.nil ⟨rfl, rfl, rfl, ?_⟩
                refine Rg.gno rfl rfl rfl rfl ?_
                refine Rg.nil ⟨rfl, rfl, rfl, ?_⟩
                refine Rg.gno rfl rfl rfl rfl ?_
                refine Rg.nil ⟨rfl, rfl, rfl, ?_⟩
                refine Rg.gyes rfl rfl ?_
                refine Rg.pickt rfl rfl rfl ?_
                refine Rg.nil ⟨rfl, rfl, rfl, ?_⟩
                refine Rg.pickt rfl rfl rfl ?_
                refine Rg.nil ⟨rfl, rfl, rfl, ?_⟩
                refine QRg.nil ?_
                refine T.ift rfl ?_
                refine T.region ?_ -- region 15
                refine Rg.move rfl rfl ?_
                refine Rg.assign rfl rfl ?_
                refine Rg.nil ?_
                refine T.region ?_ -- region 13
                refine Rg.move rfl rfl ?_
                refine Rg.iadd rfl rfl rfl (by omega) ?_
                refine Rg.assign rfl rfl ?_
                refine Rg.nil ?_
                refine ⟨rfl, (i + 1, (i : Int)), (.cons rfl (.cons rfl (.cons rfl (.cons rfl (.cons rfl (.cons rfl .nil)))))), ?_, ?_⟩
                · exact ⟨by simp only; omega, hbe.take ht1 (.inl (hbe.elim (fun h => h.1) (fun ⟨b, _, h, _⟩ => by omega))), sD14.lt hM1, hoa.step0 sD14, ho.step0 sD14, S2.trans0 sD14⟩
                · show ls.length - (i + 1) < ls.length - i; omega
              · -- g14_13 False
                obtain ⟨b, n2, rfl, hb, ht2, hmin⟩ := hbe.resolve_left (fun h => by omega)
                obtain ⟨lb, hlb, hn2⟩ := ht2
                have hlbl := (List.getElem?_eq_some_iff.1 hn2).1
                refine Rg.gyes rfl rfl ?_
                refine Rg.move rfl rfl ?_
                refine Rg.nil ⟨rfl, rfl, rfl, ?_⟩
                refine Rg.gyes rfl rfl ?_
                refine Rg.move rfl rfl ?_
                refine Rg.nil ⟨rfl, rfl, rfl, ?_⟩
                refine Rg.gyes rfl rfl ?_

                refine Rg.idx (M := M1) Try.underlying22 I23 rfl rfl rfl ((hv.le S2.le).le sD14.le) (Le.refl _ _) (by omega) (fun u14_16 a14_16 hg14_16 hu14_16 => ?_)
                obtain rfl : li = a14_16 := Eq.symm (Option.some.inj (hg14_16.symm.trans (by rw [Int.toNat_natCast]; exact hli)))
                refine Rg.nil ⟨rfl, rfl, rfl, ?_⟩
                refine Rg.gyes rfl rfl ?_
                refine Rg.load (M := M1) Try.underlying23 rfl rfl rfl rfl rfl (by assumption) (by repeat (first | exact Le.refl _ _ | refine Le.trans (Step.le (by assumption)) ?_)) (fun v14_17 hv14_17 => ?_)
                replace hv14_17 : (((RT.int .i64).sl)).V M1 _ li v14_17 := hv14_17
                refine Rg.nil ⟨rfl, rfl, rfl, ?_⟩
                refine Rg.gyes rfl rfl ?_
                refine Rg.move rfl rfl ?_
                refine Rg.nil ⟨rfl, rfl, rfl, ?_⟩
                refine Rg.gyes rfl rfl ?_
                refine Rg.move rfl rfl ?_
                refine Rg.nil ⟨rfl, rfl, rfl, ?_⟩
                refine Rg.gyes rfl rfl ?_
                refine Rg.idxo (size := 1) Try.underlying23 I3 rfl rfl rfl (by omega) (q := i) (by omega) ?_
                refine Rg.nil ⟨rfl, rfl, rfl, ?_⟩
                refine Rg.gyes rfl rfl ?_
                refine Rg.loadi64 (M := fun b => M1 b ∧ b ≠ g) Try.underlying3 rfl rfl ((hoa.step0 sD14).ptri (atRow_get (show i < ls.length by omega))) (Le.refl _ _) (fun hin => ?_)
                refine Rg.nil ⟨rfl, rfl, rfl, ?_⟩
                refine Rg.gyes rfl rfl ?_

                refine Rg.idx (M := M1) Try.underlying23 I3 rfl rfl rfl (hv14_17) (Le.refl _ _) (by omega) (fun u14_22 a14_22 hg14_22 hu14_22 => ?_)
                obtain rfl : n1 = a14_22 := Eq.symm (Option.some.inj (hg14_22.symm.trans (by rw [Int.toNat_natCast]; exact hn1)))
                refine Rg.nil ⟨rfl, rfl, rfl, ?_⟩
                refine Rg.gyes rfl rfl ?_
                refine Rg.loadi64 (M := M1) Try.underlying3 rfl rfl (by assumption) (by repeat (first | exact Le.refl _ _ | refine Le.trans (Step.le (by assumption)) ?_)) (fun in14_23 => ?_)
                refine Rg.eqv (v' := .int .i64 (n1)) rfl ?_
                replace in14_23 : -9223372036854775808 ≤ (n1 : Int) ∧ n1 ≤ 9223372036854775807 := in14_23
                refine Rg.nil ⟨rfl, rfl, rfl, ?_⟩
                refine Rg.gyes rfl rfl ?_
                refine Rg.move rfl rfl ?_
                refine Rg.nil ⟨rfl, rfl, rfl, ?_⟩
                refine Rg.gyes rfl rfl ?_
                refine Rg.move rfl rfl ?_
                refine Rg.nil ⟨rfl, rfl, rfl, ?_⟩
                refine Rg.gyes rfl rfl ?_

                refine Rg.idx (M := M1) Try.underlying22 I23 rfl rfl rfl ((hv.le S2.le).le sD14.le) (Le.refl _ _) (by omega) (fun u14_26 a14_26 hg14_26 hu14_26 => ?_)
                obtain rfl : lb = a14_26 := Eq.symm (Option.some.inj (hg14_26.symm.trans (by rw [Int.toNat_natCast]; exact hlb)))
                refine Rg.nil ⟨rfl, rfl, rfl, ?_⟩
                refine Rg.gyes rfl rfl ?_
                refine Rg.load (M := M1) Try.underlying23 rfl rfl rfl rfl rfl (by assumption) (by repeat (first | exact Le.refl _ _ | refine Le.trans (Step.le (by assumption)) ?_)) (fun v14_27 hv14_27 => ?_)
                replace hv14_27 : (((RT.int .i64).sl)).V M1 _ lb v14_27 := hv14_27
                refine Rg.nil ⟨rfl, rfl, rfl, ?_⟩
                refine Rg.gyes rfl rfl ?_
                refine Rg.move rfl rfl ?_
                refine Rg.nil ⟨rfl, rfl, rfl, ?_⟩
                refine Rg.gyes rfl rfl ?_
                refine Rg.move rfl rfl ?_
                refine Rg.nil ⟨rfl, rfl, rfl, ?_⟩
                refine Rg.gyes rfl rfl ?_
                refine Rg.idxo (size := 1) Try.underlying23 I3 rfl rfl rfl (by omega) (q := b) (by omega) ?_
                refine Rg.nil ⟨rfl, rfl, rfl, ?_⟩
                refine Rg.gyes rfl rfl ?_
                refine Rg.loadi64 (M := fun b => M1 b ∧ b ≠ g) Try.underlying3 rfl rfl ((hoa.step0 sD14).ptri (atRow_get (show b < ls.length by omega))) (Le.refl _ _) (fun hin => ?_)
                refine Rg.nil ⟨rfl, rfl, rfl, ?_⟩
                refine Rg.gyes rfl rfl ?_

                refine Rg.idx (M := M1) Try.underlying23 I3 rfl rfl rfl (hv14_27) (Le.refl _ _) (by omega) (fun u14_32 a14_32 hg14_32 hu14_32 => ?_)
                obtain rfl : n2 = a14_32 := Eq.symm (Option.some.inj (hg14_32.symm.trans (by rw [Int.toNat_natCast]; exact hn2)))
                refine Rg.nil ⟨rfl, rfl, rfl, ?_⟩
                refine Rg.gyes rfl rfl ?_
                refine Rg.loadi64 (M := M1) Try.underlying3 rfl rfl (by assumption) (by repeat (first | exact Le.refl _ _ | refine Le.trans (Step.le (by assumption)) ?_)) (fun in14_33 => ?_)
                refine Rg.eqv (v' := .int .i64 (n2)) rfl ?_
                replace in14_33 : -9223372036854775808 ≤ (n2 : Int) ∧ n2 ≤ 9223372036854775807 := in14_33
                refine Rg.nil ⟨rfl, rfl, rfl, ?_⟩
                refine Rg.gyes rfl rfl ?_
                refine Rg.ilt rfl rfl rfl ?_
                refine Rg.nil ⟨rfl, rfl, rfl, ?_⟩
                refine Rg.gyes rfl rfl ?_
                refine Rg.pickf rfl rfl rfl ?_
                refine Rg.nil ⟨rfl, rfl, rfl, ?_⟩
                refine Rg.pickt rfl rfl rfl ?_
                refine Rg.nil ⟨rfl, rfl, rfl, ?_⟩
                refine QRg.nil ?_
                refine T.ifp rfl (fun c14 => ?_) (fun c14 => ?_)
                · -- c14 True
                  refine T.region ?_ -- region 15
                  refine Rg.move rfl rfl ?_
                  refine Rg.assign rfl rfl ?_
                  refine Rg.nil ?_
                  refine T.region ?_ -- region 13
                  refine Rg.move rfl rfl ?_
                  refine Rg.iadd rfl rfl rfl (by omega) ?_
                  refine Rg.assign rfl rfl ?_
                  refine Rg.nil ?_
                  refine ⟨rfl, (i + 1, (i : Int)), (.cons rfl (.cons rfl (.cons rfl (.cons rfl (.cons rfl (.cons rfl .nil)))))), ?_, ?_⟩
                  · exact ⟨by simp only; omega, hbe.take ht1 (.inr ⟨b, n2, rfl, ⟨lb, hlb, hn2⟩, c14⟩), sD14.lt hM1, hoa.step0 sD14, ho.step0 sD14, S2.trans0 sD14⟩
                  · show ls.length - (i + 1) < ls.length - i; omega
                · -- c14 False
                  refine T.skip ?_
                  refine T.region ?_ -- region 13
                  refine Rg.move rfl rfl ?_
                  refine Rg.iadd rfl rfl rfl (by omega) ?_
                  refine Rg.assign rfl rfl ?_
                  refine Rg.nil ?_
                  refine ⟨rfl, (i + 1, (b : Int)), (.cons rfl (.cons rfl (.cons rfl (.cons rfl (.cons rfl (.cons rfl .nil)))))), ?_, ?_⟩
                  · exact ⟨by simp only; omega, .stay hb ⟨lb, hlb, hn2⟩ hmin ht1 (by omega), sD14.lt hM1, hoa.step0 sD14, ho.step0 sD14, S2.trans0 sD14⟩
                  · show ls.length - (i + 1) < ls.length - i; omega
            · -- g14_10 False
              refine Rg.gno rfl rfl rfl rfl ?_
              refine Rg.nil ⟨rfl, rfl, rfl, ?_⟩
              refine Rg.gno rfl rfl rfl rfl ?_
              refine Rg.nil ⟨rfl, rfl, rfl, ?_⟩
              refine Rg.gno rfl rfl rfl rfl ?_
              refine Rg.nil ⟨rfl, rfl, rfl, ?_⟩
              refine Rg.gnox rfl rfl rfl ?_
              refine Rg.nil ⟨rfl, rfl, rfl, ?_⟩
              refine Rg.gnox rfl rfl rfl ?_
              refine Rg.nil ⟨rfl, rfl, rfl, ?_⟩
              refine Rg.gnox rfl rfl rfl ?_
              refine Rg.nil ⟨rfl, rfl, rfl, ?_⟩
              refine Rg.gnox rfl rfl rfl ?_
              refine Rg.nil ⟨rfl, rfl, rfl, ?_⟩
              refine Rg.gnox rfl rfl rfl ?_
              refine Rg.nil ⟨rfl, rfl, rfl, ?_⟩
              refine Rg.gnox rfl rfl rfl ?_
              refine Rg.nil ⟨rfl, rfl, rfl, ?_⟩
              refine Rg.gnox rfl rfl rfl ?_
              refine Rg.nil ⟨rfl, rfl, rfl, ?_⟩
              refine Rg.gnox rfl rfl rfl ?_
              refine Rg.nil ⟨rfl, rfl, rfl, ?_⟩
              refine Rg.gnox rfl rfl rfl ?_
              refine Rg.nil ⟨rfl, rfl, rfl, ?_⟩
              refine Rg.gnox rfl rfl rfl ?_
              refine Rg.nil ⟨rfl, rfl, rfl, ?_⟩
              refine Rg.gnox rfl rfl rfl ?_
              refine Rg.nil ⟨rfl, rfl, rfl, ?_⟩
              refine Rg.gnox rfl rfl rfl ?_
              refine Rg.nil ⟨rfl, rfl, rfl, ?_⟩
              refine Rg.gnox rfl rfl rfl ?_
              refine Rg.nil ⟨rfl, rfl, rfl, ?_⟩
              refine Rg.gnox rfl rfl rfl ?_
              refine Rg.nil ⟨rfl, rfl, rfl, ?_⟩
              refine Rg.gnox rfl rfl rfl ?_
              refine Rg.nil ⟨rfl, rfl, rfl, ?_⟩
              refine Rg.gnox rfl rfl rfl ?_
              refine Rg.nil ⟨rfl, rfl, rfl, ?_⟩
              refine Rg.gnox rfl rfl rfl ?_
              refine Rg.nil ⟨rfl, rfl, rfl, ?_⟩
              refine Rg.gnox rfl rfl rfl ?_
              refine Rg.nil ⟨rfl, rfl, rfl, ?_⟩
              refine Rg.gnox rfl rfl rfl ?_
              refine Rg.nil ⟨rfl, rfl, rfl, ?_⟩
              refine Rg.gnox rfl rfl rfl ?_
              refine Rg.nil ⟨rfl, rfl, rfl, ?_⟩
              refine Rg.gnox rfl rfl rfl ?_
              refine Rg.nil ⟨rfl, rfl, rfl, ?_⟩
              refine Rg.gno rfl rfl rfl rfl ?_
              refine Rg.nil ⟨rfl, rfl, rfl, ?_⟩
              refine Rg.pickf rfl rfl rfl ?_
              refine Rg.nil ⟨rfl, rfl, rfl, ?_⟩
              refine QRg.nil ?_
              refine T.iff rfl ?_
              refine T.skip ?_
              refine T.region ?_ -- region 13
              refine Rg.move rfl rfl ?_
              refine Rg.iadd rfl rfl rfl (by omega) ?_
              refine Rg.assign rfl rfl ?_
              refine Rg.nil ?_
              refine ⟨rfl, (i + 1, best), (.cons rfl (.cons rfl (.cons rfl (.cons rfl (.cons rfl (.cons rfl .nil)))))), ?_, ?_⟩
              · exact ⟨by simp only; omega, hbe.skip (fun m ⟨l, h1, h2⟩ => by rw [hli] at h1; cases h1; have := (List.getElem?_eq_some_iff.1 h2).1; omega), sD14.lt hM1, hoa.step0 sD14, ho.step0 sD14, S2.trans0 sD14⟩
              · show ls.length - (i + 1) < ls.length - i; omega
          · -- c12 False
            obtain rfl : i = ls.length := by omega
            refine T.exit ?_
            refine T.seq ?_
            refine T.seq ?_
            refine T.region ?_ -- region 16
            refine Rg.move rfl rfl ?_
            refine Rg.ilt rfl rfl rfl ?_
            refine Rg.nil ?_
            refine T.ifp rfl (fun c16 => ?_) (fun c16 => ?_)
            · -- c16 True
              refine T.seq ?_
              refine T.region ?_ -- region 17
              refine Rg.move rfl rfl ?_
              refine Rg.assign rfl rfl ?_
              refine Rg.assign rfl rfl ?_
              refine Rg.nil ?_
              refine T.ret ?_
              exact Kret2 rfl rfl rfl ⟨⟨_, 0, rfl, .inr ⟨hup, some out, hai.fin (fun i n ht => (hbe.elim (fun h => h.2) (fun ⟨b, _, h, _⟩ => by omega)) i ht.lt.1 n ht), .inr ⟨out, rfl, rfl, Own.close hM S2 ho (by have := hai.f; unfold outO; rw [List.length_map]; omega)⟩⟩⟩, S2.back⟩
            · -- c16 False
              obtain ⟨b, n2, rfl, hb, ht2, hmin⟩ := hbe.resolve_left (fun h => by omega)
              obtain ⟨lb, hlb, hn2⟩ := ht2
              have hlbl := (List.getElem?_eq_some_iff.1 hn2).1
              have hlbb := hl lb (List.mem_of_getElem? hlb)
              have ht2 : Tr ls b (at_ b) n2 := ⟨lb, hlb, hn2⟩
              refine T.skip ?_
              refine T.seq ?_
              apply T.drawQ0 mixed rfl rfl -- region 18
              intro wD18 sA18
              have sD18 := sA18 M1
              refine Rg.move rfl rfl ?_
              refine Rg.nil ⟨rfl, rfl, rfl, ?_⟩
              refine Rg.move rfl rfl ?_
              refine Rg.nil ⟨rfl, rfl, rfl, ?_⟩

              refine Rg.idx (M := M1) Try.underlying22 I23 rfl rfl rfl ((hv.le S2.le).le sD18.le) (Le.refl _ _) (by omega) (fun u18_2 a18_2 hg18_2 hu18_2 => ?_)
              obtain rfl : lb = a18_2 := Eq.symm (Option.some.inj (hg18_2.symm.trans (by rw [Int.toNat_natCast]; exact hlb)))
              refine Rg.nil ⟨rfl, rfl, rfl, ?_⟩
              refine Rg.load (M := M1) Try.underlying23 rfl rfl rfl rfl rfl (by assumption) (by repeat (first | exact Le.refl _ _ | refine Le.trans (Step.le (by assumption)) ?_)) (fun v18_3 hv18_3 => ?_)
              replace hv18_3 : (((RT.int .i64).sl)).V M1 _ lb v18_3 := hv18_3
              refine Rg.nil ⟨rfl, rfl, rfl, ?_⟩
              refine Rg.move rfl rfl ?_
              refine Rg.nil ⟨rfl, rfl, rfl, ?_⟩
              refine Rg.move rfl rfl ?_
              refine Rg.nil ⟨rfl, rfl, rfl, ?_⟩
              refine Rg.idxo (size := 1) Try.underlying23 I3 rfl rfl rfl (by omega) (q := b) (by omega) ?_
              refine Rg.nil ⟨rfl, rfl, rfl, ?_⟩
              refine Rg.loadi64 (M := fun b => M1 b ∧ b ≠ g) Try.underlying3 rfl rfl ((hoa.step0 sD18).ptri (atRow_get (show b < ls.length by omega))) (Le.refl _ _) (fun hin => ?_)
              refine Rg.nil ⟨rfl, rfl, rfl, ?_⟩

              refine Rg.idx (M := M1) Try.underlying23 I3 rfl rfl rfl (hv18_3) (Le.refl _ _) (by omega) (fun u18_8 a18_8 hg18_8 hu18_8 => ?_)
              obtain rfl : n2 = a18_8 := Eq.symm (Option.some.inj (hg18_8.symm.trans (by rw [Int.toNat_natCast]; exact hn2)))
              refine Rg.nil ⟨rfl, rfl, rfl, ?_⟩
              refine Rg.loadi64 (M := M1) Try.underlying3 rfl rfl (by assumption) (by repeat (first | exact Le.refl _ _ | refine Le.trans (Step.le (by assumption)) ?_)) (fun in18_9 => ?_)
              refine Rg.eqv (v' := .int .i64 (n2)) rfl ?_
              replace in18_9 : -9223372036854775808 ≤ (n2 : Int) ∧ n2 ≤ 9223372036854775807 := in18_9
              refine Rg.nil ⟨rfl, rfl, rfl, ?_⟩
              refine Rg.assign rfl rfl ?_
              refine Rg.nil ⟨rfl, rfl, rfl, ?_⟩
              refine QRg.nil ?_
              refine T.seq ?_
              refine T.seq ?_
              refine T.region ?_ -- region 19
              refine Rg.move rfl rfl ?_
              refine Rg.move rfl rfl ?_
              refine Rg.ieq rfl rfl rfl ?_
              refine Rg.nil ?_
              refine T.ifp rfl (fun c19 => ?_) (fun c19 => ?_)
              · -- c19 True
                refine T.seq ?_
                refine T.region ?_ -- region 20
                refine Rg.assign rfl rfl ?_
                refine Rg.assign rfl rfl ?_
                refine Rg.nil ?_
                refine T.ret ?_
                exact Kret2 rfl rfl rfl ⟨⟨_, 5, rfl, .inr ⟨hup, none, hai.twice hup ht2 c19, .inl ⟨rfl, rfl, rfl⟩⟩⟩, (S2.trans0 sD18).back⟩
              · -- c19 False
                refine T.skip ?_
                refine T.seq ?_
                refine T.region ?_ -- region 21
                refine Rg.move rfl rfl ?_
                refine Rg.assign rfl rfl ?_
                refine Rg.nil ?_
                refine T.seq ?_
                refine T.region ?_ -- region 22
                refine Rg.move rfl rfl ?_
                refine Rg.move rfl rfl ?_
                refine Rg.move rfl rfl ?_
                refine Rg.move rfl rfl ?_
                refine Rg.idxo (size := 1) Try.underlying23 I3 rfl rfl rfl (by omega) (q := b) (by omega) ?_
                refine Rg.loadi64 (M := fun b => M1 b ∧ b ≠ g) Try.underlying3 rfl rfl ((hoa.step0 sD18).ptri (atRow_get (show b < ls.length by omega))) (Le.refl _ _) (fun hin => ?_)
                refine Rg.arr2 Try.underlying30 I30 I3 rfl rfl rfl ?_
                have rb : i64r (b : Int) := ⟨by omega, by omega⟩
                have rc : i64r ((at_ b : Nat) : Int) := hin
                refine Rg.sl1 (A := RT.fo) (hn := by decide) (M := M1) Try.underlying26 I30 (by decide) rfl rfl (sD18.lt hM1) (V_fo rb rc) (.inl rfl) (fun u6 w6 hu6 s6 => ?_)
                have hal := hai.f
                have hlo : (outO out).length = out.length := by unfold outO; simp
                have ho6 := (ho.step0 sD18).step0 s6
                have hoa6 := (hoa.step0 sD18).step0 s6
                have S6 := (S2.trans0 sD18).trans0 s6
                have hz6 := S6.size
                refine Rg.append (M := M1) (base := w0.heap.size) Try.underlying26 I30 rfl rfl rfl rfl (ho6) hu6 (Le.refl _ _) (by rw [hlo]; simp; omega) (by rw [hlo]; simp; omega) (by omega) (fun vo7 M7 w7 ho7 s7 => ?_)
                have hap : ∀ k, vo.ownBlock = some k → k ≠ g := fun k hk e => BT.ne (ho6.bt k hk) (hoa6.bt g rfl) (by decide) e
                have hoa7 := hoa6.step s7 (fun k hk hk2 => hap k hk2 (Option.some.inj hk).symm)
                have S7 := S6.transNew s7 (fun b hb => (ho6.base b hb).1)
                have hM7 := s7.lt (s6.lt (sD18.lt hM1))
                have hgv : ∀ k, vo7.ownBlock = some k → k ≠ g := fun k hk e => BT.ne (ho7.bt k hk) (hoa7.bt g rfl) (by decide) e
                --@M M7
                refine Rg.assign rfl rfl ?_
                refine Rg.nil ?_
                refine T.region ?_ -- region 23
                refine Rg.move rfl rfl ?_
                refine Rg.move rfl rfl ?_
                refine Rg.idxo (size := 1) Try.underlying23 I3 rfl rfl rfl (by omega) (q := b) (by omega) ?_
                refine Rg.loadi64 (M := fun b => M7 b ∧ b ≠ g) Try.underlying3 rfl rfl (hoa7.ptri (atRow_get (show b < ls.length by omega))) (Le.refl _ _) (fun hin7 => ?_)
                refine Rg.iadd rfl rfl rfl (by omega) ?_
                refine Rg.idxo (size := 1) Try.underlying23 I3 rfl rfl rfl (by omega) (q := b) (by omega) ?_
                refine Rg.storei (M := M7) I3 rfl rfl hoa7 (by rw [atRow_len]; omega) ⟨by show (-9223372036854775808 : Int) ≤ _; omega, by show _ ≤ (9223372036854775807 : Int); omega⟩ (fun w8 hoa8 s8 => ?_)
                rw [atRow_up (by omega)] at hoa8
                have ho8 := ho7.step s8 (fun k hk e => hgv k hk e)
                refine Rg.nil ?_
                refine ⟨rfl, (up1 at_ b, out ++ [(n2, (b : Int), ((at_ b : Nat) : Int))], n2, vo7), (.cons rfl (.cons rfl (.cons rfl (.cons rfl .nil)))), ?_, ?_⟩
                · refine ⟨hai.step hup ht2 (fun j m hj => hmin j hj.lt.1 m hj) c19, M7, s8.lt hM7, hoa8, ?_, S7.transNew s8 (fun b hb => by have hb : b = g := hb; have := (hoa7.base g rfl).1; omega)⟩
                  unfold outO at ho8 ⊢
                  rw [List.map_append]; exact ho8
                · show rem ls (up1 at_ b) < rem ls at_
                  have h1 := (hai.step hup ht2 (fun j m hj => hmin j hj.lt.1 m hj) c19).f
                  have h2 := hai.f
                  rw [List.length_append, List.length_singleton] at h1
                  omega

end Go.K

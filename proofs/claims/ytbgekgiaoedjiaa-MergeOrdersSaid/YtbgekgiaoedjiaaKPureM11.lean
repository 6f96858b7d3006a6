/- The walks of Go functions, operation by operation. -/
import Derived.Test.YtbgekgiaoedjiaaKHp
import Derived.Test.YtbgekgiaoedjiaaKPure04
import Derived.Test.YtbgekgiaoedjiaaKOrd
import Derived.Test.YtbgekgiaoedjiaaProg
namespace Go.K
open Go.Proofs
set_option linter.unusedVariables false
set_option linter.unusedSimpArgs false
set_option maxRecDepth 10000

theorem Tr.cases {ls : List (List Int)} {i k : Nat} {n : Int} (h : Tr ls i k n) : ∃ l, ls[i]? = some l ∧ l[k]? = some n := h
theorem lives_up : Up [[1, 4], [2]] := by intro l hl; simp only [List.mem_cons, List.not_mem_nil, or_false] at hl; rcases hl with rfl | rfl <;> decide
theorem lives_res : ResO [[1, 4], [2]] (some [((1 : Int), (0 : Int), (0 : Int)), (2, 1, 0), (4, 0, 1)]) := by
  refine ⟨by decide, fun o ho => ?_, fun i k n ⟨l, h1, h2⟩ => ?_⟩
  · simp only [List.mem_cons, List.not_mem_nil, or_false] at ho
    rcases ho with rfl | rfl | rfl
    · exact ⟨0, 0, rfl, _, rfl, rfl⟩
    · exact ⟨1, 0, rfl, _, rfl, rfl⟩
    · exact ⟨0, 1, rfl, _, rfl, rfl⟩
  · rcases i with _ | _ | i
    · simp only [List.getElem?_cons_zero, Option.some.injEq] at h1; subst h1
      rcases k with _ | _ | k
      · simp at h2; subst h2; decide
      · simp at h2; subst h2; decide
      · simp at h2
    · simp only [Nat.zero_add, List.getElem?_cons_succ, List.getElem?_cons_zero, Option.some.injEq] at h1; subst h1
      rcases k with _ | k
      · simp at h2; subst h2; decide
      · simp at h2
    · simp at h1
/-- the lists that a law hands on -/
def ownL (l : List (List Int)) : List (List Int) := (l.take 5).map (·.take 10)
def goodLL (l : List (List Int)) : List (List Int) := (l.take 5).map (good · 10)
theorem tot_le {ls : List (List Int)} (h5 : ls.length ≤ 5) (h10 : ∀ l ∈ ls, l.length ≤ 10) : tot ls ≤ 50 := by
  have key : ∀ n, n ≤ ls.length → sumF (lenAt ls) n ≤ 10 * n := by
    intro n
    induction n with
    | zero => intro _; exact Nat.le_refl _
    | succ n ih =>
      intro hn
      have h1 := ih (by omega)
      have h2 : lenAt ls n ≤ 10 := by
        unfold lenAt; rw [List.getD_eq_getElem?_getD, List.getElem?_eq_getElem (by omega)]; exact h10 _ (List.getElem_mem _)
      unfold sumF; omega
  have := key ls.length (Nat.le_refl _)
  unfold tot; omega
/-- a walk's answer, of which only one is -/
def OrdR (ls : List (List Int)) (M : PSet) (w : World) (vo : Value) (e : Int) : Prop := (¬ Up ls ∧ e = 1 ∧ vo = .slice none 0 0) ∨ (Up ls ∧ ∃ r, ResO ls r ∧ ((r = none ∧ e = 5 ∧ vo = .slice none 0 0) ∨ ∃ out, r = some out ∧ e = 0 ∧ ((RT.fo).sl).V M w (outO out) vo))
theorem OrdR.both {ls : List (List Int)} {M M' : PSet} {w w' : World} {va vb : Value} {e f : Int} (ha : OrdR ls M w va e) (hb : OrdR ls M' w' vb f) : e = f ∧ (-9223372036854775808 ≤ e ∧ e ≤ 9223372036854775807) ∧ ∃ o : List Fo, ((RT.fo).sl).V M w o va ∧ ((RT.fo).sl).V M' w' o vb ∧ o.Nodup := by
  rcases ha with ⟨h1, rfl, rfl⟩ | ⟨h1, r, h2, h3⟩ <;> rcases hb with ⟨g1, rfl, rfl⟩ | ⟨g1, r', g2, g3⟩
  · exact ⟨rfl, by decide, [], V_nil, V_nil, List.nodup_nil⟩
  · exact absurd g1 h1
  · exact absurd h1 g1
  · obtain rfl := h2.un g2
    rcases h3 with ⟨rfl, rfl, rfl⟩ | ⟨out, rfl, rfl, h4⟩ <;> rcases g3 with ⟨g5, rfl, rfl⟩ | ⟨out', g5, rfl, g4⟩
    · exact ⟨rfl, by decide, [], V_nil, V_nil, List.nodup_nil⟩
    · cases g5
    · cases g5
    · cases g5
      have hnd : (outO out).Nodup := by
        unfold outO
        refine List.pairwise_map.2 (h2.1.imp_of_mem fun {a b} ha hb hab e => ?_)
        obtain ⟨i, k, e1, e2⟩ := h2.2.1 a ha; obtain ⟨i', k', e3, e4⟩ := h2.2.1 b hb
        have h5 : ((i : Int), (k : Int)) = ((i' : Int), (k' : Int)) := by rw [e1, e3] at e; exact e
        simp only [Prod.mk.injEq] at h5
        obtain rfl : i = i' := by omega
        obtain rfl : k = k' := by omega
        have := e2.un e4; omega
      exact ⟨rfl, by decide, outO out, h4, g4, hnd⟩
theorem lists_ok {l ls : List (List Int)} {q : Nat} (h : [ownL l, goodLL l][q]? = some ls) : ls.length ≤ 5 ∧ ∀ x ∈ ls, x.length ≤ 10 := by
  have key : ls = ownL l ∨ ls = goodLL l := by
    rcases q with _ | _ | q
    · simp at h; exact .inl h.symm
    · simp at h; exact .inr h.symm
    · simp at h
  rcases key with rfl | rfl
  · refine ⟨by unfold ownL; rw [List.length_map, List.length_take]; omega, fun x hx => ?_⟩
    unfold ownL at hx
    obtain ⟨y, _, rfl⟩ := List.mem_map.1 hx
    rw [List.length_take]; omega
  · refine ⟨by unfold goodLL; rw [List.length_map, List.length_take]; omega, fun x hx => ?_⟩
    unfold goodLL at hx
    obtain ⟨y, _, rfl⟩ := List.mem_map.1 hx
    have : ∀ (l : List Int) (k : Int), (goodL k l).length = l.length := by
      intro l; induction l with
      | nil => intro k; rfl
      | cons a l ih => intro k; simp only [goodL, List.length_cons, ih]
    unfold good; rw [this, List.length_take]; omega
end Go.K

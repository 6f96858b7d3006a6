/- What two lists of postings have in common: in plain Lean. No program is named here. -/
import Derived.Test.YtohfoenhmkfjkaaGreatDoorKCur
namespace Go.K
set_option linter.unusedVariables false
set_option linter.unusedSimpArgs false
/-- postings that the code's numbers hold -/
structure OkL (l : List Po) : Prop where
  may : mayPo (-1) l = true
  ps : ∀ p ∈ l, p.2.length ≤ 1099511627776
  bl : (putPo (-1) l).length ≤ 1099511627776
  ll : l.length ≤ 1099511627776
  tot : totPo l ≤ 4611686018427387904
theorem ok_good (l : List Po) {n : Nat} (hn : n ≤ 1000) : OkL (goodPo (-1) (l.take n)) ∧ (goodPo (-1) (l.take n)).length ≤ n ∧ ∀ p ∈ goodPo (-1) (l.take n), p.2.length ≤ 5 := by
  have h1 := goodPo_may (l.take n) (-1) (by decide) (by rw [List.length_take]; omega)
  have h2 := goodPo_len (l.take n) (-1)
  rw [List.length_take] at h2
  have h3 := goodPo_small (l.take n) (-1)
  have h4 := putPo_small _ (-1) (by decide) h1 h3
  have h5 := totPo_small _ h3
  exact ⟨⟨h1, fun p hp => by have := h3 p hp; omega, by omega, by omega, by omega⟩, by omega, h3⟩

def hasD (m : List Po) (d : Int) : Bool := (m.map Prod.fst).contains d
def comm (l m : List Po) (n : Nat) : List Int := ((l.take n).map Prod.fst).filter (hasD m)
theorem comm_succ {l m : List Po} {n : Nat} {p : Po} (h : l[n]? = some p) : comm l m (n + 1) = comm l m n ++ if hasD m p.1 then [p.1] else [] := by
  unfold comm
  rw [take_snoc_map h, List.filter_append]
  by_cases hd : hasD m p.1 = true
  · rw [if_pos hd, List.filter_cons_of_pos hd]; rfl
  · rw [if_neg hd, List.filter_cons_of_neg hd]; rfl
theorem comm_len (l m : List Po) (n : Nat) : (comm l m n).length ≤ n := by
  unfold comm
  refine Nat.le_trans (List.length_filter_le _ _) ?_
  rw [List.length_map, List.length_take]; omega
theorem comm_skip {l m : List Po} {a : Nat} : ∀ (b : Nat), a ≤ b → b ≤ l.length → (∀ t p, a ≤ t → t < b → l[t]? = some p → hasD m p.1 = false) → comm l m b = comm l m a
  | b, h1, h2, h3 => by
    rcases Nat.lt_or_ge a b with h | h
    · obtain ⟨c, rfl⟩ : ∃ c, b = c + 1 := ⟨b - 1, by omega⟩
      have hx : l[c]? = some l[c] := List.getElem?_eq_getElem (by omega)
      have h4 := h3 c _ (by omega) (by omega) hx
      rw [comm_succ hx, h4, comm_skip c (by omega) (by omega) (fun t p h5 h6 h7 => h3 t p h5 (by omega) h7)]; simp
    · rw [show b = a from by omega]
theorem hasD_iff {m : List Po} {d : Int} : hasD m d = true ↔ ∃ (t : Nat) (p : Po), m[t]? = some p ∧ p.1 = d := by
  unfold hasD
  rw [List.contains_iff_mem, List.mem_map]
  constructor
  · rintro ⟨p, hp, rfl⟩
    obtain ⟨t, ht⟩ := List.mem_iff_getElem?.1 hp
    exact ⟨t, p, ht, rfl⟩
  · rintro ⟨t, p, ht, rfl⟩
    exact ⟨p, List.mem_of_getElem? ht, rfl⟩
theorem hasD_idx {m : List Po} (hm : mayPo (-1) m = true) {d : Int} (hd : d < 2147483648) : hasD m d = decide (docAt m (idx m d : Nat) = d) := by
  rw [Bool.eq_iff_iff, decide_eq_true_iff, hasD_iff]
  constructor
  · rintro ⟨t, p, ht, rfl⟩
    have h1 := idx_min ht (Int.le_refl _)
    have hl := (List.getElem?_eq_some_iff.1 ht).1
    obtain ⟨q, hx⟩ : ∃ q, m[idx m p.1]? = some q := ⟨_, List.getElem?_eq_getElem (by omega)⟩
    have h2 := idx_ge hx
    rcases Nat.lt_or_ge (idx m p.1) t with h | h
    · have := docs_lt hm hx ht h; omega
    · have e : idx m p.1 = t := by omega
      rw [e]
      exact docAt_get (d := p.1) (ps := p.2) ht
  · intro h
    rcases docAt_cases m (idx m d : Nat) with ⟨h0, _⟩ | ⟨j, e, ps, hj, hx, h1, _⟩ | ⟨h0, h1, _⟩
    · omega
    · exact ⟨j, _, hx, by simp only; omega⟩
    · omega
theorem advI_idx {m : List Po} (hm : mayPo (-1) m = true) {j x : Int} (hj : -1 ≤ j ∧ j ≤ m.length) (hx : 0 ≤ x ∧ x < 2147483648) (hlt : ∀ (t : Nat) p, (t : Int) < j → m[t]? = some p → p.1 < x) : advI m j x = idx m x := by
  unfold advI
  split
  · rename_i h
    rcases docAt_cases m j with ⟨h0, h1, _⟩ | ⟨t, d, ps, rfl, ht, h1, _⟩ | ⟨h0, h1, _⟩
    · omega
    · rw [idx_eq (i := t) (fun a ha p hp => hlt a p (by omega) hp) (fun p hp => by rw [ht] at hp; cases hp; simp only; omega) (by omega)]
    · rw [idx_eq (i := m.length) (fun a ha p hp => hlt a p (by omega) hp) (fun p hp => by simp at hp) (Nat.le_refl _)]; omega
  · rfl
theorem docAt_idx {m : List Po} {x : Int} (hx : x < 2147483648) : x ≤ docAt m (idx m x : Nat) := by
  rcases docAt_cases m (idx m x : Nat) with ⟨h0, h1, _⟩ | ⟨t, d, ps, he, ht, h1, _⟩ | ⟨h0, h1, _⟩
  · omega
  · obtain rfl : idx m x = t := by omega
    have := idx_ge ht; simp only at this; omega
  · omega
/-- the next document of m's that is not ahead of x, and x's own place in l -/
theorem comm_adv {l m : List Po} (hl : mayPo (-1) l = true) (hm : mayPo (-1) m = true) {i : Nat} {d : Int} {ps : List Int} (hx : l[i]? = some (d, ps)) (hy : docAt m (idx m d : Nat) ≠ d) :
    i < idx l (docAt m (idx m d : Nat)) ∧ comm l m (idx l (docAt m (idx m d : Nat))) = comm l m i := by
  have hd := doc_rng hl hx
  have h1 := docAt_idx (m := m) hd.2
  have hi : i < idx l (docAt m (idx m d : Nat)) := by
    rcases Nat.lt_or_ge i (idx l (docAt m (idx m d : Nat))) with h | h
    · exact h
    · exfalso
      have hil := (List.getElem?_eq_some_iff.1 hx).1
      obtain ⟨q, hz⟩ : ∃ q, l[idx l (docAt m (idx m d : Nat))]? = some q := ⟨_, List.getElem?_eq_getElem (by omega)⟩
      have h2 := idx_ge hz
      rcases Nat.lt_or_ge (idx l (docAt m (idx m d : Nat))) i with h3 | h3
      · have := docs_lt hl hz hx h3; simp only at this; omega
      · have e : idx l (docAt m (idx m d : Nat)) = i := by omega
        rw [e, hx] at hz; cases hz; simp only at h2; omega
  refine ⟨hi, comm_skip _ (by omega) (idx_le _ _) (fun t p h2 h3 hp => ?_)⟩
  have h4 := idx_lt h3 hp
  have hpr := doc_rng hl (i := t) (d := p.1) (ps := p.2) hp
  have hdp : d ≤ p.1 := by
    rcases Nat.lt_or_ge i t with h | h
    · have := docs_lt hl hx hp h; simp only at this; omega
    · rw [show t = i from by omega, hx] at hp; cases hp; simp
  rw [hasD_idx hm hpr.2, decide_eq_false]
  intro h5
  have he : idx m p.1 = idx m d := by
    refine idx_eq (fun a ha q hq => ?_) (fun q hq => ?_) (idx_le _ _)
    · have := idx_lt ha hq; omega
    · have h7 := docAt_get (d := q.1) (ps := q.2) hq
      omega
  rw [he] at h5; omega
end Go.K

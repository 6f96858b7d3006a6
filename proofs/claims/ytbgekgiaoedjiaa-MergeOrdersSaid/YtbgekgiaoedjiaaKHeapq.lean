/- A binary heap in a list, in plain Lean. No program is named here. -/
import Derived.KernelRfl
namespace Go.K
set_option linter.unusedVariables false
set_option linter.unusedSimpArgs false
abbrev Hd := Int × Int × Int
def hn (xs : List Hd) (i : Nat) : Int := (xs.getD i (0, 0, 0)).1
def swp (xs : List Hd) (i j : Nat) : List Hd := (xs.set i (xs.getD j (0, 0, 0))).set j (xs.getD i (0, 0, 0))
def IsHp (xs : List Hd) : Prop := ∀ k, 0 < k → k < xs.length → hn xs ((k - 1) / 2) ≤ hn xs k
theorem swp_len (xs : List Hd) (i j : Nat) : (swp xs i j).length = xs.length := by unfold swp; simp
theorem swp_getD {xs : List Hd} {i j : Nat} (hi : i < xs.length) (hj : j < xs.length) (k : Nat) : (swp xs i j).getD k (0, 0, 0) = if k = j then xs.getD i (0, 0, 0) else if k = i then xs.getD j (0, 0, 0) else xs.getD k (0, 0, 0) := by
  unfold swp
  simp only [List.getD_eq_getElem?_getD, List.getElem?_set, List.length_set]
  by_cases h1 : j = k
  · subst h1; rw [if_pos rfl, if_pos hj, if_pos rfl]; rfl
  · rw [if_neg h1, if_neg (show ¬ k = j from fun h => h1 h.symm)]
    by_cases h2 : i = k
    · subst h2; rw [if_pos rfl, if_pos rfl, if_pos hi]; rfl
    · rw [if_neg h2, if_neg (show ¬ k = i from fun h => h2 h.symm)]
theorem swp_hn {xs : List Hd} {i j : Nat} (hi : i < xs.length) (hj : j < xs.length) (k : Nat) : hn (swp xs i j) k = if k = j then hn xs i else if k = i then hn xs j else hn xs k := by
  unfold hn; rw [swp_getD hi hj]; split
  · rfl
  · split <;> rfl
theorem swp_perm {xs : List Hd} {i j : Nat} (hi : i < xs.length) (hj : j < xs.length) : (swp xs i j).Perm xs := by
  have := List.set_set_perm hi hj
  unfold swp
  rw [List.getD_eq_getElem?_getD, List.getD_eq_getElem?_getD, List.getElem?_eq_getElem hi, List.getElem?_eq_getElem hj]
  exact this
structure UpI (xs : List Hd) (j : Nat) : Prop where
  a : ∀ k, 0 < k → k < xs.length → k ≠ j → hn xs ((k - 1) / 2) ≤ hn xs k
  b : 0 < j → ∀ k, 0 < k → k < xs.length → (k - 1) / 2 = j → hn xs ((j - 1) / 2) ≤ hn xs k
theorem UpI.done {xs : List Hd} {j : Nat} (h : UpI xs j) (hd : j = 0 ∨ hn xs ((j - 1) / 2) ≤ hn xs j) : IsHp xs := fun k h0 hk => by
  by_cases e : k = j
  · subst e; rcases hd with hd | hd
    · omega
    · exact hd
  · exact h.a k h0 hk e
theorem UpI.push {xs : List Hd} (h : IsHp xs) (x : Hd) : UpI (xs ++ [x]) xs.length := by
  have key : ∀ k, k < xs.length → hn (xs ++ [x]) k = hn xs k := fun k hk => by
    unfold hn; rw [List.getD_eq_getElem?_getD, List.getD_eq_getElem?_getD, List.getElem?_append_left hk]
  refine ⟨fun k h0 hk hne => ?_, fun h0 k hk0 hk he => ?_⟩
  · rw [List.length_append, List.length_singleton] at hk
    rw [key k (by omega), key _ (by omega)]; exact h k h0 (by omega)
  · rw [List.length_append, List.length_singleton] at hk; omega
theorem UpI.swap {xs : List Hd} {j : Nat} (h : UpI xs j) (hj : j < xs.length) (h0 : 0 < j) (hl : hn xs j < hn xs ((j - 1) / 2)) : UpI (swp xs ((j - 1) / 2) j) ((j - 1) / 2) := by
  obtain ⟨i, hi⟩ : ∃ i, i = (j - 1) / 2 := ⟨_, rfl⟩
  rw [← hi] at hl ⊢
  have hij : i < j := by omega
  have hs := fun k => swp_hn (xs := xs) (i := i) (j := j) (by omega) hj k
  refine ⟨fun k hk0 hk hne => ?_, fun hi0 k hk0 hk he => ?_⟩
  · rw [swp_len] at hk
    rw [hs, hs]
    by_cases e1 : k = j
    · subst e1
      rw [if_pos rfl, ← hi, if_neg (by omega), if_pos rfl]; omega
    · rw [if_neg e1, if_neg hne]
      by_cases e2 : (k - 1) / 2 = j
      · rw [if_pos e2]; have := h.b h0 k hk0 hk e2; rw [← hi] at this; exact this
      · rw [if_neg e2]
        have h1 := h.a k hk0 hk e1
        by_cases e3 : (k - 1) / 2 = i
        · rw [if_pos e3]; rw [e3] at h1; omega
        · rw [if_neg e3]; exact h1
  · rw [swp_len] at hk
    rw [hs, hs, if_neg (by omega), if_neg (by omega)]
    have h2 := h.a i hi0 (by omega) (by omega)
    by_cases e1 : k = j
    · rw [if_pos e1]; exact h2
    · rw [if_neg e1, if_neg (by omega)]
      have h1 := h.a k hk0 hk e1
      rw [he] at h1; omega
structure DnI (xs : List Hd) (n i : Nat) : Prop where
  a : ∀ k, 0 < k → k < n → (k - 1) / 2 ≠ i → hn xs ((k - 1) / 2) ≤ hn xs k
  b : 0 < i → ∀ k, 0 < k → k < n → (k - 1) / 2 = i → hn xs ((i - 1) / 2) ≤ hn xs k
theorem DnI.leaf {xs : List Hd} {n i : Nat} (h : DnI xs n i) (hl : n ≤ 2 * i + 1) : ∀ k, 0 < k → k < n → hn xs ((k - 1) / 2) ≤ hn xs k := fun k h0 hk => h.a k h0 hk (by omega)
theorem DnI.stay {xs : List Hd} {n i j : Nat} (h : DnI xs n i) (hj : j = 2 * i + 1 ∨ j = 2 * i + 2) (hm : ∀ k, (k = 2 * i + 1 ∨ k = 2 * i + 2) → k < n → hn xs j ≤ hn xs k) (hs : hn xs i ≤ hn xs j) : ∀ k, 0 < k → k < n → hn xs ((k - 1) / 2) ≤ hn xs k := fun k h0 hk => by
  by_cases e : (k - 1) / 2 = i
  · rw [e]; have := hm k (by omega) hk; omega
  · exact h.a k h0 hk e
theorem DnI.swap {xs : List Hd} {n i j : Nat} (h : DnI xs n i) (hn' : n ≤ xs.length) (hjn : j < n) (hj : j = 2 * i + 1 ∨ j = 2 * i + 2) (hm : ∀ k, (k = 2 * i + 1 ∨ k = 2 * i + 2) → k < n → hn xs j ≤ hn xs k) (hl : hn xs j < hn xs i) : DnI (swp xs i j) n j := by
  have hs := fun k => swp_hn (xs := xs) (i := i) (j := j) (by omega) (by omega) k
  refine ⟨fun k hk0 hk hne => ?_, fun _ k hk0 hk he => ?_⟩
  · rw [hs, hs, if_neg hne]
    by_cases e1 : (k - 1) / 2 = i
    · rw [if_pos e1]
      by_cases e2 : k = j
      · rw [if_pos e2]; omega
      · rw [if_neg e2, if_neg (by omega)]; exact hm k (by omega) hk
    · rw [if_neg e1, if_neg (by omega)]
      by_cases e2 : k = i
      · rw [if_pos e2, e2]; rw [e2] at hk0; exact h.b hk0 j (by omega) hjn (by omega)
      · rw [if_neg e2]; exact h.a k hk0 hk e1
  · rw [hs, hs, if_neg (by omega), if_pos (by omega), if_neg (by omega), if_neg (by omega)]
    have h1 := h.a k hk0 hk (by omega)
    rw [he] at h1; exact h1
theorem DnI.pop {xs : List Hd} (h : IsHp xs) (hl : 0 < xs.length) : DnI (swp xs 0 (xs.length - 1)) (xs.length - 1) 0 := by
  have hs := fun k => swp_hn (xs := xs) (i := 0) (j := xs.length - 1) hl (by omega) k
  refine ⟨fun k hk0 hk hne => ?_, fun h0 => by omega⟩
  rw [hs, hs, if_neg (by omega), if_neg (by omega), if_neg (by omega), if_neg (by omega)]
  exact h k hk0 (by omega)
theorem IsHp.min {xs : List Hd} (h : IsHp xs) : ∀ k, k < xs.length → hn xs 0 ≤ hn xs k
  | 0, _ => Int.le_refl _
  | k + 1, hk => Int.le_trans (IsHp.min h (k / 2) (by omega)) (by have := h (k + 1) (by omega) hk; rwa [Nat.add_sub_cancel] at this)
termination_by k _ => k
theorem IsHp.take {xs : List Hd} {n : Nat} (hn' : n ≤ xs.length) (h : ∀ k, 0 < k → k < n → hn xs ((k - 1) / 2) ≤ hn xs k) : IsHp (xs.take n) := fun k h0 hk => by
  rw [List.length_take] at hk
  have key : ∀ t, t < n → hn (xs.take n) t = hn xs t := fun t ht => by
    unfold hn; rw [List.getD_eq_getElem?_getD, List.getD_eq_getElem?_getD, List.getElem?_take, if_pos ht]
  rw [key _ (by omega), key _ (by omega)]
  exact h k h0 (by omega)
theorem hn_mem {xs : List Hd} {x : Hd} (hx : x ∈ xs) : ∃ k, k < xs.length ∧ xs.getD k (0, 0, 0) = x ∧ hn xs k = x.1 := by
  obtain ⟨k, hk⟩ := List.mem_iff_getElem?.1 hx
  have h1 := (List.getElem?_eq_some_iff.1 hk).1
  refine ⟨k, h1, ?_, ?_⟩
  · rw [List.getD_eq_getElem?_getD, hk]; rfl
  · unfold hn; rw [List.getD_eq_getElem?_getD, hk]; rfl
/-- what is popped off, and what is left -/
theorem pop_end {xs ys : List Hd} (hl : 0 < xs.length) (hp : ys.Perm xs) (hlast : ys.getD (xs.length - 1) (0, 0, 0) = xs.getD 0 (0, 0, 0)) : ∃ x, ys.getD (xs.length - 1) (0, 0, 0) = x ∧ (x :: ys.take (xs.length - 1)).Perm xs := by
  refine ⟨_, rfl, ?_⟩
  have hyl := hp.length_eq
  have h1 : ys = ys.take (xs.length - 1) ++ [ys.getD (xs.length - 1) (0, 0, 0)] := by
    conv => lhs; rw [← List.take_append_drop (xs.length - 1) ys]
    congr 1
    rw [List.drop_eq_getElem_cons (by omega), List.drop_eq_nil_of_le (by omega), List.getD_eq_getElem?_getD, List.getElem?_eq_getElem (by omega)]; rfl
  have h2 : (ys.getD (xs.length - 1) (0, 0, 0) :: ys.take (xs.length - 1)).Perm (ys.take (xs.length - 1) ++ [ys.getD (xs.length - 1) (0, 0, 0)]) := (List.perm_append_comm (l₁ := [_]))
  rw [← h1] at h2
  exact h2.trans hp
end Go.K

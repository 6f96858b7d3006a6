/- Cursors: what a cursor's block holds, and where it stands; in plain Lean. No program is named here. -/
import Derived.Test.YtohfoenhmkfjkaaGreatDoorKPtr
namespace Go.K
set_option linter.unusedVariables false
set_option linter.unusedSimpArgs false
/-- the first posting that is not ahead of a document -/
def idx : List Po → Int → Nat
  | [], _ => 0
  | p :: l, to => if p.1 < to then idx l to + 1 else 0
theorem idx_le : ∀ (l : List Po) (to : Int), idx l to ≤ l.length
  | [], _ => Nat.le_refl _
  | p :: l, to => by
    have := idx_le l to
    simp only [idx, List.length_cons]; split <;> omega
theorem idx_lt : ∀ {l : List Po} {to : Int} {j : Nat} {p : Po}, j < idx l to → l[j]? = some p → p.1 < to
  | [], _, _, _, h, _ => by simp [idx] at h
  | q :: l, to, j, p, h, hp => by
    simp only [idx] at h
    split at h
    · cases j with
      | zero => simp at hp; subst hp; assumption
      | succ j => exact idx_lt (l := l) (j := j) (by omega) (by simpa using hp)
    · omega
theorem idx_ge : ∀ {l : List Po} {to : Int} {p : Po}, l[idx l to]? = some p → to ≤ p.1
  | [], _, _, h => by simp [idx] at h
  | q :: l, to, p, h => by
    simp only [idx] at h
    split at h
    · exact idx_ge (by simpa using h)
    · simp at h; subst h; omega
theorem idx_min : ∀ {l : List Po} {to : Int} {e : Nat} {p : Po}, l[e]? = some p → to ≤ p.1 → idx l to ≤ e
  | [], _, _, _, h, _ => by simp at h
  | q :: l, to, e, p, h, hp => by
    simp only [idx]
    split
    · cases e with
      | zero => simp at h; subst h; omega
      | succ e => have := idx_min (l := l) (e := e) (by simpa using h) hp; omega
    · omega
theorem idx_eq {l : List Po} {to : Int} {i : Nat} (h1 : ∀ j, j < i → ∀ p, l[j]? = some p → p.1 < to) (h2 : ∀ p, l[i]? = some p → to ≤ p.1) (h3 : i ≤ l.length) : idx l to = i := by
  rcases Nat.lt_trichotomy (idx l to) i with h | h | h
  · have hx : l[idx l to]? = some l[idx l to] := List.getElem?_eq_getElem (by omega)
    have := idx_ge hx; have := h1 _ h _ hx; omega
  · exact h
  · have := idx_le l to
    have hx : l[i]? = some l[i] := List.getElem?_eq_getElem (by omega)
    have := idx_lt h hx; have := h2 _ hx; omega

def docAt (l : List Po) (i : Int) : Int := if i < 0 then -1 else match l[i.toNat]? with | some p => p.1 | none => 2147483648
def placesAt (l : List Po) (i : Int) : List Int := if i < 0 then [] else match l[i.toNat]? with | some p => p.2 | none => []
def leftAt (l : List Po) (i : Int) : List Po := if i < 0 then [] else (l.drop i.toNat).take (8 - i.toNat % 8)
def advI (l : List Po) (i to : Int) : Int := if to ≤ docAt l i then i else idx l to

theorem doc_rng {l : List Po} {i : Nat} {d : Int} {ps : List Int} (hm : mayPo (-1) l = true) (h : l[i]? = some (d, ps)) : 0 ≤ d ∧ d < 2147483648 := by
  obtain ⟨f1, f2, f3, f4, f5, f6⟩ := may_at hm h; omega
theorem docAt_get {l : List Po} {i : Nat} {d : Int} {ps : List Int} (h : l[i]? = some (d, ps)) : docAt l (i : Int) = d := by
  unfold docAt; rw [if_neg (by omega), Int.toNat_natCast, h]
theorem docAt_neg {l : List Po} {i : Int} (h : i < 0) : docAt l i = -1 := by unfold docAt; rw [if_pos h]
theorem docAt_end {l : List Po} {i : Int} (h : (l.length : Int) ≤ i) : docAt l i = 2147483648 := by
  unfold docAt; rw [if_neg (by omega), List.getElem?_eq_none (by omega)]
theorem docAt_cases (l : List Po) (i : Int) : (i < 0 ∧ docAt l i = -1 ∧ placesAt l i = []) ∨ (∃ j : Nat, ∃ d ps, i = j ∧ l[j]? = some (d, ps) ∧ docAt l i = d ∧ placesAt l i = ps) ∨ ((l.length : Int) ≤ i ∧ docAt l i = 2147483648 ∧ placesAt l i = []) := by
  by_cases h0 : i < 0
  · exact .inl ⟨h0, docAt_neg h0, by unfold placesAt; rw [if_pos h0]⟩
  · by_cases h1 : (l.length : Int) ≤ i
    · exact .inr (.inr ⟨h1, docAt_end h1, by unfold placesAt; rw [if_neg h0, List.getElem?_eq_none (by omega)]⟩)
    · obtain ⟨j, rfl⟩ : ∃ j : Nat, i = j := ⟨i.toNat, by omega⟩
      obtain ⟨⟨d, ps⟩, hx⟩ : ∃ x, l[j]? = some x := ⟨_, List.getElem?_eq_getElem (by omega)⟩
      exact .inr (.inl ⟨j, d, ps, rfl, hx, docAt_get hx, by unfold placesAt; rw [if_neg h0, Int.toNat_natCast, hx]⟩)
theorem docAt_rng {l : List Po} (hm : mayPo (-1) l = true) (i : Int) : -1 ≤ docAt l i ∧ docAt l i ≤ 2147483648 := by
  rcases docAt_cases l i with ⟨_, h, _⟩ | ⟨j, d, ps, rfl, hx, h, _⟩ | ⟨_, h, _⟩
  · omega
  · have := doc_rng hm hx; omega
  · omega
/-- it stands at a posting -/
theorem docAt_in {l : List Po} (hm : mayPo (-1) l = true) {i : Int} : (0 ≤ docAt l i ∧ docAt l i < 2147483648) ↔ 0 ≤ i ∧ i < l.length := by
  rcases docAt_cases l i with ⟨h0, h, _⟩ | ⟨j, d, ps, rfl, hx, h, _⟩ | ⟨h0, h, _⟩
  · omega
  · have := doc_rng hm hx
    have := (List.getElem?_eq_some_iff.1 hx).1
    omega
  · omega
theorem lastPo_at {g : List Po} {i : Nat} {d : Int} {ps : List Int} (h : g[i]? = some (d, ps)) (last : Int) : lastPo last (g.take (i + 1)) = d := by
  obtain ⟨h1, h2⟩ := List.getElem?_eq_some_iff.1 h
  rw [List.take_succ_eq_append_getElem h1, h2, lastPo_append]; rfl
theorem last_lt {l : List Po} (hm : mayPo (-1) l = true) {t s : Nat} {p : Po} (hp : l[t]? = some p) (hts : t < s) : p.1 ≤ lastPo (-1) (l.take s) := by
  obtain ⟨d, ps⟩ := p
  rw [← lastPo_at hp (-1)]
  exact lastPo_mono l (-1) (t + 1) s hm (by decide) hts
theorem docs_lt {l : List Po} (hm : mayPo (-1) l = true) {t s : Nat} {p q : Po} (hp : l[t]? = some p) (hq : l[s]? = some q) (hts : t < s) : p.1 < q.1 := by
  obtain ⟨e, qs⟩ := q
  have h1 := last_lt hm hp hts
  have h2 := (may_at hm hq).1
  omega
theorem adv_block {l lf : List Po} (hm : mayPo (-1) l = true) {s k : Nat} {to : Int} (h1 : 8 * k ≤ s) (h2 : s < 8 * k + 8) (hs : s < l.length) (hlo : lastPo (-1) (l.take s) < to) (hhi : to ≤ lastPo (-1) (l.take (8 * k + 8)))
    (hlf : lf = (l.drop s).take (8 * k + 8 - s)) : idx l to = s + idx lf to ∧ idx lf to < lf.length ∧ idx l to < l.length ∧ idx l to / 8 = k ∧ lf.drop (idx lf to) = leftAt l (idx l to : Nat) := by
  have hj1 : s ≤ idx l to := by
    rcases Nat.lt_or_ge (idx l to) s with h | h
    · have hx : l[idx l to]? = some l[idx l to] := List.getElem?_eq_getElem (by omega)
      have := idx_ge hx
      have := last_lt hm hx h; omega
    · exact h
  obtain ⟨⟨d, ps⟩, he⟩ : ∃ x, l[min (8 * k + 8) l.length - 1]? = some x := ⟨_, List.getElem?_eq_getElem (by omega)⟩
  have hde : lastPo (-1) (l.take (8 * k + 8)) = d := by
    rw [← lastPo_at he (-1), show l.take (8 * k + 8) = l.take (min (8 * k + 8) l.length - 1 + 1) from by rw [List.take_eq_take_iff]; omega]
  have hj2 := idx_min he (to := to) (by simp only; omega)
  have hll : lf.length = min (8 * k + 8 - s) (l.length - s) := by rw [hlf, List.length_take, List.length_drop]
  have hget : ∀ t, t < lf.length → lf[t]? = l[s + t]? := fun t ht => by rw [hlf, List.getElem?_take, if_pos (by omega), List.getElem?_drop]
  have hif : idx lf to = idx l to - s := by
    refine idx_eq (fun j hj p hp => ?_) (fun p hp => ?_) (by omega)
    · have hjl := (List.getElem?_eq_some_iff.1 hp).1
      rw [hget j hjl] at hp
      exact idx_lt (by omega) hp
    · have hjl := (List.getElem?_eq_some_iff.1 hp).1
      rw [hget _ hjl, show s + (idx l to - s) = idx l to from by omega] at hp
      exact idx_ge hp
  refine ⟨by omega, by omega, by omega, by omega, ?_⟩
  unfold leftAt
  rw [if_neg (by omega), Int.toNat_natCast, hif, hlf, List.drop_take, List.drop_drop, show s + (idx l to - s) = idx l to from by omega, List.take_eq_take_iff, List.length_drop]
  omega
theorem adv_end {l : List Po} (hm : mayPo (-1) l = true) {to : Int} {n : Nat} (hn : l.length ≤ n) (hlo : lastPo (-1) (l.take n) < to) : idx l to = l.length := by
  refine idx_eq (fun j hj p hp => ?_) (fun p hp => ?_) (Nat.le_refl _)
  · have := last_lt hm hp (s := n) (by omega); omega
  · simp at hp
theorem adv_start {l : List Po} (hm : mayPo (-1) l = true) {i k to : Int} (hi : -1 ≤ i ∧ i ≤ l.length) (hk : -1 ≤ k ∧ k < ((l.length + 7) / 8 : Nat)) (hk0 : i < 0 → k = -1) (hk1 : 0 ≤ i → i < l.length → k = i / 8) (hto : docAt l i < to) :
    lastPo (-1) (l.take (8 * (max k 0).toNat)) < to := by
  rcases docAt_cases l i with ⟨h0, h, _⟩ | ⟨j, d, ps, rfl, hx, h, _⟩ | ⟨h0, h, _⟩
  · rw [hk0 h0]
    simp only [show (max (-1 : Int) 0).toNat = 0 from by decide, Nat.mul_zero, List.take_zero, lastPo]; omega
  · have hj := (List.getElem?_eq_some_iff.1 hx).1
    have hkk := hk1 (by omega) (by omega)
    have h2 := (may_at hm hx).1
    have h3 := lastPo_mono l (-1) (8 * (max k 0).toNat) j hm (by decide) (by omega)
    omega
  · have := (lastPo_rng l (-1) hm (by decide) (8 * (max k 0).toNat)).2; omega

/-- the block bc is a cursor of l that stands at i -/
def Cu (T : TypeId) (l : List Po) (i : Int) (M : PSet) (w : World) (bc : Nat) : Prop :=
  ∃ (p u : Value) (k cnt : Int), M bc ∧ w.heap[bc]? = some (.cells #[p, .int .i64 k, u, .int .i64 (docAt l i), .int .i64 cnt] T (0, 0)) ∧ PtrTo RT.li M w p (mkLi l) ∧ ((RT.po).sl).V M w (leftAt l i) u ∧
    (-1 ≤ i ∧ i ≤ l.length) ∧ (-1 ≤ k ∧ k < ((l.length + 7) / 8 : Nat)) ∧ (i < 0 → k = -1) ∧ (0 ≤ i → i < l.length → k = i / 8)
theorem Cu.step {T : TypeId} {l : List Po} {i : Int} {M M' N : PSet} {w w' : World} {bc : Nat} (h : Cu T l i M w bc) (s : Step M w M' w' N) (hn : ¬ N bc) : Cu T l i M' w' bc := by
  obtain ⟨p, u, k, cnt, h1, h2, h3, h4, h5⟩ := h
  exact ⟨p, u, k, cnt, (s.mem bc (lt_of_get h2)).2 h1, s.keep h2 hn, h3.le (by decide) s.le, h4.le s.le, h5⟩
theorem Cu.lt {T : TypeId} {l : List Po} {i : Int} {M : PSet} {w : World} {bc : Nat} (h : Cu T l i M w bc) : bc < w.heap.size := by
  obtain ⟨p, u, k, cnt, h1, h2, _⟩ := h; exact lt_of_get h2
theorem Cu.mem {T : TypeId} {l : List Po} {i : Int} {M : PSet} {w : World} {bc : Nat} (h : Cu T l i M w bc) : M bc := by
  obtain ⟨p, u, k, cnt, h1, _⟩ := h; exact h1
theorem Cu.rng {T : TypeId} {l : List Po} {i : Int} {M : PSet} {w : World} {bc : Nat} (h : Cu T l i M w bc) : -1 ≤ i ∧ i ≤ l.length := by
  obtain ⟨p, u, k, cnt, _, _, _, _, h5, _⟩ := h; exact h5
theorem po_val {M : PSet} {w : World} {d : Int} {ps : List Int} {v : Value} (h : RT.po.V M w (d, ps) v) : ∃ u, v = .agg #[.int .i64 d, u] ∧ u.oneCell' = true ∧ (-9223372036854775808 ≤ d ∧ d ≤ 9223372036854775807) := by
  obtain ⟨vs, ⟨va, vb, rfl, ⟨rfl, hd⟩, hb⟩, rfl⟩ := h
  obtain ⟨a, cap, rfl, _⟩ := hb
  exact ⟨_, rfl, rfl, hd⟩
end Go.K

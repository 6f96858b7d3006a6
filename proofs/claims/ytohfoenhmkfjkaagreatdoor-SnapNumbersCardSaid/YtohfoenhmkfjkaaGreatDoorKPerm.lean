/- A region that draws its order, walked in an order of one's own that is no more the text's: the same operations, numbered anew. No program is named here. -/
import Derived.Test.YtohfoenhmkfjkaaGreatDoorKFloat
namespace Go.K
set_option linter.unusedVariables false
set_option linter.unusedSimpArgs false
section
variable {P : Program} {r : Option Nat} {n : Nat} {L : Sl} {ds : List Deferred} {w : World} {K : Kt}

/-- what is carried through any order of a region's operations -/
def DrawInv (P : Program) (r : Option Nat) (n : Nat) (l : List Oper) (L : Sl) (ds : List Deferred) (wD : World) (K : Kt) : Prop :=
  ∀ a, Agree n a L ds → ∃ J : (Nat → Prop) → Act → World → Prop,
    (∀ (D D' : Nat → Prop) a w, J D a w → (∀ i, i < l.length → (D' i ↔ D i)) → J D' a w) ∧
    (∀ (Q : Exit → Act → World → Prop) (D : Nat → Prop) a w j o rest, j < l.length → l[j]? = some o → ¬ D j → (∀ k ∈ preds o, D k) → (∀ i o, l[i]? = some o → D i → ∀ k ∈ preds o, D k) → J D a w → (∀ a' w', J (fun i => i = j ∨ D i) a' w' → wpOpsIn (FW r) 0 P l.toArray Q rest a' w') → wpOpsIn (FW r) 0 P l.toArray Q (j :: rest) a w) ∧
    (∀ a w, J (fun i => i < l.length) a w → up n K .normal a w) ∧ J (fun _ => False) a wD

theorem DrawInv.t {id : Nat} {l : List Oper} (hm : P.follows .mixedOrders = true) (hlex : lexOk l 0 = true) (h : ∀ wD, (∀ M, Step M w M wD none') → DrawInv P r n l L ds wD K) : T P r n (.region id l.toArray true) L ds w K := by
  refine ⟨fun a ha => wpIn_region_draw fun t => ?_⟩
  simp only [Region.schedule, hm, Bool.true_or, if_true, Region.linearise]
  obtain ⟨J, h1, h2, h3, h4⟩ := h _ (step_drawn w) a ha
  refine go_ordersJ (J := J) hlex (fun {D D' a w} hi hD => h1 D D' a w hi hD) (fun {D a' w' j o rest} hj ho hnD hp hcl hi hk => h2 _ _ _ _ _ _ _ hj ho hnD hp hcl hi hk) h3 _ t _ a _ (by simp) (by simp [List.countP_replicate]) (fun i o h1 h2 => ?_) (h1 _ _ _ _ h4 fun i _ => ?_)
  · simp [Array.getElem?_replicate] at h2
  · simp [Array.getElem?_replicate]

theorem drawInvF {l : List Oper} {wd : World} (m : Nat) (fl : List Nat) (N : PSet) (hml : Nat.blt m l.length = true) (hlex : lexOk l 0 = true) (hsl : slotsOk l m = true) (hfl : floatsOk l m fl = true)
    (h : QRg P r n l.toArray (l.take m) L ds wd (fun L' => (∀ j o, j ∈ fl → l[j]? = some o → FloatOk P N wd L' o) ∧ TRg P r n l.toArray N wd K (l.drop m) L' ds wd)) : DrawInv P r n l L ds wd K := by
  intro a ha
  have hSl : m < l.length := by simpa [Nat.blt_eq] using hml
  have hget : ∀ j, j < m → (l.take m)[j]? = l[j]? := fun j hj => by rw [List.getElem?_take, if_pos hj]
  obtain ⟨am, Lm, vs, htr, hA, hF, hT⟩ := h.trace (fun o ho => by
    obtain ⟨j, hj⟩ := List.mem_iff_getElem?.1 ho
    have hjm : j < m := by
      have := (List.getElem?_eq_some_iff.1 hj).1
      rw [List.length_take] at this; omega
    exact (slotsOk_get hsl hjm (by rw [← hget j hjm]; exact hj)).1) ha
  obtain ⟨st, h0, hl, hst⟩ := htr.states
  have hlen : (l.take m).length = m := by rw [List.length_take]; omega
  rw [hlen] at hl
  have hst' : ∀ j o, j < m → l[j]? = some o → ∃ v, vs[j]? = some v ∧ One P r l.toArray wd o (st j) v ∧ st (j + 1) = (st j).put o.dst v := fun j o hj ho => hst j o (by rw [hget j hj]; exact ho)
  have hvl : ∀ i, i < m → ∃ v, vs[i]? = some v := fun i hi => by
    obtain ⟨v, hv, _⟩ := hst' i l[i] hi (List.getElem?_eq_getElem (by omega))
    exact ⟨v, hv⟩
  have hjs := states_QJ hlex h0 hst'
  have ham := hjs m (Nat.le_refl _) (by omega)
  rw [hl] at ham
  refine ⟨fun D a' w' => ∃ p ac Lp, GJ P r n l m fl N K ds a am wd D a' w' p ac Lp, fun D D' a' w' ⟨p, ac, Lp, hi⟩ hD => ⟨p, ac, Lp, hi.p0, hi.p1, fun i h3 h4 => (hD i h4).trans (hi.dt i h3 h4), fun h i h3 h4 => (hD i (by omega)).2 (hi.df h i h3 h4), hi.ag, hi.tr, hi.keep, hi.wm, hi.defers, hi.size, hi.sizec, fun t ht => hi.done t fun i o h3 h4 h5 => (hD i (by omega)).1 (ht i o h3 h4 h5), fun i o t h3 h4 h5 h6 => hi.pend i o t h3 h4 h5 (fun h => h6 ((hD i (by omega)).2 h)), hi.cm⟩,
    fun Q D a' w' j o rest hj ho hnD hp hcl hi hk => GJ.next hlex hsl hfl hSl hvl (fun j o hj ho => by obtain ⟨v, h1, h2, _⟩ := hst' j o hj ho; exact ⟨v, h1, h2⟩) (fun j hj => hjs j (by omega) (by omega)) ham hA hF ho hnD hp hcl hi hk, fun a' w' hJ => ?_, ⟨m, am, Lm, Nat.le_refl _, by omega, fun i h3 h4 => ?_, fun h => by omega, hA, hT, Keep.refl _ _, fun _ => rfl, ha.defers, rfl, ham.size, fun t ht => ?_, fun i o t _ _ _ _ => rfl, fun t _ => rfl⟩⟩
  · obtain ⟨p, ac, Lp, hi⟩ := hJ
    have hpl : p = l.length := by
      rcases Nat.lt_or_ge p l.length with h3 | h3
      · have := (hi.dt p hi.p0 h3).1 h3; omega
      · have := hi.p1; omega
    have htr := hi.tr
    rw [hpl, List.drop_eq_nil_of_le (Nat.le_refl _)] at htr
    refine ⟨Lp, ds, ⟨?_, hi.defers, fun t v ht => ?_⟩, htr⟩
    · rw [hi.size]; exact ha.size
    · rw [hi.done t fun i o h3 h4 _ => by omega]; exact hi.ag.at_ t v ht
  · exact ⟨False.elim, fun h => by omega⟩
  · rw [ham.base t fun i o h3 h4 _ h5 => (ht i o h3 h4 h5)]

/-! ### Numbered anew -/
def renO (π : List Nat) (o : Oper) : Oper := ⟨o.dst, o.op, o.type, o.pos, o.after.map fun e => { e with on := π.idxOf e.on }, o.guard.map fun g => (π.idxOf g.1, g.2)⟩
def ren (π : List Nat) (l : List Oper) : List Oper := π.map fun i => renO π (l.getD i default)
def permOk (π : List Nat) (k : Nat) : Bool := π.length == k && π.all (Nat.blt · k) && (List.range k).all (π.contains ·) && (List.range k).all fun i => π.idxOf (π.getD i 0) == i
theorem permOk_get {π : List Nat} {k : Nat} (h : permOk π k = true) : π.length = k ∧ (∀ (i j : Nat), π[i]? = some j → j < k) ∧ (∀ j, j < k → π[π.idxOf j]? = some j) ∧ (∀ (i j : Nat), π[i]? = some j → π.idxOf j = i) ∧ (∀ j, k ≤ j → π.idxOf j = k) := by
  simp only [permOk, Bool.and_eq_true, beq_iff_eq, List.all_eq_true, Nat.blt_eq, List.mem_range, List.contains_iff_mem] at h
  obtain ⟨⟨⟨h1, h2⟩, h3⟩, h4⟩ := h
  refine ⟨h1, fun i j hij => h2 j (List.mem_of_getElem? hij), fun j hj => ?_, fun i j hij => ?_, fun j hj => ?_⟩
  · have hlt := List.idxOf_lt_length_of_mem (h3 j hj)
    rw [List.getElem?_eq_getElem hlt, List.getElem_idxOf hlt]
  · have hi : i < k := by have := (List.getElem?_eq_some_iff.1 hij).1; omega
    have := h4 i hi
    rwa [List.getD_eq_getElem?_getD, hij, Option.getD_some] at this
  · rw [List.idxOf_eq_length (fun hm => by have := h2 j hm; omega), h1]
theorem ren_get {π : List Nat} {l : List Oper} (hπ : permOk π l.length = true) {j : Nat} {o : Oper} (ho : l[j]? = some o) : (ren π l)[π.idxOf j]? = some (renO π o) := by
  obtain ⟨_, _, h3, _⟩ := permOk_get hπ
  have hj := (List.getElem?_eq_some_iff.1 ho).1
  simp only [ren, List.getElem?_map, h3 j hj, Option.map_some, List.getD_eq_getElem?_getD, ho, Option.getD_some]
theorem get_ren {π : List Nat} {l : List Oper} (hπ : permOk π l.length = true) {i : Nat} {o' : Oper} (ho : (ren π l)[i]? = some o') : ∃ j o, π[i]? = some j ∧ l[j]? = some o ∧ o' = renO π o := by
  obtain ⟨_, h2, _⟩ := permOk_get hπ
  simp only [ren, List.getElem?_map, Option.map_eq_some_iff] at ho
  obtain ⟨j, hj, rfl⟩ := ho
  refine ⟨j, _, hj, List.getElem?_eq_getElem (h2 i j hj), ?_⟩
  rw [List.getD_eq_getElem?_getD, List.getElem?_eq_getElem (h2 i j hj), Option.getD_some]
theorem preds_renO (π : List Nat) (o : Oper) : preds (renO π o) = (preds o).map π.idxOf := by
  simp only [preds, renO, Array.toList_map, List.filter_map, List.map_map]
  rfl
theorem yielded_ren {π : List Nat} {l : List Oper} (hπ : permOk π l.length = true) (tmps : Array Value) (j : Nat) : yielded (ren π l).toArray tmps (π.idxOf j) = yielded l.toArray tmps j := by
  unfold yielded
  have : ((ren π l).toArray[π.idxOf j]?).bind (·.dst) = (l.toArray[j]?).bind (·.dst) := by
    simp only [List.getElem?_toArray]
    cases ho : l[j]? with
    | some o => rw [ren_get hπ ho]; rfl
    | none =>
      have hj : l.length ≤ j := List.getElem?_eq_none_iff.1 ho
      obtain ⟨h1, _, _, _, h5⟩ := permOk_get hπ
      rw [h5 j hj, List.getElem?_eq_none (by simp [ren, h1])]
  rw [this]
theorem wanted_ren {π : List Nat} {l : List Oper} (hπ : permOk π l.length = true) (tmps : Array Value) (o : Oper) : Region.wanted (renO π o) (yielded (ren π l).toArray tmps) = Region.wanted o (yielded l.toArray tmps) := by
  unfold Region.wanted renO
  cases o.guard with
  | none => rfl
  | some g => simp only [Option.map_some, yielded_ren hπ]
theorem one_ren {π : List Nat} {l : List Oper} (hπ : permOk π l.length = true) {Q : Exit → Act → World → Prop} {j : Nat} {o : Oper} {rest : List Nat} {a : Act} (ho : l[j]? = some o)
    (h : wpOpsIn (FW r) 0 P (ren π l).toArray (fun e a w => match e with | .normal => wpOpsIn (FW r) 0 P l.toArray Q rest a w | e => Q e a w) [π.idxOf j] a w) : wpOpsIn (FW r) 0 P l.toArray Q (j :: rest) a w := by
  simp only [wpOpsIn, List.getElem?_toArray, ho, ren_get hπ ho, wanted_ren hπ] at h ⊢
  split at h
  · rename_i hw
    rw [if_pos hw]
    refine ⟨h.1, ?_⟩
    have h2 := h.2
    rw [show Oper.semAt (FW r).round a.eval (renO π o) = Oper.semAt (FW r).round a.eval o from rfl] at h2
    generalize (Oper.semAt (FW r).round a.eval o).run P w = res at h2 ⊢
    cases res with
    | ok nx w' =>
      cases nx with
      | enter f args => exact ⟨h2.1, h2.2.mono fun e w'' he => by cases e <;> exact he⟩
      | round l f tmps asn body => exact ⟨h2.1, h2.2.mono fun e w'' he => by cases e <;> exact he⟩
      | _ => exact h2
    | halt x w' => cases x <;> exact h2
  · rename_i hw
    rw [if_neg hw]
    exact ⟨h.1, h.2⟩

theorem DrawInv.perm {l : List Oper} {wd : World} (π : List Nat) (hπ : permOk π l.length = true) (hlex : lexOk l 0 = true) (h : DrawInv P r n (ren π l) L ds wd K) : DrawInv P r n l L ds wd K := by
  intro a ha
  obtain ⟨J, h1, h2, h3, h4⟩ := h a ha
  obtain ⟨p1, p2, p3, p4, _⟩ := permOk_get hπ
  have hlen : (ren π l).length = l.length := by simp [ren, p1]
  refine ⟨fun D a w => J (fun i => ∃ j, π[i]? = some j ∧ D j) a w, fun D D' a w hJ hD => h1 _ _ _ _ hJ fun i _ => ⟨fun ⟨j, hj, h⟩ => ⟨j, hj, (hD j (p2 i j hj)).1 h⟩, fun ⟨j, hj, h⟩ => ⟨j, hj, (hD j (p2 i j hj)).2 h⟩⟩, fun Q D a w j o rest hj ho hnD hp hcl hJ hk => ?_, fun a w hJ => h3 _ _ (h1 _ _ _ _ hJ fun i hi => ?_), h1 _ _ _ _ h4 fun i _ => ⟨fun ⟨j, _, h⟩ => h, False.elim⟩⟩
  · refine one_ren hπ ho (h2 _ _ _ _ _ _ _ (by rw [hlen, ← p1]; exact (List.getElem?_eq_some_iff.1 (p3 j hj)).1) (ren_get hπ ho) ?_ ?_ ?_ hJ fun a' w' hJ' => hk _ _ (h1 _ _ _ _ hJ' fun i hi => ?_))
    · rintro ⟨k, hk1, hk2⟩
      rw [p3 j hj] at hk1
      cases hk1; exact hnD hk2
    · intro k' hk'
      rw [preds_renO, List.mem_map] at hk'
      obtain ⟨k, hk1, rfl⟩ := hk'
      have := lexOk_preds hlex j o ho k hk1
      exact ⟨k, p3 k (by omega), hp k hk1⟩
    · rintro i o' ho' ⟨k, hk1, hk2⟩ k' hk'
      obtain ⟨k2, ok, h5, h6, rfl⟩ := get_ren hπ ho'
      rw [h5] at hk1; cases hk1
      rw [preds_renO, List.mem_map] at hk'
      obtain ⟨q, hq1, rfl⟩ := hk'
      have := lexOk_preds hlex k ok h6 q hq1
      have := p2 i k h5
      exact ⟨q, p3 q (by omega), hcl k ok h6 hk2 q hq1⟩
    · constructor
      · rintro ⟨k, hk1, h | h⟩
        · subst h; exact .inl (p4 i k hk1).symm
        · exact .inr ⟨k, hk1, h⟩
      · rintro (h | ⟨k, hk1, h⟩)
        · subst h; exact ⟨j, p3 j hj, .inl rfl⟩
        · exact ⟨k, hk1, .inr h⟩
  · rw [hlen] at hi
    have hp : π[i]? = some (π[i]'(by omega)) := List.getElem?_eq_getElem _
    exact ⟨fun _ => ⟨_, hp, p2 i _ hp⟩, fun _ => by omega⟩

/-- A region that draws its order, walked in the order π: of the operations in this order the first m change nothing, and those of them that fl numbers may come late; the others stand one behind the other. -/
theorem T.drawP {id : Nat} {l l' : List Oper} (π : List Nat) (m : Nat) (fl : List Nat) (N : PSet) (hm : P.follows .mixedOrders = true) (hren : ren π l = l') (hlex0 : lexOk l 0 = true) (hπ : permOk π l.length = true) (hml : Nat.blt m l'.length = true) (hlex : lexOk l' 0 = true) (hsl : slotsOk l' m = true) (hfl : floatsOk l' m fl = true)
    (h : ∀ wD, (∀ M, Step M w M wD none') → QRg P r n l'.toArray (l'.take m) L ds wD (fun L' => (∀ j o, j ∈ fl → l'[j]? = some o → FloatOk P N wD L' o) ∧ TRg P r n l'.toArray N wD K (l'.drop m) L' ds wD)) : T P r n (.region id l.toArray true) L ds w K := by
  subst hren
  exact DrawInv.t hm hlex0 fun wD hD => .perm π hπ hlex0 (drawInvF m fl N hml hlex hsl hfl (h wD hD))
end
end Go.K

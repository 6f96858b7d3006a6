/- A region that draws its order, walked in the text's order: where none of the operations ahead of its last ones changes anything, each yields in any order what it yields in the text's. No program is named here. -/
import Derived.Test.YtohfoenhmkfjkaaGreatDoorKDraw
namespace Go.K
set_option linter.unusedVariables false
set_option linter.unusedSimpArgs false
section
variable {P : Program} {r : Option Nat} {n : Nat} {L : Sl} {ds : List Deferred} {w : World} {K : Kt}
/-- any order, by an invariant of what was done; from one operation on in the text's order -/
theorem go_tailedJ {l : List Oper} {o₁ : Oper} {tl : List Oper} {J : (Nat → Prop) → Act → World → Prop} (hlex : lexOk (l ++ o₁ :: tl) 0 = true) (hlast : behindB (l ++ o₁ :: tl) l.length (preds o₁) = true) (hch : chainB (l ++ o₁ :: tl) (l.length + 1) = true)
    (hcong : ∀ {D D' : Nat → Prop} {a w}, J D a w → (∀ i, i < (l ++ o₁ :: tl).length → (D' i ↔ D i)) → J D' a w) {Q : Exit → Act → World → Prop}
    (hstep : ∀ {D : Nat → Prop} {a w j o rest}, j < l.length → l[j]? = some o → ¬ D j → (∀ k ∈ preds o, D k) → (∀ i o, (l ++ o₁ :: tl)[i]? = some o → D i → ∀ k ∈ preds o, D k) → J D a w → (∀ a' w', J (fun i => i = j ∨ D i) a' w' → wpOpsIn (FW r) 0 P (l ++ o₁ :: tl).toArray Q rest a' w') → wpOpsIn (FW r) 0 P (l ++ o₁ :: tl).toArray Q (j :: rest) a w)
    (hend : ∀ a w, J (fun i => i < l.length) a w → wpListIn (FW r) 0 P (l ++ o₁ :: tl).toArray Q (o₁ :: tl) a w) : ∀ (fuel t : Nat) (listed : Array Bool) (a : Act) (w : World), listed.size = (l ++ o₁ :: tl).length → listed.toList.countP (!·) = fuel → (∀ i, l.length ≤ i → i < (l ++ o₁ :: tl).length → listed[i]? = some false) →
    (∀ (i : Nat) (o : Oper), (l ++ o₁ :: tl)[i]? = some o → listed[i]? = some true → ∀ k ∈ preds o, listed[k]? = some true) → J (fun i => listed[i]? = some true) a w → wpOpsIn (FW r) 0 P (l ++ o₁ :: tl).toArray Q (Region.linearise.go .any (l ++ o₁ :: tl).toArray fuel t listed []) a w := by
  intro fuel
  induction fuel with
  | zero =>
    intro t listed a w hsz hc hlm hcl hi
    have := falses_zero hc l.length (by simp [hsz])
    have h2 : listed.toList[l.length]? = some false := by simpa using hlm l.length (Nat.le_refl _) (by simp)
    rw [h2] at this; cases this
  | succ fuel ih =>
    intro t listed a w hsz hc hlm hcl hi
    have hll : (l ++ o₁ :: tl).length = l.length + 1 + tl.length := by simp; omega
    have hlm0 : listed[l.length]? = some false := hlm l.length (Nat.le_refl _) (by omega)
    have hready : ∀ j, j ∈ Region.ready .any (l ++ o₁ :: tl).toArray listed → ∃ o, (l ++ o₁ :: tl)[j]? = some o ∧ listed[j]? = some false ∧ ∀ k ∈ preds o, listed[k]? = some true := by
      intro j hj
      simp only [Region.ready, List.mem_filter, List.mem_range, Bool.and_eq_true] at hj
      obtain ⟨h1, h2, h3⟩ := hj
      have hlt : j < (l ++ o₁ :: tl).length := by simpa using h1
      refine ⟨(l ++ o₁ :: tl)[j], List.getElem?_eq_getElem hlt, ?_, ?_⟩
      · rw [Array.getElem?_eq_getElem (by omega)]
        simp only [Array.getD_eq_getD_getElem?, Array.getElem?_eq_getElem (show j < listed.size by omega), Option.getD_some, Bool.not_eq_true'] at h2
        rw [h2]
      · intro k hk
        simp only [preds, List.mem_map, List.mem_filter] at hk
        obtain ⟨e, ⟨he1, he2⟩, rfl⟩ := hk
        have h4 : (l ++ o₁ :: tl).toArray[j]? = some (l ++ o₁ :: tl)[j] := by rw [List.getElem?_toArray]; exact List.getElem?_eq_getElem hlt
        rw [h4] at h3
        simp only [Option.map_some, Option.getD_some, Array.all_eq_true_iff_forall_mem] at h3
        have h5 := h3 e (by simpa using he1)
        rw [he2] at h5
        simp only [Bool.not_true, Bool.false_or, Array.getD_eq_getD_getElem?] at h5
        cases hx : listed[e.on]? with
        | none => simp [hx] at h5
        | some b => simp [hx] at h5; rw [h5]
    have hne : Region.ready .any (l ++ o₁ :: tl).toArray listed ≠ [] := by
      obtain ⟨i, h1, h2⟩ := falses_pos (bs := listed.toList) (by omega)
      have hlt : i < (l ++ o₁ :: tl).length := by
        have := (List.getElem?_eq_some_iff.1 h1).1
        simp only [Array.length_toList] at this; omega
      intro hnil
      have hmem : i ∈ Region.ready .any (l ++ o₁ :: tl).toArray listed := by
        simp only [Region.ready, List.mem_filter, List.mem_range, Bool.and_eq_true]
        refine ⟨by simpa using hlt, ?_, ?_⟩
        · have : listed[i]? = some false := by simpa using h1
          simp [Array.getD_eq_getD_getElem?, this]
        · have h4 : (l ++ o₁ :: tl).toArray[i]? = some (l ++ o₁ :: tl)[i] := by rw [List.getElem?_toArray]; exact List.getElem?_eq_getElem hlt
          rw [h4]
          simp only [Option.map_some, Option.getD_some, Array.all_eq_true_iff_forall_mem]
          intro e he
          cases hb : Region.binds .any e with
          | false => rfl
          | true =>
            have hk : e.on ∈ preds (l ++ o₁ :: tl)[i] := by
              simp only [preds, List.mem_map, List.mem_filter]; exact ⟨e, ⟨by simpa using he, hb⟩, rfl⟩
            have hlt' := lexOk_preds hlex i (l ++ o₁ :: tl)[i] (List.getElem?_eq_getElem hlt) _ hk
            have : listed[e.on]? = some true := by simpa using h2 e.on (by omega)
            simp [Array.getD_eq_getD_getElem?, this]
      rw [hnil] at hmem; cases hmem
    simp only [Region.linearise.go]
    change wpOpsIn (FW r) 0 P (l ++ o₁ :: tl).toArray Q (match (Region.ready .any (l ++ o₁ :: tl).toArray listed)[t % (Region.ready .any (l ++ o₁ :: tl).toArray listed).length]? with
      | some i => Region.linearise.go .any (l ++ o₁ :: tl).toArray fuel (t / (Region.ready .any (l ++ o₁ :: tl).toArray listed).length) (listed.setIfInBounds i true) [i]
      | none => [].reverse) a w
    have hlt : t % (Region.ready .any (l ++ o₁ :: tl).toArray listed).length < (Region.ready .any (l ++ o₁ :: tl).toArray listed).length := Nat.mod_lt _ (List.length_pos_iff.2 hne)
    rw [List.getElem?_eq_getElem hlt]
    have hmem := List.getElem_mem hlt
    generalize (Region.ready .any (l ++ o₁ :: tl).toArray listed)[t % (Region.ready .any (l ++ o₁ :: tl).toArray listed).length] = j at hmem
    obtain ⟨o, h1, h2, h3⟩ := hready j hmem
    simp only []
    rw [linearise_go_acc, List.reverse_singleton, List.singleton_append]
    have hjl : j < l.length + 1 + tl.length := by have := (List.getElem?_eq_some_iff.1 h1).1; omega
    have h2' : listed.toList[j]? = some false := by simpa using h2
    have hcnt := falses_set h2'
    by_cases hjm : j = l.length
    · subst hjm
      have ho : o = o₁ := by simpa using h1.symm
      subst ho
      have hallD : ∀ i, i < l.length → listed[i]? = some true := fun i hi' => behind_all (D := fun i => listed[i]? = some true) hcl l.length (preds o) hlast (fun k hk => h3 k hk) i hi'
      have hfu : fuel = tl.length := by
        have hz : ((listed.toList.set l.length true).drop (l.length + 1)).countP (!·) = tl.length := by
          rw [List.drop_set_of_lt (by omega)]
          have hall : ∀ b ∈ listed.toList.drop (l.length + 1), (!b) = true := by
            intro b hb
            obtain ⟨i, hi'⟩ := List.mem_iff_getElem?.1 hb
            rw [List.getElem?_drop] at hi'
            have hil := (List.getElem?_eq_some_iff.1 hi').1
            simp only [Array.length_toList] at hil
            have := hlm (l.length + 1 + i) (by omega) (by omega)
            have h9 : listed.toList[l.length + 1 + i]? = some false := by simpa using this
            rw [hi'] at h9; cases h9; rfl
          rw [List.countP_eq_length.2 hall, List.length_drop, Array.length_toList]; omega
        have hy : ((listed.toList.set l.length true).take (l.length + 1)).countP (!·) = 0 := by
          rw [List.countP_eq_zero]
          intro b hb
          obtain ⟨i, hi'⟩ := List.mem_iff_getElem?.1 hb
          rw [List.getElem?_take] at hi'
          split at hi'
          · rw [List.getElem?_set] at hi'
            split at hi'
            · split at hi'
              · cases hi'; simp
              · cases hi'
            · have := hallD i (by omega)
              have h9 : listed.toList[i]? = some true := by simpa using this
              rw [hi'] at h9; cases h9; simp
          · cases hi'
        have := List.take_append_drop (l.length + 1) (listed.toList.set l.length true)
        have h8 : (listed.toList.set l.length true).countP (!·) = 0 + tl.length := by
          rw [← hy, ← hz, ← List.countP_append, this]
        omega
      subst hfu
      have hml : l.length < listed.size := by omega
      rw [go_chain hlex tl.length (l.length + 1) _ _ (by simpa using hsz) (by omega) (by
        simp only [chainB, List.all_eq_true] at hch ⊢
        intro j hj
        exact hch j (by rw [List.mem_range'_1] at hj ⊢; omega)) (fun i hi' => by
          rw [Array.getElem?_setIfInBounds]
          by_cases e : l.length = i
          · subst e; simp [hml]
          · rw [if_neg e]; exact hallD i (by omega)) (fun i h5 h6 => by
          rw [Array.getElem?_setIfInBounds, if_neg (by omega)]
          exact hlm i (by omega) h6) (fun i o' ho' he j hj => by have := lexOk_preds hlex i o' ho' j hj; omega)]
      have hrg : l.length :: List.range' (l.length + 1) tl.length = List.range' l.length (o :: tl).length := by simp [List.range'_succ]
      rw [hrg, wpOpsIn_eq_wpListIn (o :: tl) l.length (fun j => by rw [List.getElem?_toArray, List.getElem?_append_right (by omega)]; congr 1; omega)]
      exact hend a w (hcong hi fun i hil => ⟨fun h => hallD i h, fun h => by
        rcases Nat.lt_or_ge i l.length with h5 | h5
        · exact h5
        · have h6 := hlm i h5 hil
          rw [h6] at h; cases h⟩)
    · have hjlt0 : j < l.length := by
        rcases Nat.lt_or_ge j l.length with h | h
        · exact h
        · exfalso
          have hp := h3 _ (chainB_get hch (j := j) (by omega) h1)
          rw [hlm (j - 1) (by omega) (by omega)] at hp; cases hp
      have hlj : l[j]? = some o := by rwa [List.getElem?_append_left (by omega)] at h1
      refine hstep hjlt0 hlj (by rw [h2]; simp) h3 hcl hi fun a' w' hi' => ?_
      have hjlt : j < listed.size := (Array.getElem?_eq_some_iff.1 h2).1
      have hiff : ∀ i, ((listed.setIfInBounds j true)[i]? = some true) ↔ (i = j ∨ listed[i]? = some true) := by
        intro i
        rw [Array.getElem?_setIfInBounds]
        by_cases hij : j = i
        · subst hij; simp [hjlt]
        · rw [if_neg hij]; exact ⟨.inr, fun h => h.resolve_left (fun e => hij e.symm)⟩
      refine ih _ _ _ _ (by simpa using hsz) ?_ ?_ ?_ (hcong hi' fun i _ => hiff i)
      · simp only [Array.toList_setIfInBounds]; omega
      · intro i h5 h6; rw [Array.getElem?_setIfInBounds, if_neg (by omega)]; exact hlm i h5 h6
      · intro i o' h5 h6 k hk
        rcases (hiff i).1 h6 with e | h7
        · subst e
          have : o' = o := by rw [h1] at h5; exact (Option.some.inj h5).symm
          subst this
          exact (hiff k).2 (.inr (h3 k hk))
        · exact (hiff k).2 (.inr (hcl i o' h5 h7 k hk))
theorem go_ordersJ {l : List Oper} {J : (Nat → Prop) → Act → World → Prop} (hlex : lexOk l 0 = true)
    (hcong : ∀ {D D' : Nat → Prop} {a w}, J D a w → (∀ i, i < l.length → (D' i ↔ D i)) → J D' a w) {Q : Exit → Act → World → Prop}
    (hstep : ∀ {D : Nat → Prop} {a w j o rest}, j < l.length → l[j]? = some o → ¬ D j → (∀ k ∈ preds o, D k) → (∀ i o, l[i]? = some o → D i → ∀ k ∈ preds o, D k) → J D a w → (∀ a' w', J (fun i => i = j ∨ D i) a' w' → wpOpsIn (FW r) 0 P l.toArray Q rest a' w') → wpOpsIn (FW r) 0 P l.toArray Q (j :: rest) a w)
    (hend : ∀ a w, J (fun i => i < l.length) a w → Q .normal a w) : ∀ (fuel t : Nat) (listed : Array Bool) (a : Act) (w : World), listed.size = l.length → listed.toList.countP (!·) = fuel →
    (∀ (i : Nat) (o : Oper), l[i]? = some o → listed[i]? = some true → ∀ k ∈ preds o, listed[k]? = some true) → J (fun i => listed[i]? = some true) a w → wpOpsIn (FW r) 0 P l.toArray Q (Region.linearise.go .any l.toArray fuel t listed []) a w := by
  intro fuel
  induction fuel with
  | zero =>
    intro t listed a w hsz hc hcl hi
    simp only [Region.linearise.go, List.reverse_nil, wpOpsIn]
    exact hend a w (hcong hi fun i hil => ⟨fun h => by simpa using falses_zero hc i (by simp [hsz]; exact h), fun h => hil⟩)
  | succ fuel ih =>
    intro t listed a w hsz hc hcl hi
    have hready : ∀ j, j ∈ Region.ready .any l.toArray listed → ∃ o, l[j]? = some o ∧ listed[j]? = some false ∧ ∀ k ∈ preds o, listed[k]? = some true := by
      intro j hj
      simp only [Region.ready, List.mem_filter, List.mem_range, Bool.and_eq_true] at hj
      obtain ⟨h1, h2, h3⟩ := hj
      have hlt : j < l.length := by simpa using h1
      refine ⟨l[j], List.getElem?_eq_getElem hlt, ?_, ?_⟩
      · rw [Array.getElem?_eq_getElem (by omega)]
        simp only [Array.getD_eq_getD_getElem?, Array.getElem?_eq_getElem (show j < listed.size by omega), Option.getD_some, Bool.not_eq_true'] at h2
        rw [h2]
      · intro k hk
        simp only [preds, List.mem_map, List.mem_filter] at hk
        obtain ⟨e, ⟨he1, he2⟩, rfl⟩ := hk
        have h4 : l.toArray[j]? = some l[j] := by simp [hlt]
        rw [h4] at h3
        simp only [Option.map_some, Option.getD_some, Array.all_eq_true_iff_forall_mem] at h3
        have h5 := h3 e (by simpa using he1)
        rw [he2] at h5
        simp only [Bool.not_true, Bool.false_or, Array.getD_eq_getD_getElem?] at h5
        cases hx : listed[e.on]? with
        | none => simp [hx] at h5
        | some b => simp [hx] at h5; rw [h5]
    have hne : Region.ready .any l.toArray listed ≠ [] := by
      obtain ⟨i, h1, h2⟩ := falses_pos (bs := listed.toList) (by omega)
      have hlt : i < l.length := by
        have := (List.getElem?_eq_some_iff.1 h1).1
        simp at this; omega
      intro hnil
      have hmem : i ∈ Region.ready .any l.toArray listed := by
        simp only [Region.ready, List.mem_filter, List.mem_range, Bool.and_eq_true]
        refine ⟨by simpa using hlt, ?_, ?_⟩
        · have : listed[i]? = some false := by simpa using h1
          simp [Array.getD_eq_getD_getElem?, this]
        · have h4 : l.toArray[i]? = some l[i] := by simp [hlt]
          rw [h4]
          simp only [Option.map_some, Option.getD_some, Array.all_eq_true_iff_forall_mem]
          intro e he
          cases hb : Region.binds .any e with
          | false => rfl
          | true =>
            have hk : e.on ∈ preds l[i] := by
              simp only [preds, List.mem_map, List.mem_filter]; exact ⟨e, ⟨by simpa using he, hb⟩, rfl⟩
            have hlt' := lexOk_preds hlex i l[i] (List.getElem?_eq_getElem hlt) _ hk
            have : listed[e.on]? = some true := by simpa using h2 e.on (by omega)
            simp [Array.getD_eq_getD_getElem?, this]
      rw [hnil] at hmem; cases hmem
    simp only [Region.linearise.go]
    change wpOpsIn (FW r) 0 P l.toArray Q (match (Region.ready .any l.toArray listed)[t % (Region.ready .any l.toArray listed).length]? with
      | some i => Region.linearise.go .any l.toArray fuel (t / (Region.ready .any l.toArray listed).length) (listed.setIfInBounds i true) [i]
      | none => [].reverse) a w
    have hlt : t % (Region.ready .any l.toArray listed).length < (Region.ready .any l.toArray listed).length := Nat.mod_lt _ (List.length_pos_iff.2 hne)
    rw [List.getElem?_eq_getElem hlt]
    have hmem := List.getElem_mem hlt
    generalize (Region.ready .any l.toArray listed)[t % (Region.ready .any l.toArray listed).length] = j at hmem
    obtain ⟨o, h1, h2, h3⟩ := hready j hmem
    simp only []
    rw [linearise_go_acc, List.reverse_singleton, List.singleton_append]
    have hjl : j < l.length := (List.getElem?_eq_some_iff.1 h1).1
    refine hstep hjl h1 (by rw [h2]; simp) h3 hcl hi fun a' w' hi' => ?_
    have h2' : listed.toList[j]? = some false := by simpa using h2
    have hjlt : j < listed.size := (Array.getElem?_eq_some_iff.1 h2).1
    have hiff : ∀ i, ((listed.setIfInBounds j true)[i]? = some true) ↔ (i = j ∨ listed[i]? = some true) := by
      intro i
      rw [Array.getElem?_setIfInBounds]
      by_cases hij : j = i
      · subst hij; simp [hjlt]
      · rw [if_neg hij]; exact ⟨.inr, fun h => h.resolve_left (fun e => hij e.symm)⟩
    refine ih _ _ _ _ (by simpa using hsz) ?_ ?_ (hcong hi' fun i _ => hiff i)
    · have := falses_set h2'
      simp only [Array.toList_setIfInBounds]; omega
    · intro i o' h5 h6 k hk
      rcases (hiff i).1 h6 with e | h7
      · subst e
        have : o' = o := by rw [h1] at h5; exact (Option.some.inj h5).symm
        subst this
        exact (hiff k).2 (.inr (h3 k hk))
      · exact (hiff k).2 (.inr (hcl i o' h5 h7 k hk))

/-! ### Operations that ask their operands alone -/
def quietOp : Op → Bool
  | .move _ | .assign _ | .pick .. | .load .. | .nilCheck _ | .binOp .. | .unOp .. | .convert .. | .makeInterface .. | .makeFunc .. | .slice .. | .fieldAddr .. | .field .. | .indexAddr .. | .index .. | .typeAssert .. | .extract .. | .lookup .. | .build .. => true
  | .call { callee := .builtin .len, .. } | .call { callee := .builtin .cap, .. } | .call { callee := .builtin .min, .. } | .call { callee := .builtin .max, .. } => true
  | _ => false
theorem quiet_cong {ρ ρ' : Operand → Value} {o : Oper} (hq : quietOp o.op = true) (h : ∀ x ∈ o.op.operands, ρ x = ρ' x) : execOp ρ o = execOp ρ' o := by
  obtain ⟨dst, op, type, pos, after, guard⟩ := o
  have hmap : ∀ {xs : Array Operand}, (∀ x ∈ xs, ρ x = ρ' x) → xs.map ρ = xs.map ρ' := fun hx => Array.map_congr_left hx
  have hopt : ∀ {x : Option Operand}, (∀ y, x = some y → ρ y = ρ' y) → x.map ρ = x.map ρ' := fun {x} hx => by
    cases x with
    | none => rfl
    | some y => simp [hx y rfl]
  cases op <;> simp only [quietOp, Bool.false_eq_true] at hq <;> simp only [Op.operands, List.mem_toArray, List.mem_cons, List.not_mem_nil, or_false, forall_eq_or_imp, forall_eq, Array.mem_append, Option.mem_toArray] at h <;> simp only [execOp]
  case pick => rw [h.1, h.2.1, h.2.2]
  case build t ps =>
    have : ps.map (fun p => (p.1, ρ p.2)) = ps.map (fun p => (p.1, ρ' p.2)) := Array.map_congr_left fun p hp => by
      rw [h p.2 (List.mem_map.2 ⟨p, by simpa using hp, rfl⟩)]
    rw [this]
  case nilCheck => rw [h]
  case binOp => rw [h.1, h.2]
  case makeFunc f xs ys => rw [hmap (fun x hx => h x (.inl hx)), hmap (fun x hx => h x (.inr hx))]
  case slice t x lo hi mx =>
    rw [h x (by simp), hopt (x := lo) (fun y hy => h y (by simp [hy])), hopt (x := hi) (fun y hy => h y (by simp [hy])), hopt (x := mx) (fun y hy => h y (by simp [hy]))]
  case indexAddr => rw [h.1, h.2]
  case index => rw [h.1, h.2]
  case lookup => rw [h.1, h.2]
  case call c =>
    obtain ⟨cal, args, ats⟩ := c
    cases cal with
    | builtin b =>
      simp only [Call.operands, Array.empty_append] at h
      simp only [resolve, hmap h]
    | _ => cases hq
  all_goals rw [h]
theorem run_value {s : Sem Value} {w w' : World} {nx : Next} (h : (do pure (Next.value (← s)) : Sem Next).run P w = .ok nx w') : ∃ v, nx = .value v := by
  rw [Sem.run_bind] at h
  cases hs : s.run P w with
  | ok v w1 => rw [hs] at h; simp only [Result.andThen, Sem.run_pure, Result.ok.injEq] at h; exact ⟨v, h.1.symm⟩
  | halt x w1 => rw [hs] at h; simp [Result.andThen] at h
theorem quiet_value {ρ : Operand → Value} {o : Oper} (hq : quietOp o.op = true) {nx : Next} {w w' : World} (h : (execOp ρ o).run P w = .ok nx w') : ∃ v, nx = .value v := by
  obtain ⟨dst, op, type, pos, after, guard⟩ := o
  cases op <;> simp only [quietOp, Bool.false_eq_true] at hq <;> simp only [execOp] at h
  case move => simp only [Sem.run_pure, Result.ok.injEq] at h; exact ⟨_, h.1.symm⟩
  case assign => simp only [Sem.run_pure, Result.ok.injEq] at h; exact ⟨_, h.1.symm⟩
  case pick c a b =>
    rw [Sem.run_bind] at h
    cases hs : (asBool (ρ c)).run P w with
    | ok v w1 => rw [hs] at h; simp only [Result.andThen] at h; exact ⟨_, (Result.ok.inj h).1.symm⟩
    | halt x w1 => rw [hs] at h; simp [Result.andThen] at h
  case nilCheck x =>
    split at h
    · simp [runtimePanic, Sem.run] at h
    · simp [runtimePanic, Sem.run] at h
    · simp [runtimePanic, Sem.run] at h
    · split at h
      · simp [runtimePanic, Sem.run] at h
      · rename_i t w0 _ _
        simp only [Sem.run_bind] at h
        cases hp : (program).run P w with
        | halt x w1 => rw [hp] at h; simp [Result.andThen] at h
        | ok p w1 =>
          rw [hp] at h
          simp only [Result.andThen] at h
          generalize (nilAhead _ _ _ _).run P _ = res at h
          cases res with
          | halt x w2 => cases h
          | ok b w2 =>
            simp only at h
            split at h
            · simp [unsupported, Sem.run, Sem.run_bind, Result.andThen] at h
            · simp only [Sem.run_pure, Sem.run_bind, Result.andThen, Result.ok.injEq] at h; exact ⟨_, h.1.symm⟩
      · simp only [Sem.run_pure, Result.ok.injEq] at h; exact ⟨_, h.1.symm⟩
    · simp only [Sem.run_pure, Result.ok.injEq] at h; exact ⟨_, h.1.symm⟩
  case call c =>
    obtain ⟨cal, args, ats⟩ := c
    cases cal with
    | builtin b =>
      cases b <;> first | cases hq | skip
      all_goals
        simp only [resolve] at h
        exact run_value h
    | _ => cases hq
  all_goals exact run_value h

/-! ### A run of such operations, one by one -/
def One (P : Program) (r : Option Nat) (ops : Array Oper) (w : World) (o : Oper) (a : Act) (v : Value) : Prop :=
  if Region.wanted o (yielded ops a.tmps) then (execOp a.eval o).run P w = .ok (.value v) w else v = undef
def QTr (P : Program) (r : Option Nat) (ops : Array Oper) (w : World) : List Oper → Act → Act → List Value → Prop
  | [], a, a', vs => a = a' ∧ vs = []
  | o :: os, a, a', vs => ∃ v vt, vs = v :: vt ∧ One P r ops w o a v ∧ QTr P r ops w os (a.put o.dst v) a' vt
def QRg (P : Program) (r : Option Nat) (n : Nat) (ops : Array Oper) : List Oper → Sl → List Deferred → World → (Sl → Prop) → Prop
  | [], L, ds, w, k => k L
  | o :: rest, L, ds, w, k => Rg P r n ops [o] L ds w (fun e L' ds' w' => e = .normal ∧ ds' = ds ∧ w' = w ∧ QRg P r n ops rest L' ds w k)
theorem QRg.nil {ops : Array Oper} {k : Sl → Prop} (h : k L) : QRg P r n ops [] L ds w k := h
theorem quiet_notdefer {o : Oper} (hq : quietOp o.op = true) : ∀ c, o.op ≠ .defer c := fun c h => by rw [h] at hq; cases hq
theorem QRg.trace {ops : Array Oper} {k : Sl → Prop} : ∀ {l : List Oper} {L : Sl} {a : Act}, QRg P r n ops l L ds w k → (∀ o ∈ l, quietOp o.op = true) → Agree n a L ds → ∃ a' L' vs, QTr P r ops w l a a' vs ∧ Agree n a' L' ds ∧ k L'
  | [], L, a, h, _, ha => ⟨a, L, [], ⟨rfl, rfl⟩, ha, h⟩
  | o :: os, L, a, h, hq, ha => by
    have hqo := hq o (List.mem_cons_self ..)
    have h1 := Rg.run h a ha
    simp only [wpListIn] at h1
    by_cases hw : Region.wanted o (yielded ops a.tmps) = true
    · rw [if_pos hw] at h1
      obtain ⟨_, h1⟩ := h1
      rw [Oper.semAt_eq _ _ _ (quiet_notdefer hqo)] at h1
      cases hr : (execOp a.eval o).run P w with
      | ok nx w' =>
        obtain ⟨v, rfl⟩ := quiet_value hqo hr
        rw [hr] at h1
        obtain ⟨L1, ds1, hA, _, hds, hww, hk⟩ := h1
        rw [hds] at hA
        rw [hww] at hr
        obtain ⟨a', L', vs, h2, h3, h4⟩ := QRg.trace hk (fun o ho => hq o (List.mem_cons_of_mem _ ho)) hA
        exact ⟨a', L', v :: vs, ⟨v, vs, rfl, by unfold One; rw [if_pos hw]; exact hr, h2⟩, h3, h4⟩
      | halt x w' =>
        rw [hr] at h1
        cases x with
        | panic v => obtain ⟨L1, ds1, hA, hn, _⟩ := h1; cases hn
        | _ => exact h1.elim
    · rw [if_neg hw] at h1
      obtain ⟨_, L1, ds1, hA, _, hds, _, hk⟩ := h1
      rw [hds] at hA
      obtain ⟨a', L', vs, h2, h3, h4⟩ := QRg.trace hk (fun o ho => hq o (List.mem_cons_of_mem _ ho)) hA
      exact ⟨a', L', undef :: vs, ⟨undef, vs, rfl, by unfold One; rw [if_neg hw], h2⟩, h3, h4⟩

/-- the slots that an operation asks, its guard's among them -/
def asks (ops : List Oper) (o : Oper) : List Nat := (o.op.operands.toList.filterMap fun x => match x with | .tmp t => some t | _ => none) ++ (match o.guard with | some (j, _) => ((ops[j]?).bind (·.dst)).toList | none => [])
/-- what each asks was yielded by one that it stands behind, or will be yielded by one that stands behind it -/
def slotsOk (l : List Oper) (m : Nat) : Bool := (List.range m).all fun j => match l[j]? with
  | some o => quietOp o.op && (asks l o).all fun t => (List.range m).all fun i => match l[i]? with
    | some o' => !(o'.dst == some t) || (preds o).contains i || Nat.beq i j || (preds o').contains j
    | none => true
  | none => false
theorem slotsOk_get {l : List Oper} {m : Nat} (h : slotsOk l m = true) {j : Nat} {o : Oper} (hj : j < m) (ho : l[j]? = some o) : quietOp o.op = true ∧ ∀ t ∈ asks l o, ∀ i o', i < m → l[i]? = some o' → o'.dst = some t → i ∈ preds o ∨ i = j ∨ j ∈ preds o' := by
  have h1 := List.all_eq_true.1 h j (List.mem_range.2 hj)
  rw [ho] at h1
  simp only [Bool.and_eq_true] at h1
  refine ⟨h1.1, fun t ht i o' hi ho' hd => ?_⟩
  have h2 := List.all_eq_true.1 (List.all_eq_true.1 h1.2 t ht) i (List.mem_range.2 hi)
  rw [ho'] at h2
  simp only [hd, beq_self_eq_true, Bool.not_true, Bool.false_or, Bool.or_eq_true, List.contains_iff_mem] at h2
  rcases h2 with (h2 | h2) | h2
  · exact .inl h2
  · exact .inr (.inl (Nat.eq_of_beq_eq_true h2))
  · exact .inr (.inr h2)

/-- the states of a run in the text's order -/
theorem QTr.states {ops : Array Oper} : ∀ {l : List Oper} {a a' : Act} {vs : List Value}, QTr P r ops w l a a' vs → ∃ st : Nat → Act, st 0 = a ∧ st l.length = a' ∧ ∀ j o, l[j]? = some o → ∃ v, vs[j]? = some v ∧ One P r ops w o (st j) v ∧ st (j + 1) = (st j).put o.dst v
  | [], a, a', vs, h => ⟨fun _ => a, rfl, h.1, fun j o ho => by simp at ho⟩
  | o :: os, a, a', vs, ⟨v, vt, hv, h1, h2⟩ => by
    obtain ⟨st, g0, g1, g2⟩ := QTr.states h2
    refine ⟨fun j => match j with | 0 => a | j + 1 => st j, rfl, g1, fun j o' ho' => ?_⟩
    subst hv
    cases j with
    | zero => simp only [List.getElem?_cons_zero, Option.some.injEq] at ho'; subst ho'; exact ⟨v, rfl, h1, g0⟩
    | succ j => exact g2 j o' (by simpa using ho')
theorem put_tmps (a : Act) (d : Option Nat) (v : Value) (t : Nat) : (a.put d v).tmps[t]? = if d = some t then (a.tmps.setIfInBounds t v)[t]? else a.tmps[t]? := by
  cases d with
  | none => simp [Act.put]
  | some d =>
    simp only [Act.put, Option.some.injEq]
    split
    · rename_i h; subst h; rfl
    · rename_i h; rw [Array.getElem?_setIfInBounds, if_neg h]
theorem put_size (a : Act) (d : Option Nat) (v : Value) : (a.put d v).tmps.size = a.tmps.size := by cases d <;> simp [Act.put]
theorem put_defers (a : Act) (d : Option Nat) (v : Value) : (a.put d v).defers = a.defers := by cases d <;> rfl
theorem set_cell {xs ys : Array Value} {t : Nat} {v : Value} (h : xs.size = ys.size) : (xs.setIfInBounds t v)[t]? = (ys.setIfInBounds t v)[t]? := by
  rw [Array.getElem?_setIfInBounds, Array.getElem?_setIfInBounds, if_pos rfl, if_pos rfl, h]

/-- what any order has made of the slots -/
structure QJ (l : List Oper) (m : Nat) (a0 : Act) (vals : List Value) (wd : World) (D : Nat → Prop) (a : Act) (w : World) : Prop where
  world : w = wd
  defers : a.defers = a0.defers
  size : a.tmps.size = a0.tmps.size
  done : ∀ i o v t, i < m → l[i]? = some o → vals[i]? = some v → D i → o.dst = some t → a.tmps[t]? = (a0.tmps.setIfInBounds t v)[t]?
  base : ∀ t, (∀ i o, i < m → l[i]? = some o → D i → o.dst ≠ some t) → a.tmps[t]? = a0.tmps[t]?
theorem dst_unique {l : List Oper} (hlex : lexOk l 0 = true) {i j : Nat} {o o' : Oper} {t : Nat} (hi : l[i]? = some o) (hj : l[j]? = some o') (h1 : o.dst = some t) (h2 : o'.dst = some t) : i = j := by
  by_cases e : i = j
  · exact e
  · exact absurd h2 (lexOk_dst hlex i j o o' t hi hj e h1)
/-- the states of the text's order are of that kind -/
theorem states_QJ {l : List Oper} {m : Nat} {a0 : Act} {vals : List Value} {ops : Array Oper} (hlex : lexOk l 0 = true) {st : Nat → Act} (h0 : st 0 = a0) (hst : ∀ j o, j < m → l[j]? = some o → ∃ v, vals[j]? = some v ∧ One P r ops w o (st j) v ∧ st (j + 1) = (st j).put o.dst v) :
    ∀ j, j ≤ m → j ≤ l.length → QJ l m a0 vals w (fun i => i < j) (st j) w
  | 0, _, _ => ⟨rfl, by rw [h0], by rw [h0], fun i o v t _ _ _ h => by omega, fun t _ => by rw [h0]⟩
  | j + 1, hm, hl => by
    have ih := states_QJ hlex h0 hst j (by omega) (by omega)
    obtain ⟨o, ho⟩ : ∃ o, l[j]? = some o := ⟨_, List.getElem?_eq_getElem (by omega)⟩
    obtain ⟨v, hv, _, h2⟩ := hst j o (by omega) ho
    rw [h2]
    refine ⟨rfl, by rw [put_defers]; exact ih.defers, by rw [put_size]; exact ih.size, fun i o' v' t him ho' hv' hij hd => ?_, fun t ht => ?_⟩
    · rw [put_tmps]
      by_cases e : i = j
      · subst e
        rw [ho] at ho'; cases ho'; rw [hv] at hv'; cases hv'
        rw [if_pos hd]; exact set_cell ih.size
      · rw [if_neg (fun h => e (dst_unique hlex ho' ho hd h))]
        exact ih.done i o' v' t him ho' hv' (by omega) hd
    · rw [put_tmps, if_neg (ht j o (by omega) ho (by omega))]
      exact ih.base t fun i o' h1 h2 h3 => ht i o' h1 h2 (by omega)
/-- two such states agree on a slot of which both know -/
theorem QJ.agree {l : List Oper} {m : Nat} {a0 : Act} {vals : List Value} {wd w' : World} {D D' : Nat → Prop} {a a' : Act} (hlex : lexOk l 0 = true) (hvl : ∀ i, i < m → ∃ v, vals[i]? = some v) (h : QJ l m a0 vals wd D a w) (h' : QJ l m a0 vals wd D' a' w') {t : Nat}
    (hD : ∀ i o, i < m → l[i]? = some o → o.dst = some t → (D i ↔ D' i)) : a.tmps[t]? = a'.tmps[t]? := by
  by_cases hx : ∃ i o, i < m ∧ l[i]? = some o ∧ o.dst = some t
  · obtain ⟨i, o, him, ho, hd⟩ := hx
    by_cases hDi : D i
    · obtain ⟨v, hv⟩ := hvl i him
      rw [h.done i o v t him ho hv hDi hd, h'.done i o v t him ho hv ((hD i o him ho hd).1 hDi) hd]
    · have key : ∀ {E : Nat → Prop}, ¬ E i → ∀ k o', k < m → l[k]? = some o' → E k → o'.dst ≠ some t := fun hE k o' _ ho' hEk hd' => hE (by rw [dst_unique hlex ho ho' hd hd']; exact hEk)
      rw [h.base t (key hDi), h'.base t (key fun hh => hDi ((hD i o him ho hd).2 hh))]
  · have key : ∀ {E : Nat → Prop}, ∀ k o', k < m → l[k]? = some o' → E k → o'.dst ≠ some t := fun k o' hk ho' _ hd' => hx ⟨k, o', hk, ho', hd'⟩
    rw [h.base t key, h'.base t key]
theorem asks_eval {l : List Oper} {o : Oper} {a a' : Act} (h : ∀ t ∈ asks l o, a.tmps[t]? = a'.tmps[t]?) : (∀ x ∈ o.op.operands, a.eval x = a'.eval x) ∧ Region.wanted o (yielded l.toArray a.tmps) = Region.wanted o (yielded l.toArray a'.tmps) := by
  refine ⟨fun x hx => ?_, ?_⟩
  · cases x with
    | tmp t =>
      have := h t (List.mem_append_left _ (List.mem_filterMap.2 ⟨.tmp t, by simpa using hx, rfl⟩))
      simp only [Act.eval, Array.getD_eq_getD_getElem?, this]
    | _ => rfl
  · unfold Region.wanted
    cases hg : o.guard with
    | none => rfl
    | some p =>
      obtain ⟨j, b⟩ := p
      simp only
      have : yielded l.toArray a.tmps j = yielded l.toArray a'.tmps j := by
        unfold yielded
        cases hd : (l.toArray[j]?).bind (·.dst) with
        | none => rfl
        | some t =>
          have h2 := h t (List.mem_append_right _ (by
            simp only [hg]
            have : (l[j]?).bind (·.dst) = some t := by rw [← hd]; simp
            rw [this]; simp))
          simp only [Option.bind_some, h2]
      rw [this]
theorem One.run {ops : Array Oper} {Q : Exit → Act → World → Prop} {i : Nat} {rest : List Nat} {o : Oper} {a : Act} {v : Value} (ho : ops[i]? = some o) (hq : quietOp o.op = true) (h : One P r ops w o a v) (hk : wpOpsIn (FW r) 0 P ops Q rest (a.put o.dst v) w) : wpOpsIn (FW r) 0 P ops Q (i :: rest) a w := by
  simp only [wpOpsIn, ho]
  unfold One at h
  split
  · rename_i hw
    rw [if_pos hw] at h
    refine ⟨fun _ _ => trivial, ?_⟩
    rw [Oper.semAt_eq _ _ _ (quiet_notdefer hq), h]
    exact hk
  · rename_i hw
    rw [if_neg hw] at h
    subst h
    exact ⟨fun _ _ => trivial, hk⟩
theorem QJ.step {l : List Oper} {m : Nat} {a0 : Act} {vals : List Value} {wd : World} (hlex : lexOk l 0 = true) (hsl : slotsOk l m = true) (hvl : ∀ i, i < m → ∃ v, vals[i]? = some v) {st : Nat → Act} (hml : m ≤ l.length)
    (hst : ∀ j o, j < m → l[j]? = some o → ∃ v, vals[j]? = some v ∧ One P r l.toArray wd o (st j) v) (hjs : ∀ j, j < m → QJ l m a0 vals wd (fun i => i < j) (st j) wd)
    {Q : Exit → Act → World → Prop} {D : Nat → Prop} {a : Act} {w : World} {j : Nat} {o : Oper} {rest : List Nat} (hj : j < m) (ho : l[j]? = some o) (hnD : ¬ D j) (hp : ∀ k ∈ preds o, D k) (hcl : ∀ i o, l[i]? = some o → D i → ∀ k ∈ preds o, D k) (hi : QJ l m a0 vals wd D a w)
    (hk : ∀ a' w', QJ l m a0 vals wd (fun i => i = j ∨ D i) a' w' → wpOpsIn (FW r) 0 P l.toArray Q rest a' w') : wpOpsIn (FW r) 0 P l.toArray Q (j :: rest) a w := by
  obtain ⟨v, hv, h1⟩ := hst j o hj ho
  obtain ⟨hq, hsl⟩ := slotsOk_get hsl hj ho
  have hag : ∀ t ∈ asks l o, a.tmps[t]? = (st j).tmps[t]? := fun t ht => hi.agree hlex hvl (hjs j hj) fun i o' him ho' hd => by
    rcases hsl t ht i o' him ho' hd with h | h | h
    · have := lexOk_preds hlex j o ho i h
      exact ⟨fun _ => by omega, fun _ => hp i h⟩
    · subst h; exact ⟨fun h => absurd h hnD, fun h => by omega⟩
    · have := lexOk_preds hlex i o' ho' j h
      exact ⟨fun h2 => absurd (hcl i o' ho' h2 j h) hnD, fun h => by omega⟩
  obtain ⟨hev, hwt⟩ := asks_eval hag
  obtain ⟨hww⟩ : Nonempty (w = wd) := ⟨hi.world⟩
  have h2 : One P r l.toArray w o a v := by
    unfold One at h1 ⊢
    rw [hwt, quiet_cong hq hev, hww]; exact h1
  refine h2.run (by simpa using ho) hq (hk _ _ ⟨hww, by rw [put_defers]; exact hi.defers, by rw [put_size]; exact hi.size, fun i o' v' t him ho' hv' hD hd => ?_, fun t ht => ?_⟩)
  · rw [put_tmps]
    by_cases e : i = j
    · subst e
      rw [ho] at ho'; cases ho'; rw [hv] at hv'; cases hv'
      rw [if_pos hd]; exact set_cell hi.size
    · rw [if_neg (fun h => e (dst_unique hlex ho' ho hd h))]
      exact hi.done i o' v' t him ho' hv' (hD.resolve_left e) hd
  · rw [put_tmps, if_neg (ht j o hj ho (.inl rfl))]
    exact hi.base t fun i o' h1 h2 h3 => ht i o' h1 h2 (.inr h3)
/-- what a walk in the text's order says, whatever the order -/
theorem QRg.parts {l lq : List Oper} {m : Nat} {k : Sl → Prop} (hlq : lq = l.take m) (hml : m ≤ l.length) (hlex : lexOk l 0 = true) (hsl : slotsOk l m = true) {a0 : Act} (ha : Agree n a0 L ds) (h : QRg P r n l.toArray lq L ds w k) :
    ∃ vals : List Value, (∀ i, i < m → ∃ v, vals[i]? = some v) ∧ (∃ st : Nat → Act, (∀ j o, j < m → l[j]? = some o → ∃ v, vals[j]? = some v ∧ One P r l.toArray w o (st j) v) ∧ ∀ j, j < m → QJ l m a0 vals w (fun i => i < j) (st j) w) ∧
      ∀ a w', QJ l m a0 vals w (fun i => i < m) a w' → ∃ L', Agree n a L' ds ∧ k L' ∧ w' = w := by
  have hget : ∀ j, j < m → lq[j]? = l[j]? := fun j hj => by rw [hlq, List.getElem?_take, if_pos hj]
  obtain ⟨a', L', vs, htr, hA, hk⟩ := h.trace (fun o ho => by
    obtain ⟨j, hj⟩ := List.mem_iff_getElem?.1 ho
    have hjm : j < m := by
      have := (List.getElem?_eq_some_iff.1 hj).1
      rw [hlq, List.length_take] at this; omega
    exact (slotsOk_get hsl hjm (by rw [← hget j hjm]; exact hj)).1) ha
  obtain ⟨st, h0, hl, hst⟩ := htr.states
  have hlen : lq.length = m := by rw [hlq, List.length_take]; omega
  rw [hlen] at hl
  have hst' : ∀ j o, j < m → l[j]? = some o → ∃ v, vs[j]? = some v ∧ One P r l.toArray w o (st j) v ∧ st (j + 1) = (st j).put o.dst v := fun j o hj ho => hst j o (by rw [hget j hj]; exact ho)
  have hvl : ∀ i, i < m → ∃ v, vs[i]? = some v := fun i hi => by
    obtain ⟨v, hv, _⟩ := hst' i l[i] hi (List.getElem?_eq_getElem (by omega))
    exact ⟨v, hv⟩
  refine ⟨vs, hvl, ⟨st, fun j o hj ho => ?_, fun j hj => states_QJ hlex h0 hst' j (by omega) (by omega)⟩, fun a w' hi => ⟨L', ⟨?_, ?_, fun t v ht => ?_⟩, hk, hi.world⟩⟩
  · obtain ⟨v, h1, h2, _⟩ := hst' j o hj ho; exact ⟨v, h1, h2⟩
  · rw [hi.size]; exact ha.size
  · rw [hi.defers]; exact ha.defers
  · have := states_QJ hlex h0 hst' m (Nat.le_refl _) hml
    rw [hl] at this
    rw [hi.agree hlex hvl this (fun _ _ _ _ _ => Iff.rfl)]
    exact hA.at_ t v ht
theorem QJ.cong {l : List Oper} {m : Nat} {a0 a : Act} {vals : List Value} {wd w : World} {D D' : Nat → Prop} (hml : m ≤ l.length) (h : QJ l m a0 vals wd D a w) (hD : ∀ i, i < l.length → (D' i ↔ D i)) : QJ l m a0 vals wd D' a w :=
  ⟨h.world, h.defers, h.size, fun i o v t h1 h2 h3 h4 h5 => h.done i o v t h1 h2 h3 ((hD i (by omega)).1 h4) h5, fun t ht => h.base t fun i o h1 h2 h3 => ht i o h1 h2 ((hD i (by omega)).2 h3)⟩
theorem step_drawn (w : World) : ∀ M, Step M w M { w with drawn := w.drawn + 1 } none' := fun M => step_drew M w
/-- A region that draws its order, of which no operation changes anything: as in the text's order. -/
theorem T.drawQ0 {id : Nat} {l : List Oper} (hm : P.follows .mixedOrders = true) (hlex : lexOk l 0 = true) (hsl : slotsOk l l.length = true)
    (h : ∀ wD, (∀ M, Step M w M wD none') → QRg P r n l.toArray l L ds wD (fun L' => K .normal L' ds wD)) : T P r n (.region id l.toArray true) L ds w K := by
  refine ⟨fun a ha => wpIn_region_draw fun t => ?_⟩
  simp only [Region.schedule, hm, Bool.true_or, if_true, Region.linearise]
  obtain ⟨vals, hvl, ⟨st, h1, h2⟩, hend⟩ := QRg.parts (m := l.length) (by simp) (Nat.le_refl _) hlex hsl ha (h _ (step_drawn w))
  refine go_ordersJ (J := QJ l l.length a vals _) hlex (fun hi hD => hi.cong (Nat.le_refl _) hD) (fun hj ho hnD hp hcl hi hk => QJ.step hlex hsl hvl (Nat.le_refl _) h1 h2 hj ho hnD hp hcl hi hk) (fun a' w' hi => ?_) _ t _ a _ (by simp) (by simp [List.countP_replicate]) (fun i o h1 h2 => ?_) ⟨rfl, rfl, rfl, fun i o v t h1 h2 h3 h4 => ?_, fun t _ => rfl⟩
  · obtain ⟨L', hA, hk, hw⟩ := hend a' w' hi
    rw [hw]
    exact ⟨L', ds, hA, hk⟩
  · simp [Array.getElem?_replicate] at h2
  · simp [Array.getElem?_replicate] at h4
/-- A region that draws its order, of which no operation changes anything but its last ones, which come in the text's order: as in the text's order. -/
theorem T.drawQ {id : Nat} {l : List Oper} (m : Nat) (hm : P.follows .mixedOrders = true) (hml : Nat.blt m l.length = true) (hlex : lexOk l 0 = true) (hlast : behindB l m ((l[m]?.map preds).getD []) = true) (hch : chainB l (m + 1) = true) (hsl : slotsOk l m = true)
    (h : ∀ wD, (∀ M, Step M w M wD none') → QRg P r n l.toArray (l.take m) L ds wD (fun L' => Rg P r n l.toArray (l.drop m) L' ds wD K)) : T P r n (.region id l.toArray true) L ds w K := by
  refine ⟨fun a ha => wpIn_region_draw fun t => ?_⟩
  simp only [Region.schedule, hm, Bool.true_or, if_true, Region.linearise]
  have hSl : m < l.length := by simpa [Nat.blt_eq] using hml
  obtain ⟨vals, hvl, ⟨st, h1, h2⟩, hend⟩ := QRg.parts (m := m) rfl (by omega) hlex hsl ha (h _ (step_drawn w))
  have hl : l = l.take m ++ l[m] :: l.drop (m + 1) := by
    rw [← List.drop_eq_getElem_cons hSl, List.take_append_drop]
  have hm' : (l.take m).length = m := by simp; omega
  have hg : l[m]? = some l[m] := List.getElem?_eq_getElem hSl
  have key := go_tailedJ (P := P) (r := r) (l := l.take m) (o₁ := l[m]) (tl := l.drop (m + 1)) (J := QJ l m a vals { w with drawn := w.drawn + 1 }) (Q := up n K) (by rw [← hl]; exact hlex) (by rw [hm', ← hl]; rw [hg] at hlast; exact hlast) (by rw [hm', ← hl]; exact hch)
    (fun hi hD => hi.cong (by omega) (by rw [← hl] at hD; exact hD)) (fun {D a' w' j o rest} hj ho hnD hp hcl hi hk => by
      rw [← hl] at hcl hk ⊢
      rw [hm'] at hj
      rw [List.getElem?_take, if_pos hj] at ho
      exact QJ.step hlex hsl hvl (by omega) h1 h2 hj ho hnD hp hcl hi hk) (fun a' w' hi => by
      rw [hm'] at hi
      obtain ⟨L', hA, hk, hw⟩ := hend a' w' hi
      rw [← hl, ← List.drop_eq_getElem_cons hSl, hw]
      exact hk.run a' hA) l.length t (Array.replicate l.length false) a { w with drawn := w.drawn + 1 }
  rw [← hl] at key
  have hsz : l.toArray.size = l.length := by simp
  rw [hsz]
  refine key (by simp) (by simp [List.countP_replicate]) (fun i h3 h4 => ?_) (fun i o h3 h4 => ?_) ⟨rfl, rfl, rfl, fun i o v t h3 h4 h5 h6 => ?_, fun t _ => rfl⟩
  · simp [Array.getElem?_replicate]; exact h4
  · simp [Array.getElem?_replicate] at h4
  · simp [Array.getElem?_replicate] at h6
theorem EndP.nil {M : PSet} {k : Sl → Prop} {acc : Sl} (h : k acc) : EndP (M := M) w k [] [] acc := by unfold EndP; exact h
/-- a code whose ways come together behind it -/
theorem T.seqJoin {x y : Code} (L1 : Sl) (h : T P r n x L ds w (fun e L' ds' w' => e = .normal ∧ ds' = ds ∧ w' = w ∧ Sub L1 L')) (k : T P r n y L1 ds w K) : T P r n (.seq x y) L ds w K :=
  .seq (h.mono fun e L' ds' w' ⟨he, hd, hw, hs⟩ => by subst he; rw [hd, hw]; exact k.weaken L1 hs)
end
end Go.K

/- A region that draws its order, walked in an order of one's own: first what changes nothing, then the others, one behind the other; of the first ones some may come late, if they yield the same in any of the worlds that the others make. No program is named here. -/
import Derived.Test.YtohfoenhmkfjkaaGreatDoorKQuiet
namespace Go.K
set_option linter.unusedVariables false
set_option linter.unusedSimpArgs false
section
variable {P : Program} {r : Option Nat} {n : Nat} {L : Sl} {ds : List Deferred} {w : World} {K : Kt}

/-! ### What an operation asks, in general -/
def tailOp : Op → Bool
  | .defer _ | .go _ | .select .. | .send .. | .recv .. => false
  | _ => true
theorem op_cong {ρ ρ' : Operand → Value} {o : Oper} (hq : tailOp o.op = true) (h : ∀ x ∈ o.op.operands, ρ x = ρ' x) : execOp ρ o = execOp ρ' o := by
  obtain ⟨dst, op, type, pos, after, guard⟩ := o
  have hmap : ∀ {xs : Array Operand}, (∀ x ∈ xs, ρ x = ρ' x) → xs.map ρ = xs.map ρ' := fun hx => Array.map_congr_left hx
  have hopt : ∀ {x : Option Operand}, (∀ y, x = some y → ρ y = ρ' y) → x.map ρ = x.map ρ' := fun {x} hx => by
    cases x with
    | none => rfl
    | some y => simp [hx y rfl]
  cases op <;> simp only [tailOp, Bool.false_eq_true] at hq <;> simp only [Op.operands, List.mem_toArray, List.mem_cons, List.not_mem_nil, or_false, forall_eq_or_imp, forall_eq, Array.mem_append, Option.mem_toArray] at h <;> simp only [execOp]
  case pick => rw [h.1, h.2.1, h.2.2]
  case build t ps =>
    have : ps.map (fun p => (p.1, ρ p.2)) = ps.map (fun p => (p.1, ρ' p.2)) := Array.map_congr_left fun p hp => by
      rw [h p.2 (List.mem_map.2 ⟨p, by simpa using hp, rfl⟩)]
    rw [this]
  case buildSlice t k ps =>
    have : ps.map (fun p => (p.1, ρ p.2)) = ps.map (fun p => (p.1, ρ' p.2)) := Array.map_congr_left fun p hp => by
      rw [h p.2 (List.mem_map.2 ⟨p, by simpa using hp, rfl⟩)]
    rw [this]
  case nilCheck => rw [h]
  case binOp => rw [h.1, h.2]
  case makeFunc f xs ys => rw [hmap (fun x hx => h x (.inl hx)), hmap (fun x hx => h x (.inr hx))]
  case makeMap t xs => rw [hopt (fun y hy => h y (by simp [hy]))]
  case slice t x lo hi mx =>
    rw [h x (by simp), hopt (x := lo) (fun y hy => h y (by simp [hy])), hopt (x := hi) (fun y hy => h y (by simp [hy])), hopt (x := mx) (fun y hy => h y (by simp [hy]))]
  case call c =>
    obtain ⟨cal, args, ats⟩ := c
    cases cal with
    | builtin b =>
      simp only [Call.operands, Array.empty_append] at h
      simp only [resolve, hmap h]
    | invoke x name =>
      simp only [Call.operands, Array.mem_append, List.mem_toArray, List.mem_singleton] at h
      simp only [resolve, h x (.inl rfl), hmap (fun y hy => h y (.inr hy))]
    | value x =>
      simp only [Call.operands, Array.mem_append, List.mem_toArray, List.mem_singleton] at h
      simp only [resolve, h x (.inl rfl), hmap (fun y hy => h y (.inr hy))]
  all_goals first
    | rw [h]
    | rw [h.1, h.2]
    | rw [h.1, h.2.1, h.2.2]
    | rfl

/-! ### Worlds in which what was not written lies as it lay -/
def Keep (N : PSet) (wd w : World) : Prop := wd.heap.size ≤ w.heap.size ∧ ∀ b, b < wd.heap.size → ¬ N b → w.heap[b]? = wd.heap[b]?
theorem Keep.refl (N : PSet) (w : World) : Keep N w w := ⟨Nat.le_refl _, fun _ _ _ => rfl⟩
theorem Keep.go {M M' N N' : PSet} {wd w w' : World} (h : Keep N wd w) (s : Step M w M' w' N') (hN : ∀ b, b < wd.heap.size → N' b → N b) : Keep N wd w' :=
  ⟨Nat.le_trans h.1 s.size, fun b hb hn => (s.same b (Nat.lt_of_lt_of_le hb h.1) (fun hb' => hn (hN b hb hb'))).trans (h.2 b hb hn)⟩
theorem Keep.go0 {M M' N : PSet} {wd w w' : World} (h : Keep N wd w) (s : Step M w M' w' none') : Keep N wd w' := h.go s fun _ _ h => h.elim
theorem Keep.goN {M M' N : PSet} {wd w w' : World} (h : Keep N wd w) (s : Step M w M' w' N) : Keep N wd w' := h.go s fun _ _ h => h
/-- the same in any such world -/
def FloatOk (P : Program) (N : PSet) (wd : World) (L : Sl) (o : Oper) : Prop := ∀ ρ : Operand → Value, (∀ x u, ev L x = some u → ρ x = u) → ∀ v w', Keep N wd w' → (execOp ρ o).run P wd = .ok (.value v) wd → (execOp ρ o).run P w' = .ok (.value v) w'
/-- the operations behind the first ones -/
def TRg (P : Program) (r : Option Nat) (n : Nat) (ops : Array Oper) (N : PSet) (wd : World) (K : Kt) : List Oper → Sl → List Deferred → World → Prop
  | [], L, ds, w => K .normal L ds w
  | o :: rest, L, ds, w => Rg P r n ops [o] L ds w (fun e L' ds' w' => e = .normal ∧ ds' = ds ∧ Keep N wd w' ∧ TRg P r n ops N wd K rest L' ds w')
theorem TRg.nil {ops : Array Oper} {N : PSet} {wd : World} (h : K .normal L ds w) : TRg P r n ops N wd K [] L ds w := h

/-- all operations ahead of the j-th one but those of fl are among acc, or are what one of these stands behind, or .. -/
def behindF (l : List Oper) (fl : List Nat) : Nat → List Nat → Bool
  | 0, _ => true
  | j + 1, acc => if fl.contains j then behindF l fl j acc else acc.contains j && behindF l fl j (acc ++ (l[j]?.map preds).getD [])
theorem behindF_all {l : List Oper} {fl : List Nat} {D : Nat → Prop} (hcl : ∀ k o, l[k]? = some o → D k → ∀ i ∈ preds o, D i) : ∀ (j : Nat) (acc : List Nat), behindF l fl j acc = true → (∀ k ∈ acc, D k) → ∀ i, i < j → i ∉ fl → D i
  | 0, _, _, _, i, hi, _ => by omega
  | j + 1, acc, h, ha, i, hi, hf => by
    simp only [behindF] at h
    split at h
    · rename_i hj
      rcases Nat.lt_or_ge i j with hlt | hge
      · exact behindF_all hcl j acc h ha i hlt hf
      · obtain rfl : i = j := by omega
        exact absurd (by simpa using hj) hf
    · simp only [Bool.and_eq_true, List.contains_iff_mem] at h
      have hj := ha j h.1
      rcases Nat.lt_or_ge i j with hlt | hge
      · refine behindF_all hcl j _ h.2 (fun k hk => ?_) i hlt hf
        rcases List.mem_append.1 hk with hk | hk
        · exact ha k hk
        · cases ho : l[j]? with
          | none => rw [ho] at hk; simp at hk
          | some o => rw [ho] at hk; exact hcl j o ho hj k (by simpa using hk)
      · rw [show i = j from by omega]; exact hj
/-- fl: those of the first m that may come late -/
def floatsOk (l : List Oper) (m : Nat) (fl : List Nat) : Bool :=
  -- the last ones: one behind the other; the first of them behind all that may not come late
  chainB l (m + 1) && behindF l fl m ((l[m]?.map preds).getD []) &&
  ((List.range' m (l.length - m)).all fun j => match l[j]? with
    | some o => tailOp o.op && (asks l o).all fun t => (List.range m).all fun i => match l[i]? with
      | some o' => !(o'.dst == some t) || (preds o).contains i
      | none => true
    | none => true) &&
  -- what may come late asks nothing that is yielded late
  ((List.range m).all fun j => !fl.contains j || match l[j]? with
    | some o => (asks l o).all fun t => (List.range l.length).all fun i => match l[i]? with
      | some o' => !(o'.dst == some t) || (preds o).contains i || (Nat.ble m i && (preds o').contains j)
      | none => true
    | none => true)
theorem floatsOk_get {l : List Oper} {m : Nat} {fl : List Nat} (h : floatsOk l m fl = true) :
    chainB l (m + 1) = true ∧ behindF l fl m ((l[m]?.map preds).getD []) = true ∧
    (∀ j o, m ≤ j → l[j]? = some o → tailOp o.op = true ∧ ∀ t ∈ asks l o, ∀ i o', i < m → l[i]? = some o' → o'.dst = some t → i ∈ preds o) ∧
    (∀ j o, j < m → j ∈ fl → l[j]? = some o → ∀ t ∈ asks l o, ∀ i o', l[i]? = some o' → o'.dst = some t → i ∈ preds o ∨ m ≤ i ∧ j ∈ preds o') := by
  simp only [floatsOk, Bool.and_eq_true] at h
  obtain ⟨⟨⟨h1, h2⟩, h3⟩, h4⟩ := h
  refine ⟨h1, h2, fun j o hj ho => ?_, fun j o hj hf ho t ht i o' ho' hd => ?_⟩
  · have hlt := (List.getElem?_eq_some_iff.1 ho).1
    have := List.all_eq_true.1 h3 j (List.mem_range'_1.2 ⟨hj, by omega⟩)
    rw [ho] at this
    simp only [Bool.and_eq_true] at this
    refine ⟨this.1, fun t ht i o' hi ho' hd => ?_⟩
    have h5 := List.all_eq_true.1 (List.all_eq_true.1 this.2 t ht) i (List.mem_range.2 hi)
    rw [ho'] at h5
    simpa [hd] using h5
  · have hlt := (List.getElem?_eq_some_iff.1 ho').1
    have := List.all_eq_true.1 h4 j (List.mem_range.2 hj)
    rw [ho] at this
    simp only [Bool.or_eq_true, Bool.not_eq_true', List.contains_eq_mem, decide_eq_false_iff_not] at this
    have h5 := List.all_eq_true.1 (List.all_eq_true.1 (this.resolve_left (fun h => h hf)) t ht) i (List.mem_range.2 hlt)
    rw [ho'] at h5
    simp only [hd, beq_self_eq_true, Bool.not_true, Bool.false_or, Bool.or_eq_true, Bool.and_eq_true, Nat.ble_eq, decide_eq_true_eq, List.contains_iff_mem] at h5
    rcases h5 with h | h
    · exact .inl h
    · exact .inr h

structure GJ (P : Program) (r : Option Nat) (n : Nat) (l : List Oper) (m : Nat) (fl : List Nat) (N : PSet) (K : Kt) (ds : List Deferred) (a0 am : Act) (wd : World) (D : Nat → Prop) (a : Act) (w : World) (p : Nat) (ac : Act) (Lp : Sl) : Prop where
  p0 : m ≤ p
  p1 : p ≤ l.length
  dt : ∀ i, m ≤ i → i < l.length → (D i ↔ i < p)
  df : m < p → ∀ i, i < m → i ∉ fl → D i
  ag : Agree n ac Lp ds
  tr : TRg P r n l.toArray N wd K (l.drop p) Lp ds w
  keep : Keep N wd w
  wm : p = m → w = wd
  defers : a.defers = ds
  size : a.tmps.size = a0.tmps.size
  sizec : ac.tmps.size = a0.tmps.size
  done : ∀ t, (∀ i o, i < m → l[i]? = some o → o.dst = some t → D i) → a.tmps[t]? = ac.tmps[t]?
  pend : ∀ i o t, i < m → l[i]? = some o → o.dst = some t → ¬ D i → a.tmps[t]? = a0.tmps[t]?
  cm : ∀ t, (∀ i o, m ≤ i → i < p → l[i]? = some o → o.dst ≠ some t) → ac.tmps[t]? = am.tmps[t]?

/-- one operation of a known walk, at other slots -/
theorem one_move {ops : Array Oper} {Qc Q : Exit → Act → World → Prop} {i : Nat} {rest : List Nat} {o : Oper} {a ac : Act} (ho : ops[i]? = some o) (hq : tailOp o.op = true) (hev : ∀ x ∈ o.op.operands, a.eval x = ac.eval x) (hwt : Region.wanted o (yielded ops a.tmps) = Region.wanted o (yielded ops ac.tmps)) (hdf : a.defers = ac.defers)
    (h : wpListIn (FW r) 0 P ops Qc [o] ac w) (hno : ∀ e a w, Qc e a w → e = .normal) (hk : ∀ v w', Qc .normal (ac.put o.dst v) w' → wpOpsIn (FW r) 0 P ops Q rest (a.put o.dst v) w') (hdd : ∀ d w', ¬ Qc .normal ({ ac with defers := d :: ac.defers }.put o.dst undef) w') : wpOpsIn (FW r) 0 P ops Q (i :: rest) a w := by
  simp only [wpOpsIn, ho]
  simp only [wpListIn] at h
  rw [hwt]
  have hnd : ∀ c, o.op ≠ .defer c := fun c hc => by rw [hc] at hq; cases hq
  split
  · rename_i hw
    rw [if_pos hw] at h
    obtain ⟨_, h2⟩ := h
    refine ⟨fun _ _ => trivial, ?_⟩
    rw [Oper.semAt_eq _ _ _ hnd] at h2 ⊢
    rw [op_cong hq hev]
    generalize (execOp ac.eval o).run P w = res at h2 ⊢
    cases res with
    | ok nx w' =>
      cases nx with
      | value v => exact hk _ _ h2
      | skip => exact hk _ _ h2
      | defer d => exact absurd h2 (hdd d w')
      | enter f args => exact ⟨h2.1, h2.2.mono fun e w'' he => by
          cases e with
          | returned v => exact hk _ _ he
          | panicked c => exact absurd (hno _ _ _ he) (by simp)
          | outgrown => obtain ⟨a, w, h⟩ := he; exact absurd (hno _ _ _ h) (by simp)⟩
      | row row args => exact ⟨h2.1, h2.2.mono fun _ _ he => hk _ _ he⟩
      | round l f tmps asn body => exact ⟨h2.1, h2.2.mono fun e w'' he => by
          cases e with
          | returned v => exact hk _ _ he
          | panicked c => exact absurd (hno _ _ _ he) (by simp)
          | outgrown => obtain ⟨a, w, h⟩ := he; exact absurd (hno _ _ _ h) (by simp)⟩
      | _ => exact h2.elim
    | halt x w' =>
      cases x with
      | panic v => exact absurd (hno _ _ _ h2) (by simp)
      | _ => exact h2.elim
  · rename_i hw
    rw [if_neg hw] at h
    exact ⟨fun _ _ => trivial, hk _ _ h.2⟩

theorem GJ.next {l : List Oper} {m : Nat} {fl : List Nat} {N : PSet} {a0 am : Act} {vals : List Value} {wd : World} (hlex : lexOk l 0 = true) (hsl : slotsOk l m = true) (hfl : floatsOk l m fl = true) (hml : m < l.length) (hvl : ∀ i, i < m → ∃ v, vals[i]? = some v)
    {st : Nat → Act} (hst : ∀ j o, j < m → l[j]? = some o → ∃ v, vals[j]? = some v ∧ One P r l.toArray wd o (st j) v) (hjs : ∀ j, j < m → QJ l m a0 vals wd (fun i => i < j) (st j) wd) (ham : QJ l m a0 vals wd (fun i => i < m) am wd)
    {Lm : Sl} (hLm : Agree n am Lm ds) (hF : ∀ j o, j ∈ fl → l[j]? = some o → FloatOk P N wd Lm o)
    {Q : Exit → Act → World → Prop} {D : Nat → Prop} {a : Act} {w : World} {j : Nat} {o : Oper} {rest : List Nat} (ho : l[j]? = some o) (hnD : ¬ D j) (hp : ∀ k ∈ preds o, D k) (hcl : ∀ i o, l[i]? = some o → D i → ∀ k ∈ preds o, D k) (hi : ∃ p ac Lp, GJ P r n l m fl N K ds a0 am wd D a w p ac Lp)
    (hk : ∀ a' w', (∃ p ac Lp, GJ P r n l m fl N K ds a0 am wd (fun i => i = j ∨ D i) a' w' p ac Lp) → wpOpsIn (FW r) 0 P l.toArray Q rest a' w') : wpOpsIn (FW r) 0 P l.toArray Q (j :: rest) a w := by
  obtain ⟨p, ac, Lp, hi⟩ := hi
  obtain ⟨hch, hbeh, htl, hfo⟩ := floatsOk_get hfl
  have hjl := (List.getElem?_eq_some_iff.1 ho).1
  rcases Nat.lt_or_ge j m with hj | hj
  · -- one of the first
    obtain ⟨v, hv, h1⟩ := hst j o hj ho
    obtain ⟨hq, hso⟩ := slotsOk_get hsl hj ho
    have hmf : m < p → j ∈ fl := fun h => Classical.byContradiction fun hf => hnD (hi.df h j hj hf)
    -- the slots that it asks are as in the text's order
    have hag : ∀ t ∈ asks l o, a.tmps[t]? = (st j).tmps[t]? := fun t ht => by
      by_cases hx : ∃ i o', i < m ∧ l[i]? = some o' ∧ o'.dst = some t
      · obtain ⟨i, o', him, ho', hd⟩ := hx
        obtain ⟨v', hv'⟩ := hvl i him
        rcases hso t ht i o' him ho' hd with h | h | h
        · have hDi := hp i h
          have hij := lexOk_preds hlex j o ho i h
          rw [hi.done t (fun k ok hkm hok hkd => by rw [dst_unique hlex hok ho' hkd hd]; exact hDi), hi.cm t (fun k ok hk1 hk2 hok hkd => by have := dst_unique hlex hok ho' hkd hd; omega), ham.done i o' v' t him ho' hv' him hd, (hjs j hj).done i o' v' t him ho' hv' (by omega) hd]
        · subst h
          rw [hi.pend i o' t him ho' hd hnD, (hjs i hj).base t (fun k ok hkm hok hkd hkk => by have := dst_unique hlex hok ho' hkk hd; omega)]
        · have hij := lexOk_preds hlex i o' ho' j h
          rw [hi.pend i o' t him ho' hd (fun hDi => hnD (hcl i o' ho' hDi j h)), (hjs j hj).base t (fun k ok hkm hok hkd hkk => by have := dst_unique hlex hok ho' hkk hd; omega)]
      · have hno : ∀ k ok, k < m → l[k]? = some ok → ok.dst ≠ some t := fun k ok hkm hok hkd => hx ⟨k, ok, hkm, hok, hkd⟩
        rw [hi.done t (fun k ok hkm hok hkd => absurd hkd (hno k ok hkm hok)), hi.cm t (fun k ok hk1 hk2 hok hkd => by
          rcases hfo j o hj (hmf (by omega)) ho t ht k ok hok hkd with h | ⟨_, h⟩
          · have := lexOk_preds hlex j o ho k h; omega
          · exact hnD (hcl k ok hok ((hi.dt k hk1 (List.getElem?_eq_some_iff.1 hok).1).2 hk2) j h)), ham.base t (fun k ok hkm hok _ => hno k ok hkm hok), (hjs j hj).base t (fun k ok hkm hok _ => hno k ok hkm hok)]
    obtain ⟨hev, hwt⟩ := asks_eval hag
    have h2 : One P r l.toArray w o a v := by
      rcases Nat.eq_or_lt_of_le hi.p0 with hpm | hpm
      · have hww := hi.wm hpm.symm
        unfold One at h1 ⊢
        rw [hwt, quiet_cong hq hev, hww]; exact h1
      · have hjf := hmf hpm
        -- as in the state behind all the first
        have hagm : ∀ t ∈ asks l o, am.tmps[t]? = (st j).tmps[t]? := fun t ht => ham.agree hlex hvl (hjs j hj) fun i o' him ho' hd => by
          rcases hfo j o hj hjf ho t ht i o' ho' hd with h | ⟨h, _⟩
          · have := lexOk_preds hlex j o ho i h; exact ⟨fun _ => by omega, fun _ => him⟩
          · omega
        obtain ⟨hevm, _⟩ := asks_eval hagm
        unfold One at h1 ⊢
        rw [hwt]
        split
        · rename_i hw
          rw [if_pos hw] at h1
          rw [← quiet_cong hq hevm] at h1
          rw [quiet_cong hq hev, ← quiet_cong hq hevm]
          exact hF j o hjf ho am.eval (fun x u hx => hLm.eval hx) v w hi.keep h1
        · rename_i hw
          rw [if_neg hw] at h1; exact h1
    refine h2.run (by simpa using ho) hq (hk _ _ ⟨p, ac, Lp, hi.p0, hi.p1, fun i h3 h4 => ?_, fun h i h3 h4 => .inr (hi.df h i h3 h4), hi.ag, hi.tr, hi.keep, hi.wm, by rw [put_defers]; exact hi.defers, by rw [put_size]; exact hi.size, hi.sizec, fun t ht => ?_, fun i o' t him ho' hd hni => ?_, hi.cm⟩)
    · rw [← hi.dt i h3 h4]; exact ⟨fun h => h.resolve_left (by omega), .inr⟩
    · rw [put_tmps]
      by_cases e : o.dst = some t
      · rw [if_pos e, hi.cm t (fun k ok hk1 hk2 hok hkd => by have := dst_unique hlex hok ho hkd e; omega), ham.done j o v t hj ho hv hj e]
        exact set_cell hi.size
      · rw [if_neg e]
        exact hi.done t fun i o' him ho' hd => (ht i o' him ho' hd).resolve_left (fun h => by subst h; rw [ho] at ho'; cases ho'; exact e hd)
    · rw [put_tmps, if_neg (fun e => hni (.inl (dst_unique hlex ho' ho hd e)))]
      exact hi.pend i o' t him ho' hd (fun h => hni (.inr h))
  · -- one of the last: the next of them
    have hjp : j = p := by
      have h1 : p ≤ j := by
        rcases Nat.lt_or_ge j p with h | h
        · exact absurd ((hi.dt j hj hjl).2 h) hnD
        · exact h
      rcases Nat.lt_or_ge m j with h | h
      · have h2 := hp _ (chainB_get hch (j := j) (by omega) ho)
        have := (hi.dt (j - 1) (by omega) (by omega)).1 h2
        omega
      · have := hi.p0; omega
    subst hjp
    obtain ⟨hto, hts⟩ := htl j o hj ho
    have hall : ∀ i, i < m → i ∉ fl → D i := fun i him hif => by
      rcases Nat.eq_or_lt_of_le hi.p0 with h | h
      · rw [h, ho] at hbeh
        exact behindF_all (D := D) hcl j (preds o) hbeh hp i (by omega) hif
      · exact hi.df h i him hif
    have hag : ∀ t ∈ asks l o, a.tmps[t]? = ac.tmps[t]? := fun t ht => hi.done t fun i o' him ho' hd => hp i (hts t ht i o' him ho' hd)
    obtain ⟨hev, hwt⟩ := asks_eval hag
    have htr := hi.tr
    rw [List.drop_eq_getElem_cons hjl, (List.getElem?_eq_some_iff.1 ho).2] at htr
    have h1 := Rg.run htr ac hi.ag
    refine one_move (by simpa using ho) hto hev hwt (by rw [hi.defers, hi.ag.defers]) h1 (fun e a w ⟨_, _, _, he, _⟩ => he) (fun v w' ⟨L', ds', hA, _, hds, hkp, htr'⟩ => ?_) (fun d w' ⟨L', ds', hA, _, hds, _⟩ => ?_)
    · rw [hds] at hA
      refine hk _ _ ⟨j + 1, ac.put o.dst v, L', by omega, by omega, fun i h3 h4 => ?_, fun _ i h3 h4 => .inr (hall i h3 h4), hA, htr', hkp, fun h => by omega, by rw [put_defers]; exact hi.defers, by rw [put_size]; exact hi.size, by rw [put_size]; exact hi.sizec, fun t ht => ?_, fun i o' t him ho' hd hni => ?_, fun t ht => ?_⟩
      · constructor
        · rintro (h | h)
          · omega
          · have := (hi.dt i h3 h4).1 h; omega
        · intro h
          rcases Nat.eq_or_lt_of_le (show i ≤ j by omega) with h5 | h5
          · exact .inl h5
          · exact .inr ((hi.dt i h3 h4).2 h5)
      · rw [put_tmps, put_tmps]
        split
        · exact set_cell (hi.size.trans hi.sizec.symm)
        · exact hi.done t fun i o' him ho' hd => (ht i o' him ho' hd).resolve_left (by omega)
      · rw [put_tmps, if_neg (fun e => by have := dst_unique hlex ho' ho hd e; omega)]
        exact hi.pend i o' t him ho' hd (fun h => hni (.inr h))
      · rw [put_tmps, if_neg (ht j o hj (by omega) ho)]
        exact hi.cm t fun i o' h3 h4 h5 => ht i o' h3 (by omega) h5
    · have h3 := hA.defers
      rw [put_defers, hds] at h3
      have h4 := congrArg List.length h3
      rw [hi.ag.defers] at h4
      simp at h4
/-- A region that draws its order: the first m, which change nothing; then the others in the text's order. fl: those of the first that may come late, N: what the others may write. -/
theorem T.drawF {id : Nat} {l : List Oper} (m : Nat) (fl : List Nat) (N : PSet) (hm : P.follows .mixedOrders = true) (hml : Nat.blt m l.length = true) (hlex : lexOk l 0 = true) (hsl : slotsOk l m = true) (hfl : floatsOk l m fl = true)
    (h : ∀ wD, (∀ M, Step M w M wD none') → QRg P r n l.toArray (l.take m) L ds wD (fun L' => (∀ j o, j ∈ fl → l[j]? = some o → FloatOk P N wD L' o) ∧ TRg P r n l.toArray N wD K (l.drop m) L' ds wD)) : T P r n (.region id l.toArray true) L ds w K := by
  refine ⟨fun a ha => wpIn_region_draw fun t => ?_⟩
  simp only [Region.schedule, hm, Bool.true_or, if_true, Region.linearise]
  have hSl : m < l.length := by simpa [Nat.blt_eq] using hml
  have hQ := h _ (step_drawn w)
  have hget : ∀ j, j < m → (l.take m)[j]? = l[j]? := fun j hj => by rw [List.getElem?_take, if_pos hj]
  obtain ⟨am, Lm, vs, htr, hA, hF, hT⟩ := hQ.trace (fun o ho => by
    obtain ⟨j, hj⟩ := List.mem_iff_getElem?.1 ho
    have hjm : j < m := by
      have := (List.getElem?_eq_some_iff.1 hj).1
      rw [List.length_take] at this; omega
    exact (slotsOk_get hsl hjm (by rw [← hget j hjm]; exact hj)).1) ha
  obtain ⟨st, h0, hl, hst⟩ := htr.states
  have hlen : (l.take m).length = m := by rw [List.length_take]; omega
  rw [hlen] at hl
  have hst' : ∀ j o, j < m → l[j]? = some o → ∃ v, vs[j]? = some v ∧ One P r l.toArray _ o (st j) v ∧ st (j + 1) = (st j).put o.dst v := fun j o hj ho => hst j o (by rw [hget j hj]; exact ho)
  have hvl : ∀ i, i < m → ∃ v, vs[i]? = some v := fun i hi => by
    obtain ⟨v, hv, _⟩ := hst' i l[i] hi (List.getElem?_eq_getElem (by omega))
    exact ⟨v, hv⟩
  have hjs := states_QJ hlex h0 hst'
  have ham := hjs m (Nat.le_refl _) (by omega)
  rw [hl] at ham
  refine go_ordersJ (J := fun D a' w' => ∃ p ac Lp, GJ P r n l m fl N K ds a am { w with drawn := w.drawn + 1 } D a' w' p ac Lp) hlex (fun {D D' a' w'} ⟨p, ac, Lp, hi⟩ hD => ⟨p, ac, Lp, hi.p0, hi.p1, fun i h3 h4 => (hD i h4).trans (hi.dt i h3 h4), fun h i h3 h4 => (hD i (by omega)).2 (hi.df h i h3 h4), hi.ag, hi.tr, hi.keep, hi.wm, hi.defers, hi.size, hi.sizec, fun t ht => hi.done t fun i o h3 h4 h5 => (hD i (by omega)).1 (ht i o h3 h4 h5), fun i o t h3 h4 h5 h6 => hi.pend i o t h3 h4 h5 (fun h => h6 ((hD i (by omega)).2 h)), hi.cm⟩)
    (fun {D a' w' j o rest} hj ho hnD hp hcl hi hk => GJ.next hlex hsl hfl hSl hvl (fun j o hj ho => by obtain ⟨v, h1, h2, _⟩ := hst' j o hj ho; exact ⟨v, h1, h2⟩) (fun j hj => hjs j (by omega) (by omega)) ham hA hF ho hnD hp hcl hi hk) (fun a' w' hJ => ?_) _ t _ a _ (by simp) (by simp [List.countP_replicate]) (fun i o h1 h2 => ?_) ⟨m, am, Lm, Nat.le_refl _, by omega, fun i h3 h4 => ?_, fun h => by omega, hA, hT, Keep.refl _ _, fun _ => rfl, ha.defers, rfl, ham.size, fun t ht => ?_, fun i o t _ _ _ _ => rfl, fun t _ => rfl⟩
  · obtain ⟨p, ac, Lp, hi⟩ := hJ
    have hpl : p = l.length := by
      rcases Nat.lt_or_ge p l.length with h3 | h3
      · have := (hi.dt p hi.p0 h3).1 h3; omega
      · have := hi.p1; omega
    have htr := hi.tr
    rw [hpl, List.drop_eq_nil_of_le (Nat.le_refl _)] at htr
    refine ⟨Lp, ds, ⟨?_, hi.defers, fun t v ht => ?_⟩, htr⟩
    · rw [hi.size]; exact ha.size
    · rw [hi.done t fun i o h3 h4 _ => by omega]; exact hi.ag.at_ t v ht
  · simp [Array.getElem?_replicate] at h2
  · simp [Array.getElem?_replicate]; omega
  · rw [ham.base t fun i o h3 h4 _ h5 => ?_]
    have := ht i o h3 h4 h5
    simp [Array.getElem?_replicate] at this

/-! ### What yields the same in any such world -/
def Floats (P : Program) (N : PSet) (wd : World) (L : Sl) (l : List Oper) : List Nat → Prop
  | [] => True
  | j :: js => (match l[j]? with | some o => FloatOk P N wd L o | none => True) ∧ Floats P N wd L l js
theorem Floats.all {N : PSet} {wd : World} {l : List Oper} : ∀ {fl : List Nat}, Floats P N wd L l fl → ∀ j o, j ∈ fl → l[j]? = some o → FloatOk P N wd L o
  | [], _, j, o, hj, _ => absurd hj (List.not_mem_nil)
  | k :: fl, h, j, o, hj, ho => by
    rcases List.mem_cons.1 hj with e | hj
    · have h1 := h.1
      rw [← e, ho] at h1; exact h1
    · exact Floats.all h.2 j o hj ho
variable {N : PSet} {wd : World} {dst : Option Nat} {ty : TypeId} {pos : String} {af : Array Edge} {gd : Option (Nat × Bool)} {x y i : Operand}
theorem FloatOk.move : FloatOk P N wd L { dst, op := .move x, type := ty, pos, after := af, guard := gd } := fun ρ _ v w' _ h => by
  have h : Result.ok (Next.value (ρ x)) wd = .ok (.value v) wd := h
  cases h; rfl
theorem FloatOk.assign : FloatOk P N wd L { dst, op := .assign x, type := ty, pos, after := af, guard := gd } := fun ρ _ v w' _ h => by
  have h : Result.ok (Next.value (ρ x)) wd = .ok (.value v) wd := h
  cases h; rfl
/-- runs that ask no memory -/
def Loc {α : Type} (s : Sem α) : Prop := ∀ (P : Program) (w1 : World) (a : α) (w' : World), s.run P w1 = .ok a w' → w' = w1 ∧ ∀ w2, s.run P w2 = .ok a w2
theorem Loc.bind {α β : Type} {s : Sem α} {f : α → Sem β} (h : Loc s) (hf : ∀ a, Loc (f a)) : Loc (s >>= f) := fun P w1 b w' hr => by
  rw [Sem.run_bind] at hr
  cases hs : s.run P w1 with
  | ok a wa =>
    rw [hs] at hr
    obtain ⟨rfl, h2⟩ := h P w1 a wa hs
    obtain ⟨h3, h4⟩ := hf a P _ b w' hr
    exact ⟨h3, fun w2 => by rw [Sem.run_bind, h2 w2]; exact h4 w2⟩
  | halt e wa => rw [hs] at hr; simp [Result.andThen] at hr
theorem Loc.pure {α : Type} (a : α) : Loc (Pure.pure a : Sem α) := fun P w1 b w' hr => by
  simp only [Sem.run_pure, Result.ok.injEq] at hr
  exact ⟨hr.2.symm, fun w2 => by rw [← hr.1]; rfl⟩
theorem Loc.val {s : Sem Value} (h : Loc s) : Loc (do Pure.pure (Next.value (← s)) : Sem Next) := h.bind fun v => .pure _
theorem Loc.halt {α : Type} {s : Sem α} (h : ∀ (P : Program) (w : World) a w', s.run P w ≠ .ok a w') : Loc s := fun P w1 a w' hr => absurd hr (h P w1 a w')
theorem Loc.stuck {α : Type} (e : Halt) : Loc (.halt e : Sem α) := .halt fun P w a w' h => by simp [Sem.run] at h
theorem FloatOk.free {o : Oper} (h : ∀ ρ : Operand → Value, (∀ x u, ev L x = some u → ρ x = u) → Loc (execOp ρ o)) : FloatOk P N wd L o := fun ρ hρ v w' _ hr => (h ρ hρ P wd _ _ hr).2 w'
theorem loc_under (t : TypeId) : Loc (underlying t) := fun P w1 a w' hr => by
  simp only [underlying, Sem.run_bind, program, Sem.run, Result.andThen] at hr ⊢
  cases hu : P.underlying t with
  | none => rw [hu] at hr; simp [stuck, Sem.run] at hr
  | some d => rw [hu] at hr; simp only [Sem.run_pure, Result.ok.injEq] at hr ⊢; exact ⟨hr.2.symm, fun w2 => ⟨hr.1, trivial⟩⟩
theorem loc_info (t : TypeId) : Loc (typeInfo t) := fun P w1 a w' hr => by
  simp only [typeInfo, Sem.run_bind, program, Sem.run, Result.andThen] at hr ⊢
  cases hu : P.info? t with
  | none => rw [hu] at hr; simp [stuck, Sem.run] at hr
  | some d => rw [hu] at hr; simp only [Sem.run_pure, Result.ok.injEq] at hr ⊢; exact ⟨hr.2.symm, fun w2 => ⟨hr.1, trivial⟩⟩
theorem loc_size (t : TypeId) : Loc (sizeOf t) := (loc_info t).bind fun _ => .pure _
theorem run_rtpanic {α : Type} (e : RuntimeError) (w w' : World) (a : α) : (runtimePanic e : Sem α).run P w ≠ .ok a w' := fun h => by
  cases e <;> simp only [runtimePanic, program, goPanic, Sem.run, Sem.run_bind, Result.andThen] at h <;> repeat' (first | (cases h; done) | (simp at h; done) | split at h)
theorem loc_panic {α : Type} (e : RuntimeError) : Loc (runtimePanic e : Sem α) := .halt fun P w a w' h => run_rtpanic _ _ _ _ h
theorem loc_bounds {α : Type} (k : IntKind) (i : Int) (n : Int) (c : BoundsCode) : Loc (boundsPanic k i n c : Sem α) := .halt fun P w a w' h => by
  unfold boundsPanic at h
  simp only at h
  split at h
  · rw [Sem.run_bind] at h
    generalize ((· == 1) <$> choose (.extern "runtime.boundsError.signed" 2) : Sem Bool).run P w = res at h
    cases res with
    | ok b w1 =>
      have h : (runtimePanic (.bounds (IntKind.i64.wrap i) n b c) : Sem α).run P w1 = .ok a w' := h
      exact run_rtpanic _ _ _ _ h
    | halt e w1 => simp [Result.andThen] at h
  · have h : (runtimePanic (.bounds (IntKind.i64.wrap i) n (k != IntKind.u64) c) : Sem α).run P w = .ok a w' := by rw [Sem.run_bind] at h; exact h
    exact run_rtpanic _ _ _ _ h
theorem FloatOk.pick {c : Operand} : FloatOk P N wd L { dst, op := .pick c x y, type := ty, pos, after := af, guard := gd } := .free fun ρ _ => by
  simp only [execOp]
  refine Loc.bind (s := asBool (ρ c)) ?_ fun _ => .pure _
  cases ρ c <;> first | exact .pure _ | exact .stuck _
theorem FloatOk.extract {k : Nat} : FloatOk P N wd L { dst, op := .extract x k, type := ty, pos, after := af, guard := gd } := .free fun ρ _ => by
  simp only [execOp]
  refine Loc.val ?_
  unfold Instr.extract
  split
  · split
    · exact .pure _
    · exact .stuck _
  · exact .stuck _
theorem FloatOk.mkIface {t : TypeId} : FloatOk P N wd L { dst, op := .makeInterface t x, type := ty, pos, after := af, guard := gd } := .free fun ρ _ => by
  simp only [execOp]
  refine Loc.val ((loc_under t).bind fun d => ?_)
  cases d <;> first | exact .pure _ | exact .stuck _
theorem loc_sure (v : Value) : Loc (Instr.sureAddr v) := by
  unfold Instr.sureAddr
  split
  · exact .pure _
  · exact .stuck _
theorem loc_asInt (v : Value) : Loc (asIntOf v) := by
  unfold asIntOf
  split
  · exact .pure _
  · exact .stuck _
  · exact .stuck _
theorem FloatOk.idx {t : TypeId} : FloatOk P N wd L { dst, op := .indexAddr t x i, type := ty, pos, after := af, guard := gd } := .free fun ρ _ => by
  simp only [execOp]
  refine Loc.val ?_
  unfold Instr.indexAt
  have key : ∀ (base : Option Addr) (len : Nat) (elem : TypeId) (k : IntKind) (j : Int) (f : TypeDesc → Bool), Loc (underlying t >>= fun u => match base with
      | some a => if 0 ≤ j ∧ j < len then (sizeOf elem >>= fun sz => Pure.pure (Value.pointer (some (a.add (j.toNat * sz))))) else if (decide (len ≤ 1) && f u) = true then unsupported (.noEntry "op/indexAddr.an index out of range at an array of length 0 or 1 (ledger 616)") else boundsPanic k j len .index
      | none => boundsPanic k j 0 .index : Sem Value) := fun base len elem k j f => (loc_under t).bind fun d2 => by
    split
    · split
      · exact (loc_size _).bind fun _ => .pure _
      · split
        · exact .stuck _
        · exact loc_bounds _ _ _ _
    · exact loc_bounds _ _ _ _
  refine (loc_asInt _).bind fun ki => (loc_under t).bind fun d => ?_
  simp only
  split
  · exact (loc_sure _).bind fun a => (Loc.pure _).bind fun bl => by obtain ⟨base, len, elem⟩ := bl; exact key base len elem _ _ (fun d => match d with | .array .. => true | _ => false)
  · exact (Loc.pure _).bind fun bl => by obtain ⟨base, len, elem⟩ := bl; exact key base len elem _ _ (fun d => match d with | .array .. => true | _ => false)
  · exact (Loc.stuck _).bind fun bl => by obtain ⟨base, len, elem⟩ := bl; exact key base len elem _ _ (fun d => match d with | .array .. => true | _ => false)
/-- an address that is known -/
theorem FloatOk.nilCheck {a : Addr} (hx : ev L x = some (.pointer (some a))) : FloatOk P N wd L { dst, op := .nilCheck x, type := ty, pos, after := af, guard := gd } := .free fun ρ hρ => by
  simp only [execOp, hρ x _ hx]; exact .pure _
theorem loc_len_sl {t : TypeId} {a : Option Addr} {k c : Nat} : Loc (Builtin.len_ #[t] ty #[.slice a k c]) := (loc_under t).bind fun d => by
  cases d <;> first | exact .pure _ | exact .stuck _ | (refine (loc_under _).bind fun d => ?_; cases d <;> first | exact .pure _ | exact .stuck _)
theorem FloatOk.lensl {t : TypeId} {a : Option Addr} {k c : Nat} (hx : ev L x = some (.slice a k c)) : FloatOk P N wd L { dst, op := .call { callee := .builtin .len, args := #[x], argTypes := #[t] }, type := ty, pos, after := af, guard := gd } := .free fun ρ hρ => by
  have e : execOp ρ { dst, op := .call { callee := .builtin .len, args := #[x], argTypes := #[t] }, type := ty, pos, after := af, guard := gd } = (do Pure.pure (Next.value (← Builtin.len_ #[t] ty #[ρ x])) : Sem Next) := by
    simp only [execOp, resolve, List.map_toArray, List.map_cons, List.map_nil]; rfl
  rw [e, hρ x _ hx]
  exact Loc.val loc_len_sl
theorem loc_bin {op : BinOp} {t : TypeId} {κ κ' : IntKind} {p q : Int} : Loc (binOp op t (.int κ p) (.int κ' q)) := by
  cases op <;> simp only [binOp] <;> repeat (first
    | exact .pure _
    | exact .stuck _
    | exact loc_panic _
    | (simp only [Op.intArith, Op.intBits, Op.intCmp, Op.intDiv, Op.shift]; done)
    | split
    | simp only [Op.intArith, Op.intBits, Op.intCmp, Op.intDiv, Op.shift])
/-- numbers -/
theorem FloatOk.bin {op : BinOp} {t t' : TypeId} {κ κ' : IntKind} {p q : Int} (hx : ev L x = some (.int κ p)) (hy : ev L y = some (.int κ' q)) : FloatOk P N wd L { dst, op := .binOp op t x y t', type := ty, pos, after := af, guard := gd } := .free fun ρ hρ => by
  simp only [execOp, hρ x _ hx, hρ y _ hy]
  refine Loc.val (Loc.bind ?_ fun _ => loc_bin)
  unfold eqGuard
  cases op <;> exact .pure _
/-- what lies in a block that is not written -/
theorem run_loadCells_same {w w' : World} {b : Nat} (hb : ∃ cs e fr, w.heap[b]? = some (.cells cs e fr)) (hs : w'.heap[b]? = w.heap[b]?) : ∀ (n o i : Nat) (acc a : Array Value) (w1 : World), (loadCellsFrom ⟨b, o, none⟩ i n acc).run P w = .ok a w1 → w1 = w ∧ (loadCellsFrom ⟨b, o, none⟩ i n acc).run P w' = .ok a w'
  | 0, o, i, acc, a, w1, h => by
    simp only [loadCellsFrom, Sem.run_pure, Result.ok.injEq] at h ⊢
    exact ⟨h.2.symm, h.1, trivial⟩
  | n + 1, o, i, acc, a, w1, h => by
    obtain ⟨cs, e, fr, hc⟩ := hb
    simp only [loadCellsFrom, Sem.run_bind] at h ⊢
    have hcell : ∀ k, w'.cell? ⟨b, k, none⟩ = w.cell? ⟨b, k, none⟩ := fun k => by simp only [World.cell?, hs]
    have hadd : (⟨b, o, none⟩ : Addr).add i = ⟨b, o + i, none⟩ := by simp [Addr.add]
    rw [hadd] at h ⊢
    simp only [load, Sem.run] at h ⊢
    rw [hcell]
    cases hv : w.cell? ⟨b, o + i, none⟩ with
    | some v =>
      rw [hv] at h
      simp only [Result.andThen] at h ⊢
      exact run_loadCells_same ⟨cs, e, fr, hc⟩ hs n o (i + 1) (acc.push v) a w1 h
    | none =>
      rw [hv] at h
      simp [World.farLoad, hc, Result.andThen] at h
theorem FloatOk.load {t : TypeId} {b o : Nat} {cs : Array Value} {e : TypeId} {fr : Nat × Nat} (hx : ev L x = some (.pointer (some ⟨b, o, none⟩))) (hb : wd.heap[b]? = some (.cells cs e fr)) (hn : ¬ N b) : FloatOk P N wd L { dst, op := .load t x, type := ty, pos, after := af, guard := gd } := fun ρ hρ v w' hk hr => by
  have hs := hk.2 b (lt_of_get hb) hn
  simp only [execOp, hρ x _ hx] at hr ⊢
  rw [Sem.run_bind] at hr ⊢
  have key : ∀ v w1, (Instr.loadAt t (.pointer (some ⟨b, o, none⟩))).run P wd = .ok v w1 → (Instr.loadAt t (.pointer (some ⟨b, o, none⟩))).run P w' = .ok v w' := fun v w1 h => by
    simp only [Instr.loadAt, Instr.sureAddr, Sem.run_bind, Sem.run_pure, Result.andThen_ok, loadVar] at h ⊢
    have hag : ∀ w : World, (isAgg t).run P w = match P.underlying t with | some (.struct _) | some (.array _ _) => Result.ok true w | some _ => Result.ok false w | none => Result.halt (.stuck "no such type") w := fun w => by
      simp only [isAgg, underlying, Sem.run_bind, program, Sem.run, Result.andThen]
      cases P.underlying t with
      | none => simp [stuck, Sem.run]
      | some d => cases d <;> simp
    rw [hag] at h ⊢
    cases hu : P.underlying t with
    | none => rw [hu] at h; simp [Result.andThen] at h
    | some d =>
      have hsz : ∀ w : World, (sizeOf t).run P w = match P.info? t with | some i => Result.ok i.size w | none => Result.halt (.stuck "no such type") w := fun w => by
        simp only [sizeOf, typeInfo, Sem.run_bind, program, Sem.run, Result.andThen]
        cases P.info? t <;> simp [stuck, Sem.run]
      have hone : ∀ v w1, (Go.load ⟨b, o, none⟩).run P wd = .ok v w1 → (Go.load ⟨b, o, none⟩).run P w' = .ok v w' := fun v w1 h => by
        have hcell : w'.cell? ⟨b, o, none⟩ = wd.cell? ⟨b, o, none⟩ := by simp only [World.cell?, hs]
        simp only [Go.load, Sem.run] at h ⊢
        rw [hcell]
        cases hv : wd.cell? ⟨b, o, none⟩ with
        | some u => rw [hv] at h; simp only [Result.ok.injEq] at h ⊢; exact ⟨h.1, trivial⟩
        | none => rw [hv] at h; simp [World.farLoad, hb] at h
      have hagg : ∀ v w1, (do Pure.pure (Value.agg (← loadCells ⟨b, o, none⟩ (← sizeOf t))) : Sem Value).run P wd = .ok v w1 → (do Pure.pure (Value.agg (← loadCells ⟨b, o, none⟩ (← sizeOf t))) : Sem Value).run P w' = .ok v w' := fun v w1 h => by
        simp only [Sem.run_bind, hsz] at h ⊢
        cases hi : P.info? t with
        | none => rw [hi] at h; simp [Result.andThen] at h
        | some inf =>
          rw [hi] at h
          simp only [Result.andThen] at h ⊢
          cases hl : (loadCells ⟨b, o, none⟩ inf.size).run P wd with
          | ok a w2 =>
            rw [hl] at h
            obtain ⟨_, h2⟩ := run_loadCells_same ⟨cs, e, fr, hb⟩ hs _ _ _ _ _ _ hl
            have h2 : (loadCells ⟨b, o, none⟩ inf.size).run P w' = .ok a w' := h2
            rw [h2]
            simp only [Sem.run_pure, Result.ok.injEq] at h ⊢
            exact ⟨h.1, trivial⟩
          | halt x w2 => rw [hl] at h; simp at h
      rw [hu] at h
      cases d <;> simp only [Result.andThen_ok, if_true, Bool.false_eq_true, if_false] at h ⊢ <;> first | exact hone v w1 h | exact hagg v w1 h
  cases hl : (Instr.loadAt t (.pointer (some ⟨b, o, none⟩))).run P wd with
  | ok u w1 =>
    rw [hl] at hr
    rw [key u w1 hl]
    simp only [Result.andThen_ok, Sem.run_pure, Result.ok.injEq] at hr ⊢
    exact ⟨hr.1, trivial⟩
  | halt x w1 => rw [hl] at hr; simp [Result.andThen] at hr
/-- an address of known data -/
theorem PtrTo.float {α : Type} {A : RT α} {M : PSet} {w : World} {v : Value} {x : α} (h : PtrTo A M w v x) (hn : 0 < A.n := by decide) : ∃ b o cs e fr, v = .pointer (some ⟨b, o, none⟩) ∧ w.heap[b]? = some (.cells cs e fr) ∧ ¬ M b := by
  obtain ⟨b, o, vs, h1, h2, h3, h4⟩ := h
  have hp : 0 < vs.length := by rw [A.len h3]; exact hn
  have hc := h4 0 vs[0] (List.getElem?_eq_getElem hp)
  simp only [World.cell?] at hc
  cases hb : w.heap[b]? with
  | none => rw [hb] at hc; cases hc
  | some ob =>
    rw [hb] at hc
    cases ob with
    | cells cs e fr => exact ⟨b, o, cs, e, fr, h1, hb, h2⟩
    | _ => cases hc
theorem FloatOk.field {s : TypeId} {fs : Array Field} {fd : Field} {j : Nat} {zv : Value} {size bytes : Nat} (hs : P.underlying s = some (.struct fs)) (hj : fs[j]? = some fd) (hi : TI P fd.type zv size bytes) (h0 : size ≠ 0) : FloatOk P N wd L { dst, op := .fieldAddr s x j, type := ty, pos, after := af, guard := gd } := fun ρ hρ v w' hk hr => by
  simp only [execOp, Sem.run_bind] at hr ⊢
  have key : ∀ w, (Instr.fieldAt s (ρ x) j).run P w = match ρ x with | .pointer (some a) => Result.ok (.pointer (some (a.add fd.offset))) w | _ => Result.halt (.stuck "an address expected (no nilCheck in front?)") w := fun w => by
    generalize ρ x = u
    unfold Instr.fieldAt
    simp only [Sem.run_bind, run_underlying hs, Result.andThen_ok, hj]
    unfold Instr.sureAddr
    split
    · simp only [Sem.run_pure, Result.andThen_ok, Sem.run_bind, fieldPlace, hi.sizeOf, h0, if_false]
    · simp [stuck, Sem.run, Result.andThen]
  rw [key] at hr ⊢
  split at hr
  · simp only [Result.andThen_ok, Sem.run_pure, Result.ok.injEq] at hr ⊢; exact ⟨hr.1, trivial⟩
  · simp [Result.andThen] at hr
end
end Go.K

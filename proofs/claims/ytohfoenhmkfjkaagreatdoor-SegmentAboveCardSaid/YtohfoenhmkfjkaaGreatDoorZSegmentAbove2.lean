/- What the law 'SegmentAbove' needs of walks and plain Lean, part 2: nothing is assumed beyond the texts that it imports. -/
import Derived.ChangeKeysEq
import Derived.Deep.MidRow
import Derived.Ground.Names2Prog
import Derived.KernelRfl
import Derived.Laws.Cover3
import Derived.Laws.IdiomCopy
import Derived.Laws.MakeOwn
import Derived.Laws.Pointers
import Derived.Laws.StructEq
import Derived.Lib.RuneBytes
import Derived.Lib.SliceRun
import Derived.Maps.OwnSet
import Derived.RangeFuncLeaves
import Derived.Shelf.Slices.SearchI
import Derived.Shelf.Small.Strs
import Derived.Shelf.Small.Utf8
import Derived.Shelf.Strings.Builder1
import Derived.Shelf.Strings.BuilderRune
import Derived.Test.YtohfoenhmkfjkaaGreatDoorProg
import Derived.Test.YtohfoenhmkfjkaaGreatDoorZSegmentAbove1
namespace Go.K
set_option linter.unusedVariables false
set_option linter.unusedSimpArgs false
section
variable {P : Program} {r : Option Nat} {n : Nat} {L : Sl} {ds : List Deferred} {w : World} {K : Kt}
def tailOp : Op → Bool
  | .defer _ | .go _ | .select .. | .send .. | .recv .. => false
  | _ => true
theorem op_cong {ρ ρ' : Operand → Value} {o : Oper} (hq : tailOp o.op = true) (h : ∀ x ∈ o.op.operands, ρ x = ρ' x) : execOp ρ o = execOp ρ' o := by
  obtain ⟨dst, op, type, pos, after, guard⟩ := o
  have hmap : ∀ {xs : Array Operand}, (∀ x ∈ xs, ρ x = ρ' x) → xs.map ρ = xs.map ρ' := fun hx => Array.map_congr_left hx
  have hopt : ∀ {x : Option Operand}, (∀ y, x = some y → ρ y = ρ' y) → x.map ρ = x.map ρ' := fun {x} hx => by
    cases x with
    | none => rfl
    | some y => simp [hx y rfl]
  cases op <;> simp only [tailOp, Bool.false_eq_true] at hq <;> simp only [Op.operands, List.mem_toArray, List.mem_cons, List.not_mem_nil, or_false, forall_eq_or_imp, forall_eq, Array.mem_append, Option.mem_toArray] at h <;> simp only [execOp]
  case pick => rw [h.1, h.2.1, h.2.2]
  case build t ps =>
    have : ps.map (fun p => (p.1, ρ p.2)) = ps.map (fun p => (p.1, ρ' p.2)) := Array.map_congr_left fun p hp => by
      rw [h p.2 (List.mem_map.2 ⟨p, by simpa using hp, rfl⟩)]
    rw [this]
  case buildSlice t k ps =>
    have : ps.map (fun p => (p.1, ρ p.2)) = ps.map (fun p => (p.1, ρ' p.2)) := Array.map_congr_left fun p hp => by
      rw [h p.2 (List.mem_map.2 ⟨p, by simpa using hp, rfl⟩)]
    rw [this]
  case nilCheck => rw [h]
  case binOp => rw [h.1, h.2]
  case makeFunc f xs ys => rw [hmap (fun x hx => h x (.inl hx)), hmap (fun x hx => h x (.inr hx))]
  case makeMap t xs => rw [hopt (fun y hy => h y (by simp [hy]))]
  case slice t x lo hi mx =>
    rw [h x (by simp), hopt (x := lo) (fun y hy => h y (by simp [hy])), hopt (x := hi) (fun y hy => h y (by simp [hy])), hopt (x := mx) (fun y hy => h y (by simp [hy]))]
  case call c =>
    obtain ⟨cal, args, ats⟩ := c
    cases cal with
    | builtin b =>
      simp only [Call.operands, Array.empty_append] at h
      simp only [resolve, hmap h]
    | invoke x name =>
      simp only [Call.operands, Array.mem_append, List.mem_toArray, List.mem_singleton] at h
      simp only [resolve, h x (.inl rfl), hmap (fun y hy => h y (.inr hy))]
    | value x =>
      simp only [Call.operands, Array.mem_append, List.mem_toArray, List.mem_singleton] at h
      simp only [resolve, h x (.inl rfl), hmap (fun y hy => h y (.inr hy))]
  all_goals first
    | rw [h]
    | rw [h.1, h.2]
    | rw [h.1, h.2.1, h.2.2]
    | rfl
def Keep (N : PSet) (wd w : World) : Prop := wd.heap.size ≤ w.heap.size ∧ ∀ b, b < wd.heap.size → ¬ N b → w.heap[b]? = wd.heap[b]?
theorem Keep.refl (N : PSet) (w : World) : Keep N w w := ⟨Nat.le_refl _, fun _ _ _ => rfl⟩
theorem Keep.go {M M' N N' : PSet} {wd w w' : World} (h : Keep N wd w) (s : Step M w M' w' N') (hN : ∀ b, b < wd.heap.size → N' b → N b) : Keep N wd w' :=
  ⟨Nat.le_trans h.1 s.size, fun b hb hn => (s.same b (Nat.lt_of_lt_of_le hb h.1) (fun hb' => hn (hN b hb hb'))).trans (h.2 b hb hn)⟩
theorem Keep.go0 {M M' N : PSet} {wd w w' : World} (h : Keep N wd w) (s : Step M w M' w' none') : Keep N wd w' := h.go s fun _ _ h => h.elim
theorem Keep.goN {M M' N : PSet} {wd w w' : World} (h : Keep N wd w) (s : Step M w M' w' N) : Keep N wd w' := h.go s fun _ _ h => h
/-- the same in any such world -/
def FloatOk (P : Program) (N : PSet) (wd : World) (L : Sl) (o : Oper) : Prop := ∀ ρ : Operand → Value, (∀ x u, ev L x = some u → ρ x = u) → ∀ v w', Keep N wd w' → (execOp ρ o).run P wd = .ok (.value v) wd → (execOp ρ o).run P w' = .ok (.value v) w'
/-- the operations behind the first ones -/
def TRg (P : Program) (r : Option Nat) (n : Nat) (ops : Array Oper) (N : PSet) (wd : World) (K : Kt) : Nat → List Oper → Sl → List Deferred → World → Prop
  | _, [], L, ds, w => K .normal L ds w
  | c, o :: rest, L, ds, w => Rg P r n ops [o] L ds w (fun e L' ds' w' => e = .normal ∧ ds' = ds ∧ (c ≠ 0 → Keep N wd w') ∧ TRg P r n ops N wd K (c - 1) rest L' ds w')
theorem TRg.nil {ops : Array Oper} {N : PSet} {wd : World} {c : Nat} (h : K .normal L ds w) : TRg P r n ops N wd K c [] L ds w := h
/-- all operations ahead of the j-th one but those of fl are among acc, or are what one of these stands behind, or .. -/
def behindF (l : List Oper) (fl : List Nat) : Nat → List Nat → Bool
  | 0, _ => true
  | j + 1, acc => if fl.contains j then behindF l fl j acc else acc.contains j && behindF l fl j (acc ++ (l[j]?.map preds).getD [])
theorem behindF_all {l : List Oper} {fl : List Nat} {D : Nat → Prop} (hcl : ∀ k o, l[k]? = some o → D k → ∀ i ∈ preds o, D i) : ∀ (j : Nat) (acc : List Nat), behindF l fl j acc = true → (∀ k ∈ acc, D k) → ∀ i, i < j → i ∉ fl → D i
  | 0, _, _, _, i, hi, _ => by omega
  | j + 1, acc, h, ha, i, hi, hf => by
    simp only [behindF] at h
    split at h
    · rename_i hj
      rcases Nat.lt_or_ge i j with hlt | hge
      · exact behindF_all hcl j acc h ha i hlt hf
      · obtain rfl : i = j := by omega
        exact absurd (by simpa using hj) hf
    · simp only [Bool.and_eq_true, List.contains_iff_mem] at h
      have hj := ha j h.1
      rcases Nat.lt_or_ge i j with hlt | hge
      · refine behindF_all hcl j _ h.2 (fun k hk => ?_) i hlt hf
        rcases List.mem_append.1 hk with hk | hk
        · exact ha k hk
        · cases ho : l[j]? with
          | none => rw [ho] at hk; simp at hk
          | some o => rw [ho] at hk; exact hcl j o ho hj k (by simpa using hk)
      · rw [show i = j from by omega]; exact hj
/-- fl: those of the first m that may come late -/
def tailPreds (l : List Oper) (m e : Nat) : List Nat := (List.range' m (e + 1)).flatMap fun j => (l[j]?.map preds).getD []
def floatsOk (l : List Oper) (m : Nat) (fl : List Nat) (e : Nat) : Bool :=
  -- behind the e-th of the last ones stands what may come late
  (Nat.ble (l.length - m) e || behindB l m (tailPreds l m e)) &&
  -- the last ones: one behind the other; the first of them behind all that may not come late
  chainB l (m + 1) && behindF l fl m ((l[m]?.map preds).getD []) &&
  ((List.range' m (l.length - m)).all fun j => match l[j]? with
    | some o => tailOp o.op && (asks l o).all fun t => (List.range m).all fun i => match l[i]? with
      | some o' => !(o'.dst == some t) || (preds o).contains i
      | none => true
    | none => true) &&
  -- what may come late asks nothing that is yielded late
  ((List.range m).all fun j => !fl.contains j || match l[j]? with
    | some o => (asks l o).all fun t => (List.range l.length).all fun i => match l[i]? with
      | some o' => !(o'.dst == some t) || (preds o).contains i || (Nat.ble m i && (preds o').contains j)
      | none => true
    | none => true)
theorem floatsOk_get {l : List Oper} {m : Nat} {fl : List Nat} {e : Nat} (h : floatsOk l m fl e = true) :
    (l.length - m ≤ e ∨ behindB l m (tailPreds l m e) = true) ∧
    chainB l (m + 1) = true ∧ behindF l fl m ((l[m]?.map preds).getD []) = true ∧
    (∀ j o, m ≤ j → l[j]? = some o → tailOp o.op = true ∧ ∀ t ∈ asks l o, ∀ i o', i < m → l[i]? = some o' → o'.dst = some t → i ∈ preds o) ∧
    (∀ j o, j < m → j ∈ fl → l[j]? = some o → ∀ t ∈ asks l o, ∀ i o', l[i]? = some o' → o'.dst = some t → i ∈ preds o ∨ m ≤ i ∧ j ∈ preds o') := by
  simp only [floatsOk, Bool.and_eq_true] at h
  obtain ⟨⟨⟨⟨h0, h1⟩, h2⟩, h3⟩, h4⟩ := h
  rw [Bool.or_eq_true, Nat.ble_eq] at h0
  refine ⟨h0, h1, h2, fun j o hj ho => ?_, fun j o hj hf ho t ht i o' ho' hd => ?_⟩
  · have hlt := (List.getElem?_eq_some_iff.1 ho).1
    have := List.all_eq_true.1 h3 j (List.mem_range'_1.2 ⟨hj, by omega⟩)
    rw [ho] at this
    simp only [Bool.and_eq_true] at this
    refine ⟨this.1, fun t ht i o' hi ho' hd => ?_⟩
    have h5 := List.all_eq_true.1 (List.all_eq_true.1 this.2 t ht) i (List.mem_range.2 hi)
    rw [ho'] at h5
    simpa [hd] using h5
  · have hlt := (List.getElem?_eq_some_iff.1 ho').1
    have := List.all_eq_true.1 h4 j (List.mem_range.2 hj)
    rw [ho] at this
    simp only [Bool.or_eq_true, Bool.not_eq_true', List.contains_eq_mem, decide_eq_false_iff_not] at this
    have h5 := List.all_eq_true.1 (List.all_eq_true.1 (this.resolve_left (fun h => h hf)) t ht) i (List.mem_range.2 hlt)
    rw [ho'] at h5
    simp only [hd, beq_self_eq_true, Bool.not_true, Bool.false_or, Bool.or_eq_true, Bool.and_eq_true, Nat.ble_eq, decide_eq_true_eq, List.contains_iff_mem] at h5
    rcases h5 with h | h
    · exact .inl h
    · exact .inr h
structure GJ (P : Program) (r : Option Nat) (n : Nat) (l : List Oper) (m : Nat) (fl : List Nat) (c : Nat) (N : PSet) (K : Kt) (ds : List Deferred) (a0 am : Act) (wd : World) (D : Nat → Prop) (a : Act) (w : World) (p : Nat) (ac : Act) (Lp : Sl) : Prop where
  p0 : m ≤ p
  p1 : p ≤ l.length
  dt : ∀ i, m ≤ i → i < l.length → (D i ↔ i < p)
  df : m < p → ∀ i, i < m → i ∉ fl → D i
  ag : Agree n ac Lp ds
  tr : TRg P r n l.toArray N wd K (c + m - p) (l.drop p) Lp ds w
  keep : p ≤ m + c → Keep N wd w
  da : m + c < p → ∀ i, i < m → D i
  wm : p = m → w = wd
  defers : a.defers = ds
  size : a.tmps.size = a0.tmps.size
  sizec : ac.tmps.size = a0.tmps.size
  done : ∀ t, (∀ i o, i < m → l[i]? = some o → o.dst = some t → D i) → a.tmps[t]? = ac.tmps[t]?
  pend : ∀ i o t, i < m → l[i]? = some o → o.dst = some t → ¬ D i → a.tmps[t]? = a0.tmps[t]?
  cm : ∀ t, (∀ i o, m ≤ i → i < p → l[i]? = some o → o.dst ≠ some t) → ac.tmps[t]? = am.tmps[t]?
/-- one operation of a known walk, at other slots -/
theorem one_move {ops : Array Oper} {Qc Q : Exit → Act → World → Prop} {i : Nat} {rest : List Nat} {o : Oper} {a ac : Act} (ho : ops[i]? = some o) (hq : tailOp o.op = true) (hev : ∀ x ∈ o.op.operands, a.eval x = ac.eval x) (hwt : Region.wanted o (yielded ops a.tmps) = Region.wanted o (yielded ops ac.tmps)) (hdf : a.defers = ac.defers)
    (h : wpListIn (FW r) 0 P ops Qc [o] ac w) (hno : ∀ e a w, Qc e a w → e = .normal) (hk : ∀ v w', Qc .normal (ac.put o.dst v) w' → wpOpsIn (FW r) 0 P ops Q rest (a.put o.dst v) w') (hdd : ∀ d w', ¬ Qc .normal ({ ac with defers := d :: ac.defers }.put o.dst undef) w') : wpOpsIn (FW r) 0 P ops Q (i :: rest) a w := by
  simp only [wpOpsIn, ho]
  simp only [wpListIn] at h
  rw [hwt]
  have hnd : ∀ c, o.op ≠ .defer c := fun c hc => by rw [hc] at hq; cases hq
  split
  · rename_i hw
    rw [if_pos hw] at h
    obtain ⟨_, h2⟩ := h
    refine ⟨fun _ _ => trivial, ?_⟩
    rw [Oper.semAt_eq _ _ _ hnd] at h2 ⊢
    rw [op_cong hq hev]
    generalize (execOp ac.eval o).run P w = res at h2 ⊢
    cases res with
    | ok nx w' =>
      cases nx with
      | value v => exact hk _ _ h2
      | skip => exact hk _ _ h2
      | defer d => exact absurd h2 (hdd d w')
      | enter f args => exact ⟨h2.1, h2.2.mono fun e w'' he => by
          cases e with
          | returned v => exact hk _ _ he
          | panicked c => exact absurd (hno _ _ _ he) (by simp)
          | outgrown => obtain ⟨a, w, h⟩ := he; exact absurd (hno _ _ _ h) (by simp)⟩
      | row row args => exact ⟨h2.1, h2.2.mono fun _ _ he => hk _ _ he⟩
      | round l f tmps asn body => exact ⟨h2.1, h2.2.mono fun e w'' he => by
          cases e with
          | returned v => exact hk _ _ he
          | panicked c => exact absurd (hno _ _ _ he) (by simp)
          | outgrown => obtain ⟨a, w, h⟩ := he; exact absurd (hno _ _ _ h) (by simp)⟩
      | _ => exact h2.elim
    | halt x w' =>
      cases x with
      | panic v => exact absurd (hno _ _ _ h2) (by simp)
      | _ => exact h2.elim
  · rename_i hw
    rw [if_neg hw] at h
    exact ⟨fun _ _ => trivial, hk _ _ h.2⟩
theorem GJ.next {l : List Oper} {m : Nat} {fl : List Nat} {c : Nat} {N : PSet} {a0 am : Act} {vals : List Value} {wd : World} (hlex : lexOk l 0 = true) (hsl : slotsOk l m = true) (hfl : floatsOk l m fl c = true) (hml : m < l.length) (hvl : ∀ i, i < m → ∃ v, vals[i]? = some v)
    {st : Nat → Act} (hst : ∀ j o, j < m → l[j]? = some o → ∃ v, vals[j]? = some v ∧ One P r l.toArray wd o (st j) v) (hjs : ∀ j, j < m → QJ l m a0 vals wd (fun i => i < j) (st j) wd) (ham : QJ l m a0 vals wd (fun i => i < m) am wd)
    {Lm : Sl} (hLm : Agree n am Lm ds) (hF : ∀ j o, j ∈ fl → l[j]? = some o → FloatOk P N wd Lm o)
    {Q : Exit → Act → World → Prop} {D : Nat → Prop} {a : Act} {w : World} {j : Nat} {o : Oper} {rest : List Nat} (ho : l[j]? = some o) (hnD : ¬ D j) (hp : ∀ k ∈ preds o, D k) (hcl : ∀ i o, l[i]? = some o → D i → ∀ k ∈ preds o, D k) (hi : ∃ p ac Lp, GJ P r n l m fl c N K ds a0 am wd D a w p ac Lp)
    (hk : ∀ a' w', (∃ p ac Lp, GJ P r n l m fl c N K ds a0 am wd (fun i => i = j ∨ D i) a' w' p ac Lp) → wpOpsIn (FW r) 0 P l.toArray Q rest a' w') : wpOpsIn (FW r) 0 P l.toArray Q (j :: rest) a w := by
  obtain ⟨p, ac, Lp, hi⟩ := hi
  obtain ⟨hall_, hch, hbeh, htl, hfo⟩ := floatsOk_get hfl
  have hjl := (List.getElem?_eq_some_iff.1 ho).1
  rcases Nat.lt_or_ge j m with hj | hj
  · -- one of the first
    obtain ⟨v, hv, h1⟩ := hst j o hj ho
    obtain ⟨hq, hso⟩ := slotsOk_get hsl hj ho
    have hmf : m < p → j ∈ fl := fun h => Classical.byContradiction fun hf => hnD (hi.df h j hj hf)
    -- the slots that it asks are as in the text's order
    have hag : ∀ t ∈ asks l o, a.tmps[t]? = (st j).tmps[t]? := fun t ht => by
      by_cases hx : ∃ i o', i < m ∧ l[i]? = some o' ∧ o'.dst = some t
      · obtain ⟨i, o', him, ho', hd⟩ := hx
        obtain ⟨v', hv'⟩ := hvl i him
        rcases hso t ht i o' him ho' hd with h | h | h
        · have hDi := hp i h
          have hij := lexOk_preds hlex j o ho i h
          rw [hi.done t (fun k ok hkm hok hkd => by rw [dst_unique hlex hok ho' hkd hd]; exact hDi), hi.cm t (fun k ok hk1 hk2 hok hkd => by have := dst_unique hlex hok ho' hkd hd; omega), ham.done i o' v' t him ho' hv' him hd, (hjs j hj).done i o' v' t him ho' hv' (by omega) hd]
        · subst h
          rw [hi.pend i o' t him ho' hd hnD, (hjs i hj).base t (fun k ok hkm hok hkd hkk => by have := dst_unique hlex hok ho' hkk hd; omega)]
        · have hij := lexOk_preds hlex i o' ho' j h
          rw [hi.pend i o' t him ho' hd (fun hDi => hnD (hcl i o' ho' hDi j h)), (hjs j hj).base t (fun k ok hkm hok hkd hkk => by have := dst_unique hlex hok ho' hkk hd; omega)]
      · have hno : ∀ k ok, k < m → l[k]? = some ok → ok.dst ≠ some t := fun k ok hkm hok hkd => hx ⟨k, ok, hkm, hok, hkd⟩
        rw [hi.done t (fun k ok hkm hok hkd => absurd hkd (hno k ok hkm hok)), hi.cm t (fun k ok hk1 hk2 hok hkd => by
          rcases hfo j o hj (hmf (by omega)) ho t ht k ok hok hkd with h | ⟨_, h⟩
          · have := lexOk_preds hlex j o ho k h; omega
          · exact hnD (hcl k ok hok ((hi.dt k hk1 (List.getElem?_eq_some_iff.1 hok).1).2 hk2) j h)), ham.base t (fun k ok hkm hok _ => hno k ok hkm hok), (hjs j hj).base t (fun k ok hkm hok _ => hno k ok hkm hok)]
    obtain ⟨hev, hwt⟩ := asks_eval hag
    have h2 : One P r l.toArray w o a v := by
      rcases Nat.eq_or_lt_of_le hi.p0 with hpm | hpm
      · have hww := hi.wm hpm.symm
        unfold One at h1 ⊢
        rw [hwt, quiet_cong hq hev, hww]; exact h1
      · have hjf := hmf hpm
        -- as in the state behind all the first
        have hagm : ∀ t ∈ asks l o, am.tmps[t]? = (st j).tmps[t]? := fun t ht => ham.agree hlex hvl (hjs j hj) fun i o' him ho' hd => by
          rcases hfo j o hj hjf ho t ht i o' ho' hd with h | ⟨h, _⟩
          · have := lexOk_preds hlex j o ho i h; exact ⟨fun _ => by omega, fun _ => him⟩
          · omega
        obtain ⟨hevm, _⟩ := asks_eval hagm
        unfold One at h1 ⊢
        rw [hwt]
        split
        · rename_i hw
          rw [if_pos hw] at h1
          rw [← quiet_cong hq hevm] at h1
          rw [quiet_cong hq hev, ← quiet_cong hq hevm]
          exact hF j o hjf ho am.eval (fun x u hx => hLm.eval hx) v w (hi.keep (Nat.le_of_not_lt fun hlt => hnD (hi.da hlt j hj))) h1
        · rename_i hw
          rw [if_neg hw] at h1; exact h1
    refine h2.run (by simpa using ho) hq (hk _ _ ⟨p, ac, Lp, hi.p0, hi.p1, fun i h3 h4 => ?_, fun h i h3 h4 => .inr (hi.df h i h3 h4), hi.ag, hi.tr, hi.keep, fun h i h3 => .inr (hi.da h i h3), hi.wm, by rw [put_defers]; exact hi.defers, by rw [put_size]; exact hi.size, hi.sizec, fun t ht => ?_, fun i o' t him ho' hd hni => ?_, hi.cm⟩)
    · rw [← hi.dt i h3 h4]; exact ⟨fun h => h.resolve_left (by omega), .inr⟩
    · rw [put_tmps]
      by_cases e : o.dst = some t
      · rw [if_pos e, hi.cm t (fun k ok hk1 hk2 hok hkd => by have := dst_unique hlex hok ho hkd e; omega), ham.done j o v t hj ho hv hj e]
        exact set_cell hi.size
      · rw [if_neg e]
        exact hi.done t fun i o' him ho' hd => (ht i o' him ho' hd).resolve_left (fun h => by subst h; rw [ho] at ho'; cases ho'; exact e hd)
    · rw [put_tmps, if_neg (fun e => hni (.inl (dst_unique hlex ho' ho hd e)))]
      exact hi.pend i o' t him ho' hd (fun h => hni (.inr h))
  · -- one of the last: the next of them
    have hjp : j = p := by
      have h1 : p ≤ j := by
        rcases Nat.lt_or_ge j p with h | h
        · exact absurd ((hi.dt j hj hjl).2 h) hnD
        · exact h
      rcases Nat.lt_or_ge m j with h | h
      · have h2 := hp _ (chainB_get hch (j := j) (by omega) ho)
        have := (hi.dt (j - 1) (by omega) (by omega)).1 h2
        omega
      · have := hi.p0; omega
    subst hjp
    obtain ⟨hto, hts⟩ := htl j o hj ho
    have hall : ∀ i, i < m → i ∉ fl → D i := fun i him hif => by
      rcases Nat.eq_or_lt_of_le hi.p0 with h | h
      · rw [h, ho] at hbeh
        exact behindF_all (D := D) hcl j (preds o) hbeh hp i (by omega) hif
      · exact hi.df h i him hif
    have hag : ∀ t ∈ asks l o, a.tmps[t]? = ac.tmps[t]? := fun t ht => hi.done t fun i o' him ho' hd => hp i (hts t ht i o' him ho' hd)
    obtain ⟨hev, hwt⟩ := asks_eval hag
    have hdone : m + c < j + 1 → ∀ i, i < m → D i := fun hlt i him => by
      rcases Nat.lt_or_ge (m + c) j with h | h
      · exact hi.da h i him
      · have hj2 : j = m + c := by omega
        rcases hall_ with h5 | h5
        · omega
        · refine behind_all (D := D) hcl m _ h5 (fun k hk => ?_) i him
          simp only [tailPreds, List.mem_flatMap, List.mem_range'_1] at hk
          obtain ⟨q, ⟨hq1, hq2⟩, hq3⟩ := hk
          rcases Nat.eq_or_lt_of_le (show q ≤ j by omega) with e | e
          · rw [e, ho] at hq3; exact hp k hq3
          · have hDq := (hi.dt q hq1 (by omega)).2 e
            cases hoq : l[q]? with
            | none => rw [hoq] at hq3; cases hq3
            | some oq => rw [hoq] at hq3; exact hcl q oq hoq hDq k hq3
    have htr := hi.tr
    rw [List.drop_eq_getElem_cons hjl, (List.getElem?_eq_some_iff.1 ho).2] at htr
    have h1 := Rg.run htr ac hi.ag
    refine one_move (by simpa using ho) hto hev hwt (by rw [hi.defers, hi.ag.defers]) h1 (fun e a w ⟨_, _, _, he, _⟩ => he) (fun v w' ⟨L', ds', hA, _, hds, hkp, htr'⟩ => ?_) (fun d w' ⟨L', ds', hA, _, hds, _⟩ => ?_)
    · rw [hds] at hA
      refine hk _ _ ⟨j + 1, ac.put o.dst v, L', by omega, by omega, fun i h3 h4 => ?_, fun _ i h3 h4 => .inr (hall i h3 h4), hA, by rw [show c + m - (j + 1) = c + m - j - 1 from by omega]; exact htr', fun h => hkp (by omega), fun h i him => .inr (hdone h i him), fun h => by omega, by rw [put_defers]; exact hi.defers, by rw [put_size]; exact hi.size, by rw [put_size]; exact hi.sizec, fun t ht => ?_, fun i o' t him ho' hd hni => ?_, fun t ht => ?_⟩
      · constructor
        · rintro (h | h)
          · omega
          · have := (hi.dt i h3 h4).1 h; omega
        · intro h
          rcases Nat.eq_or_lt_of_le (show i ≤ j by omega) with h5 | h5
          · exact .inl h5
          · exact .inr ((hi.dt i h3 h4).2 h5)
      · rw [put_tmps, put_tmps]
        split
        · exact set_cell (hi.size.trans hi.sizec.symm)
        · exact hi.done t fun i o' him ho' hd => (ht i o' him ho' hd).resolve_left (by omega)
      · rw [put_tmps, if_neg (fun e => by have := dst_unique hlex ho' ho hd e; omega)]
        exact hi.pend i o' t him ho' hd (fun h => hni (.inr h))
      · rw [put_tmps, if_neg (ht j o hj (by omega) ho)]
        exact hi.cm t fun i o' h3 h4 h5 => ht i o' h3 (by omega) h5
    · have h3 := hA.defers
      rw [put_defers, hds] at h3
      have h4 := congrArg List.length h3
      rw [hi.ag.defers] at h4
      simp at h4
/-- A region that draws its order: the first m, which change nothing; then the others in the text's order. fl: those of the first that may come late, N: what the others may write. -/
theorem T.drawF {id : Nat} {l : List Oper} (m : Nat) (fl : List Nat) (c : Nat) (N : PSet) (hm : P.follows .mixedOrders = true) (hml : Nat.blt m l.length = true) (hlex : lexOk l 0 = true) (hsl : slotsOk l m = true) (hfl : floatsOk l m fl c = true)
    (h : ∀ wD, (∀ M, Step M w M wD none') → QRg P r n l.toArray (l.take m) L ds wD (fun L' => (∀ j o, j ∈ fl → l[j]? = some o → FloatOk P N wD L' o) ∧ TRg P r n l.toArray N wD K c (l.drop m) L' ds wD)) : T P r n (.region id l.toArray true) L ds w K := by
  refine ⟨fun a ha => wpIn_region_draw fun t => ?_⟩
  simp only [Region.schedule, hm, Bool.true_or, if_true, Region.linearise]
  have hSl : m < l.length := by simpa [Nat.blt_eq] using hml
  have hQ := h _ (step_drawn w)
  have hget : ∀ j, j < m → (l.take m)[j]? = l[j]? := fun j hj => by rw [List.getElem?_take, if_pos hj]
  obtain ⟨am, Lm, vs, htr, hA, hF, hT⟩ := hQ.trace (fun o ho => by
    obtain ⟨j, hj⟩ := List.mem_iff_getElem?.1 ho
    have hjm : j < m := by
      have := (List.getElem?_eq_some_iff.1 hj).1
      rw [List.length_take] at this; omega
    exact (slotsOk_get hsl hjm (by rw [← hget j hjm]; exact hj)).1) ha
  obtain ⟨st, h0, hl, hst⟩ := htr.states
  have hlen : (l.take m).length = m := by rw [List.length_take]; omega
  rw [hlen] at hl
  have hst' : ∀ j o, j < m → l[j]? = some o → ∃ v, vs[j]? = some v ∧ One P r l.toArray _ o (st j) v ∧ st (j + 1) = (st j).put o.dst v := fun j o hj ho => hst j o (by rw [hget j hj]; exact ho)
  have hvl : ∀ i, i < m → ∃ v, vs[i]? = some v := fun i hi => by
    obtain ⟨v, hv, _⟩ := hst' i l[i] hi (List.getElem?_eq_getElem (by omega))
    exact ⟨v, hv⟩
  have hjs := states_QJ hlex h0 hst'
  have ham := hjs m (Nat.le_refl _) (by omega)
  rw [hl] at ham
  refine go_ordersJ (J := fun D a' w' => ∃ p ac Lp, GJ P r n l m fl c N K ds a am { w with drawn := w.drawn + 1 } D a' w' p ac Lp) hlex (fun {D D' a' w'} ⟨p, ac, Lp, hi⟩ hD => ⟨p, ac, Lp, hi.p0, hi.p1, fun i h3 h4 => (hD i h4).trans (hi.dt i h3 h4), fun h i h3 h4 => (hD i (by omega)).2 (hi.df h i h3 h4), hi.ag, hi.tr, hi.keep, fun h i h3 => (hD i (by omega)).2 (hi.da h i h3), hi.wm, hi.defers, hi.size, hi.sizec, fun t ht => hi.done t fun i o h3 h4 h5 => (hD i (by omega)).1 (ht i o h3 h4 h5), fun i o t h3 h4 h5 h6 => hi.pend i o t h3 h4 h5 (fun h => h6 ((hD i (by omega)).2 h)), hi.cm⟩)
    (fun {D a' w' j o rest} hj ho hnD hp hcl hi hk => GJ.next hlex hsl hfl hSl hvl (fun j o hj ho => by obtain ⟨v, h1, h2, _⟩ := hst' j o hj ho; exact ⟨v, h1, h2⟩) (fun j hj => hjs j (by omega) (by omega)) ham hA hF ho hnD hp hcl hi hk) (fun a' w' hJ => ?_) _ t _ a _ (by simp) (by simp [List.countP_replicate]) (fun i o h1 h2 => ?_) ⟨m, am, Lm, Nat.le_refl _, by omega, fun i h3 h4 => ?_, fun h => by omega, hA, by rw [Nat.add_sub_cancel]; exact hT, fun _ => Keep.refl _ _, fun h => by omega, fun _ => rfl, ha.defers, rfl, ham.size, fun t ht => ?_, fun i o t _ _ _ _ => rfl, fun t _ => rfl⟩
  · obtain ⟨p, ac, Lp, hi⟩ := hJ
    have hpl : p = l.length := by
      rcases Nat.lt_or_ge p l.length with h3 | h3
      · have := (hi.dt p hi.p0 h3).1 h3; omega
      · have := hi.p1; omega
    have htr := hi.tr
    rw [hpl, List.drop_eq_nil_of_le (Nat.le_refl _)] at htr
    refine ⟨Lp, ds, ⟨?_, hi.defers, fun t v ht => ?_⟩, htr⟩
    · rw [hi.size]; exact ha.size
    · rw [hi.done t fun i o h3 h4 _ => by omega]; exact hi.ag.at_ t v ht
  · simp [Array.getElem?_replicate] at h2
  · simp [Array.getElem?_replicate]; omega
  · rw [ham.base t fun i o h3 h4 _ h5 => ?_]
    have := ht i o h3 h4 h5
    simp [Array.getElem?_replicate] at this
def Floats (P : Program) (N : PSet) (wd : World) (L : Sl) (l : List Oper) : List Nat → Prop
  | [] => True
  | j :: js => (match l[j]? with | some o => FloatOk P N wd L o | none => True) ∧ Floats P N wd L l js
theorem Floats.all {N : PSet} {wd : World} {l : List Oper} : ∀ {fl : List Nat}, Floats P N wd L l fl → ∀ j o, j ∈ fl → l[j]? = some o → FloatOk P N wd L o
  | [], _, j, o, hj, _ => absurd hj (List.not_mem_nil)
  | k :: fl, h, j, o, hj, ho => by
    rcases List.mem_cons.1 hj with e | hj
    · have h1 := h.1
      rw [← e, ho] at h1; exact h1
    · exact Floats.all h.2 j o hj ho
variable {N : PSet} {wd : World} {dst : Option Nat} {ty : TypeId} {pos : String} {af : Array Edge} {gd : Option (Nat × Bool)} {x y i : Operand}
theorem FloatOk.move : FloatOk P N wd L { dst, op := .move x, type := ty, pos, after := af, guard := gd } := fun ρ _ v w' _ h => by
  have h : Result.ok (Next.value (ρ x)) wd = .ok (.value v) wd := h
  cases h; rfl
/-- runs that ask no memory -/
def Loc {α : Type} (s : Sem α) : Prop := ∀ (P : Program) (w1 : World) (a : α) (w' : World), s.run P w1 = .ok a w' → w' = w1 ∧ ∀ w2, s.run P w2 = .ok a w2
theorem Loc.pure {α : Type} (a : α) : Loc (Pure.pure a : Sem α) := fun P w1 b w' hr => by
  simp only [Sem.run_pure, Result.ok.injEq] at hr
  exact ⟨hr.2.symm, fun w2 => by rw [← hr.1]; rfl⟩
theorem FloatOk.free {o : Oper} (h : ∀ ρ : Operand → Value, (∀ x u, ev L x = some u → ρ x = u) → Loc (execOp ρ o)) : FloatOk P N wd L o := fun ρ hρ v w' _ hr => (h ρ hρ P wd _ _ hr).2 w'
/-- an address that is known -/
theorem FloatOk.nilCheck {a : Addr} (hx : ev L x = some (.pointer (some a))) : FloatOk P N wd L { dst, op := .nilCheck x, type := ty, pos, after := af, guard := gd } := .free fun ρ hρ => by
  simp only [execOp, hρ x _ hx]; exact .pure _
/-- what lies in a block that is not written -/
theorem run_loadCells_same {w w' : World} {b : Nat} (hb : ∃ cs e fr, w.heap[b]? = some (.cells cs e fr)) (hs : w'.heap[b]? = w.heap[b]?) : ∀ (n o i : Nat) (acc a : Array Value) (w1 : World), (loadCellsFrom ⟨b, o, none⟩ i n acc).run P w = .ok a w1 → w1 = w ∧ (loadCellsFrom ⟨b, o, none⟩ i n acc).run P w' = .ok a w'
  | 0, o, i, acc, a, w1, h => by
    simp only [loadCellsFrom, Sem.run_pure, Result.ok.injEq] at h ⊢
    exact ⟨h.2.symm, h.1, trivial⟩
  | n + 1, o, i, acc, a, w1, h => by
    obtain ⟨cs, e, fr, hc⟩ := hb
    simp only [loadCellsFrom, Sem.run_bind] at h ⊢
    have hcell : ∀ k, w'.cell? ⟨b, k, none⟩ = w.cell? ⟨b, k, none⟩ := fun k => by simp only [World.cell?, hs]
    have hadd : (⟨b, o, none⟩ : Addr).add i = ⟨b, o + i, none⟩ := by simp [Addr.add]
    rw [hadd] at h ⊢
    simp only [load, Sem.run] at h ⊢
    rw [hcell]
    cases hv : w.cell? ⟨b, o + i, none⟩ with
    | some v =>
      rw [hv] at h
      simp only [Result.andThen] at h ⊢
      exact run_loadCells_same ⟨cs, e, fr, hc⟩ hs n o (i + 1) (acc.push v) a w1 h
    | none =>
      rw [hv] at h
      simp [World.farLoad, hc, Result.andThen] at h
theorem FloatOk.load {t : TypeId} {b o : Nat} {cs : Array Value} {e : TypeId} {fr : Nat × Nat} (hx : ev L x = some (.pointer (some ⟨b, o, none⟩))) (hb : wd.heap[b]? = some (.cells cs e fr)) (hn : ¬ N b) : FloatOk P N wd L { dst, op := .load t x, type := ty, pos, after := af, guard := gd } := fun ρ hρ v w' hk hr => by
  have hs := hk.2 b (lt_of_get hb) hn
  simp only [execOp, hρ x _ hx] at hr ⊢
  rw [Sem.run_bind] at hr ⊢
  have key : ∀ v w1, (Instr.loadAt t (.pointer (some ⟨b, o, none⟩))).run P wd = .ok v w1 → (Instr.loadAt t (.pointer (some ⟨b, o, none⟩))).run P w' = .ok v w' := fun v w1 h => by
    simp only [Instr.loadAt, Instr.sureAddr, Sem.run_bind, Sem.run_pure, Result.andThen_ok, loadVar] at h ⊢
    have hag : ∀ w : World, (isAgg t).run P w = match P.underlying t with | some (.struct _) | some (.array _ _) => Result.ok true w | some _ => Result.ok false w | none => Result.halt (.stuck "no such type") w := fun w => by
      simp only [isAgg, underlying, Sem.run_bind, program, Sem.run, Result.andThen]
      cases P.underlying t with
      | none => simp [stuck, Sem.run]
      | some d => cases d <;> simp
    rw [hag] at h ⊢
    cases hu : P.underlying t with
    | none => rw [hu] at h; simp [Result.andThen] at h
    | some d =>
      have hsz : ∀ w : World, (sizeOf t).run P w = match P.info? t with | some i => Result.ok i.size w | none => Result.halt (.stuck "no such type") w := fun w => by
        simp only [sizeOf, typeInfo, Sem.run_bind, program, Sem.run, Result.andThen]
        cases P.info? t <;> simp [stuck, Sem.run]
      have hone : ∀ v w1, (Go.load ⟨b, o, none⟩).run P wd = .ok v w1 → (Go.load ⟨b, o, none⟩).run P w' = .ok v w' := fun v w1 h => by
        have hcell : w'.cell? ⟨b, o, none⟩ = wd.cell? ⟨b, o, none⟩ := by simp only [World.cell?, hs]
        simp only [Go.load, Sem.run] at h ⊢
        rw [hcell]
        cases hv : wd.cell? ⟨b, o, none⟩ with
        | some u => rw [hv] at h; simp only [Result.ok.injEq] at h ⊢; exact ⟨h.1, trivial⟩
        | none => rw [hv] at h; simp [World.farLoad, hb] at h
      have hagg : ∀ v w1, (do Pure.pure (Value.agg (← loadCells ⟨b, o, none⟩ (← sizeOf t))) : Sem Value).run P wd = .ok v w1 → (do Pure.pure (Value.agg (← loadCells ⟨b, o, none⟩ (← sizeOf t))) : Sem Value).run P w' = .ok v w' := fun v w1 h => by
        simp only [Sem.run_bind, hsz] at h ⊢
        cases hi : P.info? t with
        | none => rw [hi] at h; simp [Result.andThen] at h
        | some inf =>
          rw [hi] at h
          simp only [Result.andThen] at h ⊢
          cases hl : (loadCells ⟨b, o, none⟩ inf.size).run P wd with
          | ok a w2 =>
            rw [hl] at h
            obtain ⟨_, h2⟩ := run_loadCells_same ⟨cs, e, fr, hb⟩ hs _ _ _ _ _ _ hl
            have h2 : (loadCells ⟨b, o, none⟩ inf.size).run P w' = .ok a w' := h2
            rw [h2]
            simp only [Sem.run_pure, Result.ok.injEq] at h ⊢
            exact ⟨h.1, trivial⟩
          | halt x w2 => rw [hl] at h; simp at h
      rw [hu] at h
      cases d <;> simp only [Result.andThen_ok, if_true, Bool.false_eq_true, if_false] at h ⊢ <;> first | exact hone v w1 h | exact hagg v w1 h
  cases hl : (Instr.loadAt t (.pointer (some ⟨b, o, none⟩))).run P wd with
  | ok u w1 =>
    rw [hl] at hr
    rw [key u w1 hl]
    simp only [Result.andThen_ok, Sem.run_pure, Result.ok.injEq] at hr ⊢
    exact ⟨hr.1, trivial⟩
  | halt x w1 => rw [hl] at hr; simp [Result.andThen] at hr
/-- an address of known data -/
theorem PtrTo.float {α : Type} {A : RT α} {M : PSet} {w : World} {v : Value} {x : α} (h : PtrTo A M w v x) (hn : 0 < A.n := by decide) : ∃ b o cs e fr, v = .pointer (some ⟨b, o, none⟩) ∧ w.heap[b]? = some (.cells cs e fr) ∧ ¬ M b := by
  obtain ⟨b, o, vs, h1, h2, h3, h4⟩ := h
  have hp : 0 < vs.length := by rw [A.len h3]; exact hn
  have hc := h4 0 vs[0] (List.getElem?_eq_getElem hp)
  simp only [World.cell?] at hc
  cases hb : w.heap[b]? with
  | none => rw [hb] at hc; cases hc
  | some ob =>
    rw [hb] at hc
    cases ob with
    | cells cs e fr => exact ⟨b, o, cs, e, fr, h1, hb, h2⟩
    | _ => cases hc
theorem FloatOk.field {s : TypeId} {fs : Array Field} {fd : Field} {j : Nat} {zv : Value} {size bytes : Nat} (hs : P.underlying s = some (.struct fs)) (hj : fs[j]? = some fd) (hi : TI P fd.type zv size bytes) (h0 : size ≠ 0) : FloatOk P N wd L { dst, op := .fieldAddr s x j, type := ty, pos, after := af, guard := gd } := fun ρ hρ v w' hk hr => by
  simp only [execOp, Sem.run_bind] at hr ⊢
  have key : ∀ w, (Instr.fieldAt s (ρ x) j).run P w = match ρ x with | .pointer (some a) => Result.ok (.pointer (some (a.add fd.offset))) w | _ => Result.halt (.stuck "an address expected (no nilCheck in front?)") w := fun w => by
    generalize ρ x = u
    unfold Instr.fieldAt
    simp only [Sem.run_bind, run_underlying hs, Result.andThen_ok, hj]
    unfold Instr.sureAddr
    split
    · simp only [Sem.run_pure, Result.andThen_ok, Sem.run_bind, fieldPlace, hi.sizeOf, h0, if_false]
    · simp [stuck, Sem.run, Result.andThen]
  rw [key] at hr ⊢
  split at hr
  · simp only [Result.andThen_ok, Sem.run_pure, Result.ok.injEq] at hr ⊢; exact ⟨hr.1, trivial⟩
  · simp [Result.andThen] at hr
end
end Go.K
namespace Go.K
set_option linter.unusedVariables false
set_option linter.unusedSimpArgs false
section
variable {P : Program} {r : Option Nat} {n : Nat} {L : Sl} {ds : List Deferred} {w : World} {K : Kt}
/-- what is carried through any order of a region's operations -/
def DrawInv (P : Program) (r : Option Nat) (n : Nat) (l : List Oper) (L : Sl) (ds : List Deferred) (wD : World) (K : Kt) : Prop :=
  ∀ a, Agree n a L ds → ∃ J : (Nat → Prop) → Act → World → Prop,
    (∀ (D D' : Nat → Prop) a w, J D a w → (∀ i, i < l.length → (D' i ↔ D i)) → J D' a w) ∧
    (∀ (Q : Exit → Act → World → Prop) (D : Nat → Prop) a w j o rest, j < l.length → l[j]? = some o → ¬ D j → (∀ k ∈ preds o, D k) → (∀ i o, l[i]? = some o → D i → ∀ k ∈ preds o, D k) → J D a w → (∀ a' w', J (fun i => i = j ∨ D i) a' w' → wpOpsIn (FW r) 0 P l.toArray Q rest a' w') → wpOpsIn (FW r) 0 P l.toArray Q (j :: rest) a w) ∧
    (∀ a w, J (fun i => i < l.length) a w → up n K .normal a w) ∧ J (fun _ => False) a wD
theorem DrawInv.t {id : Nat} {l : List Oper} (hm : P.follows .mixedOrders = true) (hlex : lexOk l 0 = true) (h : ∀ wD, (∀ M, Step M w M wD none') → DrawInv P r n l L ds wD K) : T P r n (.region id l.toArray true) L ds w K := by
  refine ⟨fun a ha => wpIn_region_draw fun t => ?_⟩
  simp only [Region.schedule, hm, Bool.true_or, if_true, Region.linearise]
  obtain ⟨J, h1, h2, h3, h4⟩ := h _ (step_drawn w) a ha
  refine go_ordersJ (J := J) hlex (fun {D D' a w} hi hD => h1 D D' a w hi hD) (fun {D a' w' j o rest} hj ho hnD hp hcl hi hk => h2 _ _ _ _ _ _ _ hj ho hnD hp hcl hi hk) h3 _ t _ a _ (by simp) (by simp [List.countP_replicate]) (fun i o h1 h2 => ?_) (h1 _ _ _ _ h4 fun i _ => ?_)
  · simp [Array.getElem?_replicate] at h2
  · simp [Array.getElem?_replicate]
theorem drawInvF {l : List Oper} {wd : World} (m : Nat) (fl : List Nat) (c : Nat) (N : PSet) (hml : Nat.blt m l.length = true) (hlex : lexOk l 0 = true) (hsl : slotsOk l m = true) (hfl : floatsOk l m fl c = true)
    (h : QRg P r n l.toArray (l.take m) L ds wd (fun L' => (∀ j o, j ∈ fl → l[j]? = some o → FloatOk P N wd L' o) ∧ TRg P r n l.toArray N wd K c (l.drop m) L' ds wd)) : DrawInv P r n l L ds wd K := by
  intro a ha
  have hSl : m < l.length := by simpa [Nat.blt_eq] using hml
  have hget : ∀ j, j < m → (l.take m)[j]? = l[j]? := fun j hj => by rw [List.getElem?_take, if_pos hj]
  obtain ⟨am, Lm, vs, htr, hA, hF, hT⟩ := h.trace (fun o ho => by
    obtain ⟨j, hj⟩ := List.mem_iff_getElem?.1 ho
    have hjm : j < m := by
      have := (List.getElem?_eq_some_iff.1 hj).1
      rw [List.length_take] at this; omega
    exact (slotsOk_get hsl hjm (by rw [← hget j hjm]; exact hj)).1) ha
  obtain ⟨st, h0, hl, hst⟩ := htr.states
  have hlen : (l.take m).length = m := by rw [List.length_take]; omega
  rw [hlen] at hl
  have hst' : ∀ j o, j < m → l[j]? = some o → ∃ v, vs[j]? = some v ∧ One P r l.toArray wd o (st j) v ∧ st (j + 1) = (st j).put o.dst v := fun j o hj ho => hst j o (by rw [hget j hj]; exact ho)
  have hvl : ∀ i, i < m → ∃ v, vs[i]? = some v := fun i hi => by
    obtain ⟨v, hv, _⟩ := hst' i l[i] hi (List.getElem?_eq_getElem (by omega))
    exact ⟨v, hv⟩
  have hjs := states_QJ hlex h0 hst'
  have ham := hjs m (Nat.le_refl _) (by omega)
  rw [hl] at ham
  refine ⟨fun D a' w' => ∃ p ac Lp, GJ P r n l m fl c N K ds a am wd D a' w' p ac Lp, fun D D' a' w' ⟨p, ac, Lp, hi⟩ hD => ⟨p, ac, Lp, hi.p0, hi.p1, fun i h3 h4 => (hD i h4).trans (hi.dt i h3 h4), fun h i h3 h4 => (hD i (by omega)).2 (hi.df h i h3 h4), hi.ag, hi.tr, hi.keep, fun h i h3 => (hD i (by omega)).2 (hi.da h i h3), hi.wm, hi.defers, hi.size, hi.sizec, fun t ht => hi.done t fun i o h3 h4 h5 => (hD i (by omega)).1 (ht i o h3 h4 h5), fun i o t h3 h4 h5 h6 => hi.pend i o t h3 h4 h5 (fun h => h6 ((hD i (by omega)).2 h)), hi.cm⟩,
    fun Q D a' w' j o rest hj ho hnD hp hcl hi hk => GJ.next hlex hsl hfl hSl hvl (fun j o hj ho => by obtain ⟨v, h1, h2, _⟩ := hst' j o hj ho; exact ⟨v, h1, h2⟩) (fun j hj => hjs j (by omega) (by omega)) ham hA hF ho hnD hp hcl hi hk, fun a' w' hJ => ?_, ⟨m, am, Lm, Nat.le_refl _, by omega, fun i h3 h4 => ?_, fun h => by omega, hA, by rw [Nat.add_sub_cancel]; exact hT, fun _ => Keep.refl _ _, fun h => by omega, fun _ => rfl, ha.defers, rfl, ham.size, fun t ht => ?_, fun i o t _ _ _ _ => rfl, fun t _ => rfl⟩⟩
  · obtain ⟨p, ac, Lp, hi⟩ := hJ
    have hpl : p = l.length := by
      rcases Nat.lt_or_ge p l.length with h3 | h3
      · have := (hi.dt p hi.p0 h3).1 h3; omega
      · have := hi.p1; omega
    have htr := hi.tr
    rw [hpl, List.drop_eq_nil_of_le (Nat.le_refl _)] at htr
    refine ⟨Lp, ds, ⟨?_, hi.defers, fun t v ht => ?_⟩, htr⟩
    · rw [hi.size]; exact ha.size
    · rw [hi.done t fun i o h3 h4 _ => by omega]; exact hi.ag.at_ t v ht
  · exact ⟨False.elim, fun h => by omega⟩
  · rw [ham.base t fun i o h3 h4 _ h5 => (ht i o h3 h4 h5)]
def renO (π : List Nat) (o : Oper) : Oper := ⟨o.dst, o.op, o.type, o.pos, o.after.map fun e => { e with on := π.idxOf e.on }, o.guard.map fun g => (π.idxOf g.1, g.2)⟩
def ren (π : List Nat) (l : List Oper) : List Oper := π.map fun i => renO π (l.getD i default)
def permOk (π : List Nat) (k : Nat) : Bool := π.length == k && π.all (Nat.blt · k) && (List.range k).all (π.contains ·) && (List.range k).all fun i => π.idxOf (π.getD i 0) == i
theorem permOk_get {π : List Nat} {k : Nat} (h : permOk π k = true) : π.length = k ∧ (∀ (i j : Nat), π[i]? = some j → j < k) ∧ (∀ j, j < k → π[π.idxOf j]? = some j) ∧ (∀ (i j : Nat), π[i]? = some j → π.idxOf j = i) ∧ (∀ j, k ≤ j → π.idxOf j = k) := by
  simp only [permOk, Bool.and_eq_true, beq_iff_eq, List.all_eq_true, Nat.blt_eq, List.mem_range, List.contains_iff_mem] at h
  obtain ⟨⟨⟨h1, h2⟩, h3⟩, h4⟩ := h
  refine ⟨h1, fun i j hij => h2 j (List.mem_of_getElem? hij), fun j hj => ?_, fun i j hij => ?_, fun j hj => ?_⟩
  · have hlt := List.idxOf_lt_length_of_mem (h3 j hj)
    rw [List.getElem?_eq_getElem hlt, List.getElem_idxOf hlt]
  · have hi : i < k := by have := (List.getElem?_eq_some_iff.1 hij).1; omega
    have := h4 i hi
    rwa [List.getD_eq_getElem?_getD, hij, Option.getD_some] at this
  · rw [List.idxOf_eq_length (fun hm => by have := h2 j hm; omega), h1]
theorem ren_get {π : List Nat} {l : List Oper} (hπ : permOk π l.length = true) {j : Nat} {o : Oper} (ho : l[j]? = some o) : (ren π l)[π.idxOf j]? = some (renO π o) := by
  obtain ⟨_, _, h3, _⟩ := permOk_get hπ
  have hj := (List.getElem?_eq_some_iff.1 ho).1
  simp only [ren, List.getElem?_map, h3 j hj, Option.map_some, List.getD_eq_getElem?_getD, ho, Option.getD_some]
theorem get_ren {π : List Nat} {l : List Oper} (hπ : permOk π l.length = true) {i : Nat} {o' : Oper} (ho : (ren π l)[i]? = some o') : ∃ j o, π[i]? = some j ∧ l[j]? = some o ∧ o' = renO π o := by
  obtain ⟨_, h2, _⟩ := permOk_get hπ
  simp only [ren, List.getElem?_map, Option.map_eq_some_iff] at ho
  obtain ⟨j, hj, rfl⟩ := ho
  refine ⟨j, _, hj, List.getElem?_eq_getElem (h2 i j hj), ?_⟩
  rw [List.getD_eq_getElem?_getD, List.getElem?_eq_getElem (h2 i j hj), Option.getD_some]
theorem preds_renO (π : List Nat) (o : Oper) : preds (renO π o) = (preds o).map π.idxOf := by
  simp only [preds, renO, Array.toList_map, List.filter_map, List.map_map]
  rfl
theorem yielded_ren {π : List Nat} {l : List Oper} (hπ : permOk π l.length = true) (tmps : Array Value) (j : Nat) : yielded (ren π l).toArray tmps (π.idxOf j) = yielded l.toArray tmps j := by
  unfold yielded
  have : ((ren π l).toArray[π.idxOf j]?).bind (·.dst) = (l.toArray[j]?).bind (·.dst) := by
    simp only [List.getElem?_toArray]
    cases ho : l[j]? with
    | some o => rw [ren_get hπ ho]; rfl
    | none =>
      have hj : l.length ≤ j := List.getElem?_eq_none_iff.1 ho
      obtain ⟨h1, _, _, _, h5⟩ := permOk_get hπ
      rw [h5 j hj, List.getElem?_eq_none (by simp [ren, h1])]
  rw [this]
theorem wanted_ren {π : List Nat} {l : List Oper} (hπ : permOk π l.length = true) (tmps : Array Value) (o : Oper) : Region.wanted (renO π o) (yielded (ren π l).toArray tmps) = Region.wanted o (yielded l.toArray tmps) := by
  unfold Region.wanted renO
  cases o.guard with
  | none => rfl
  | some g => simp only [Option.map_some, yielded_ren hπ]
theorem one_ren {π : List Nat} {l : List Oper} (hπ : permOk π l.length = true) {Q : Exit → Act → World → Prop} {j : Nat} {o : Oper} {rest : List Nat} {a : Act} (ho : l[j]? = some o)
    (h : wpOpsIn (FW r) 0 P (ren π l).toArray (fun e a w => match e with | .normal => wpOpsIn (FW r) 0 P l.toArray Q rest a w | e => Q e a w) [π.idxOf j] a w) : wpOpsIn (FW r) 0 P l.toArray Q (j :: rest) a w := by
  simp only [wpOpsIn, List.getElem?_toArray, ho, ren_get hπ ho, wanted_ren hπ] at h ⊢
  split at h
  · rename_i hw
    rw [if_pos hw]
    refine ⟨h.1, ?_⟩
    have h2 := h.2
    rw [show Oper.semAt (FW r).round a.eval (renO π o) = Oper.semAt (FW r).round a.eval o from rfl] at h2
    generalize (Oper.semAt (FW r).round a.eval o).run P w = res at h2 ⊢
    cases res with
    | ok nx w' =>
      cases nx with
      | enter f args => exact ⟨h2.1, h2.2.mono fun e w'' he => by cases e <;> exact he⟩
      | round l f tmps asn body => exact ⟨h2.1, h2.2.mono fun e w'' he => by cases e <;> exact he⟩
      | _ => exact h2
    | halt x w' => cases x <;> exact h2
  · rename_i hw
    rw [if_neg hw]
    exact ⟨h.1, h.2⟩
theorem DrawInv.perm {l : List Oper} {wd : World} (π : List Nat) (hπ : permOk π l.length = true) (hlex : lexOk l 0 = true) (h : DrawInv P r n (ren π l) L ds wd K) : DrawInv P r n l L ds wd K := by
  intro a ha
  obtain ⟨J, h1, h2, h3, h4⟩ := h a ha
  obtain ⟨p1, p2, p3, p4, _⟩ := permOk_get hπ
  have hlen : (ren π l).length = l.length := by simp [ren, p1]
  refine ⟨fun D a w => J (fun i => ∃ j, π[i]? = some j ∧ D j) a w, fun D D' a w hJ hD => h1 _ _ _ _ hJ fun i _ => ⟨fun ⟨j, hj, h⟩ => ⟨j, hj, (hD j (p2 i j hj)).1 h⟩, fun ⟨j, hj, h⟩ => ⟨j, hj, (hD j (p2 i j hj)).2 h⟩⟩, fun Q D a w j o rest hj ho hnD hp hcl hJ hk => ?_, fun a w hJ => h3 _ _ (h1 _ _ _ _ hJ fun i hi => ?_), h1 _ _ _ _ h4 fun i _ => ⟨fun ⟨j, _, h⟩ => h, False.elim⟩⟩
  · refine one_ren hπ ho (h2 _ _ _ _ _ _ _ (by rw [hlen, ← p1]; exact (List.getElem?_eq_some_iff.1 (p3 j hj)).1) (ren_get hπ ho) ?_ ?_ ?_ hJ fun a' w' hJ' => hk _ _ (h1 _ _ _ _ hJ' fun i hi => ?_))
    · rintro ⟨k, hk1, hk2⟩
      rw [p3 j hj] at hk1
      cases hk1; exact hnD hk2
    · intro k' hk'
      rw [preds_renO, List.mem_map] at hk'
      obtain ⟨k, hk1, rfl⟩ := hk'
      have := lexOk_preds hlex j o ho k hk1
      exact ⟨k, p3 k (by omega), hp k hk1⟩
    · rintro i o' ho' ⟨k, hk1, hk2⟩ k' hk'
      obtain ⟨k2, ok, h5, h6, rfl⟩ := get_ren hπ ho'
      rw [h5] at hk1; cases hk1
      rw [preds_renO, List.mem_map] at hk'
      obtain ⟨q, hq1, rfl⟩ := hk'
      have := lexOk_preds hlex k ok h6 q hq1
      have := p2 i k h5
      exact ⟨q, p3 q (by omega), hcl k ok h6 hk2 q hq1⟩
    · constructor
      · rintro ⟨k, hk1, h | h⟩
        · subst h; exact .inl (p4 i k hk1).symm
        · exact .inr ⟨k, hk1, h⟩
      · rintro (h | ⟨k, hk1, h⟩)
        · subst h; exact ⟨j, p3 j hj, .inl rfl⟩
        · exact ⟨k, hk1, .inr h⟩
  · rw [hlen] at hi
    have hp : π[i]? = some (π[i]'(by omega)) := List.getElem?_eq_getElem _
    exact ⟨fun _ => ⟨_, hp, p2 i _ hp⟩, fun _ => by omega⟩
/-- A region that draws its order, walked in the order π: of the operations in this order the first m change nothing, and those of them that fl numbers may come late; the others stand one behind the other. -/
theorem T.drawP {id : Nat} {l l' : List Oper} (π : List Nat) (m : Nat) (fl : List Nat) (c : Nat) (N : PSet) (hm : P.follows .mixedOrders = true) (hren : ren π l = l') (hlex0 : lexOk l 0 = true) (hπ : permOk π l.length = true) (hml : Nat.blt m l'.length = true) (hlex : lexOk l' 0 = true) (hsl : slotsOk l' m = true) (hfl : floatsOk l' m fl c = true)
    (h : ∀ wD, (∀ M, Step M w M wD none') → QRg P r n l'.toArray (l'.take m) L ds wD (fun L' => (∀ j o, j ∈ fl → l'[j]? = some o → FloatOk P N wD L' o) ∧ TRg P r n l'.toArray N wD K c (l'.drop m) L' ds wD)) : T P r n (.region id l.toArray true) L ds w K := by
  subst hren
  exact DrawInv.t hm hlex0 fun wD hD => .perm π hπ hlex0 (drawInvF m fl c N hml hlex hsl hfl (h wD hD))
end
end Go.K
namespace Go.K
set_option linter.unusedVariables false
set_option linter.unusedSimpArgs false
/-- a call of yield, from whatever walk -/
def Yield (P : Program) (l : Nat) (args : Array Value) (w : World) (Q : Value → World → Prop) : Prop := YieldAt (FW none) 0 P l args w (fun e w' => ∃ v, e = .returned v ∧ Q v w')
section
variable {P : Program} {r : Option Nat} {n : Nat} {L : Sl} {ds : List Deferred} {w : World} {K : Kt} {ops : Array Oper} {rest : List Oper} {d : Nat} {ty : TypeId} {pos : String} {af : Array Edge}
theorem Rg.yield {x : Operand} {l : Nat} {xs : List Operand} {vs : List Value} {ats : Array TypeId} {Q : Value → World → Prop} (hx : ev L x = some (.func (.yield l) #[] #[]))
    (hvs : evs L xs = some vs) (hd : Nat.blt d n = true) (hs : Yield P l vs.toArray w Q) (k : ∀ v w', Q v w' → Rg P r n ops rest ((d, v) :: L) ds w' K) :
    Rg P r n ops ({ dst := some d, op := .call { callee := .value x, args := xs.toArray, argTypes := ats }, type := ty, pos, after := af, guard := none } :: rest) L ds w K := by
  refine ⟨fun a ha => wpListIn_plain rfl fun K' hK' => op_wp (fun _ h => by cases h) ?_⟩
  obtain ⟨fn, tmps, asn, body, hy, hr⟩ := hs
  have hrun : (execOp a.eval { dst := some d, op := .call { callee := .value x, args := xs.toArray, argTypes := ats }, type := ty, pos, after := af, guard := none }).run P w = .ok (.round l fn tmps asn body) w := by
    have h1 := evs_map (ρ := a.eval) (fun x u hx => ha.eval hx) hvs
    simp only [execOp, resolve, List.map_toArray, h1, ha.eval hx]
    simpa [Deferred.ofValue, invoke] using hy
  rw [hrun, Oper.uponIn_round]
  refine ⟨fun h => by simp [FW, Fence.wide] at h, ?_⟩
  have hr' : RoundIn (FW r) (0 - 1) P l fn tmps asn body w (fun e w' => ∃ v, e = .returned v ∧ Q v w') := hr
  refine hr'.mono ?_
  rintro e w' ⟨v, rfl, hv⟩
  exact hK' _ _ ((k v w' hv).run _ (ha.put (by simpa [Nat.blt_eq] using hd) v))
end
def lrec (fn : FuncId) (tm : Array Value) (ps : Array Tmp) (asn body : Code) (D : Nat) (st : LoopState) (pe : Option Code) : Loop := { state := st, pending := pe, fn := fn, tmps := tm, params := ps, assign := asn, body := body, defers := D }
/-- what is known of the slots that a round starts with -/
structure Tm (n : Nat) (tm : Array Value) (L : Sl) : Prop where
  size : n ≤ tm.size
  at_ : ∀ t v, lk L t = some v → tm[t]? = some v
def setL : List Tmp → List Value → Sl → Sl
  | p :: ps, v :: vs, L => setL ps vs ((p, v) :: L)
  | _, _, L => L
theorem agree_set {n : Nat} : ∀ (ps : List Tmp) (vs : List Value) (tm : Array Value) (L : Sl), Tm n tm L → (∀ p ∈ ps, p < n) → Agree n { tmps := (ps.zip vs).foldl (fun tmps (t, a) => tmps.setIfInBounds t a) tm, defers := [] } (setL ps vs L) []
  | [], vs, tm, L, h, _ => ⟨by simpa using h.size, rfl, by simpa [setL] using h.at_⟩
  | p :: ps, [], tm, L, h, _ => ⟨by simpa using h.size, rfl, by simpa [setL] using h.at_⟩
  | p :: ps, v :: vs, tm, L, h, hp => by
    have h0 : Agree n { tmps := tm, defers := [] } L [] := ⟨h.size, rfl, h.at_⟩
    have h1 := h0.put (hp p (List.mem_cons_self ..)) v
    exact agree_set ps vs (tm.setIfInBounds p v) ((p, v) :: L) ⟨by simpa using h.size, h1.at_⟩ (fun q hq => hp q (List.mem_cons_of_mem _ hq))
/-- how a round is left: Q: what yield's caller is told -/
def Kround (l : Nat) (rec : LoopState → Option Code → Loop) (Q : Value → World → Prop) : Kt
  | .normal, _, _, w => w.heap[l]? = some (.loop (rec .busy none)) ∧ Q (.bool true) (w.putObj l (.loop (rec .ready none)))
  | .ret, _, _, w => w.heap[l]? = some (.loop (rec .busy none)) ∧ Q (.bool false) (w.putObj l (.loop (rec .done (some .ret))))
  | .exit id, _, _, w => w.heap[l]? = some (.loop (rec .busy none)) ∧ Q (.bool false) (w.putObj l (.loop (rec .done (some (.exit id)))))
  | .goto id, _, _, w => w.heap[l]? = some (.loop (rec .busy none)) ∧ Q (.bool false) (w.putObj l (.loop (rec .done (some (.goto id)))))
  | _, _, _, _ => False
@[reducible] def Kasn (P : Program) (l n : Nat) (rec : LoopState → Option Code → Loop) (body : Code) (Q : Value → World → Prop) : Kt := fun e L ds w =>
  e = .normal ∧ w.heap[l]? = some (.loop (rec .ready none)) ∧ T P (some l) n body L ds (w.putObj l (.loop (rec .busy none))) (Kround l rec Q)
theorem yield_of {P : Program} {n l D : Nat} {fn : FuncId} {tm : Array Value} {ps : List Tmp} {asn body : Code} {vs : List Value} {L : Sl} {w : World} {Q : Value → World → Prop}
    (hl : w.heap[l]? = some (.loop (lrec fn tm ps.toArray asn body D .ready none))) (htm : Tm n tm L) (hlen : vs.length = ps.length) (hps : ∀ p ∈ ps, p < n)
    (h : T P (some l) n asn (setL ps vs L) [] w (Kasn P l n (lrec fn tm ps.toArray asn body D) body Q)) : Yield P l vs.toArray w Q := by
  have hy := run_yield (P := P) (args := vs.toArray) hl (by simp [lrec, hlen])
  refine ⟨_, _, _, _, hy, roundIn_of_wpIn trivial ?_⟩
  have hz : ((lrec fn tm ps.toArray asn body D .ready none).params.zip vs.toArray).foldl (fun tmps (t, a) => tmps.setIfInBounds t a) (lrec fn tm ps.toArray asn body D .ready none).tmps = (ps.zip vs).foldl (fun tmps (t, a) => tmps.setIfInBounds t a) tm := by
    simp [lrec, ← Array.foldl_toList]
  rw [hz]
  refine wpIn_mono (h.run _ (agree_set ps vs tm L htm hps)) ?_
  rintro e a w1 ⟨L1, ds1, ha1, rfl, hl1, hb⟩
  refine ⟨_, run_beginRound hl1 rfl, wpIn_mono (hb.run a ha1) ?_⟩
  rintro e a2 w2 ⟨L2, ds2, ha2, hK⟩
  cases e with
  | normal => exact ⟨_, _, run_endRound none hK.1, _, rfl, hK.2⟩
  | ret => exact ⟨_, _, run_endRound (some .ret) hK.1, _, rfl, hK.2⟩
  | exit id => exact ⟨_, _, run_endRound (some (.exit id)) hK.1, _, rfl, hK.2⟩
  | goto id => exact ⟨_, _, run_endRound (some (.goto id)) hK.1, _, rfl, hK.2⟩
  | panic c => exact hK.elim
  | outgrown => exact hK.elim
/-- what a loop's record is -/
def IsRec (n D : Nat) (ps : Array Tmp) (asn body : Code) (L : Sl) (rec : LoopState → Option Code → Loop) : Prop := ∃ fn tm, Tm n tm L ∧ rec = lrec fn tm ps asn body D
theorem yield_rec {P : Program} {n l D : Nat} {ps : List Tmp} {asn body : Code} {vs : List Value} {L : Sl} {w : World} {Q : Value → World → Prop} {rec : LoopState → Option Code → Loop} (hrec : IsRec n D ps.toArray asn body L rec)
    (hl : w.heap[l]? = some (.loop (rec .ready none))) (hlen : vs.length = ps.length) (hps : ∀ p ∈ ps, p < n)
    (h : T P (some l) n asn (setL ps vs L) [] w (Kasn P l n rec body Q)) : Yield P l vs.toArray w Q := by
  obtain ⟨fn, tm, htm, rfl⟩ := hrec
  exact yield_of hl htm hlen hps h
/-- the mark of an outermost loop -/
def mark (D : Nat) : Deferred := { target := .collected D, args := #[] }
/-- The statement, outermost. -/
theorem T.range0 {P : Program} {n : Nat} {L : Sl} {ds : List Deferred} {w : World} {K : Kt} {g : Operand} {ps : Array Tmp} {asn body : Code} {gf : FuncId} {lb : Array Value} (hg : ev L g = some (.func (.func gf) #[] lb)) (he : Enters P gf)
    (h : ∀ fn tm, Tm n tm L → Spec P gf (#[.func (.yield (w.heap.size + 1)) #[] #[]] ++ lb)
      ((w.alloc (.deferred (some []))).alloc (.loop (lrec fn tm ps asn body w.heap.size .ready none))) (fun _ w3 =>
        (w3.heap[w.heap.size + 1]? = some (.loop (lrec fn tm ps asn body w.heap.size .ready none)) ∧ K .normal L (mark w.heap.size :: ds) (w3.putObj (w.heap.size + 1) (.loop (lrec fn tm ps asn body w.heap.size .exhausted none)))) ∨
        ∃ c, w3.heap[w.heap.size + 1]? = some (.loop (lrec fn tm ps asn body w.heap.size .done (some c))) ∧ T P none n c L (mark w.heap.size :: ds) (w3.putObj (w.heap.size + 1) (.loop (lrec fn tm ps asn body w.heap.size .exhausted (some c)))) K)) :
    T P none n (.rangeFunc g ps asn body) L ds w K := by
  refine ⟨fun a ha => wpIn_rangeFunc fun fn hfn => ?_⟩
  have hs := h fn a.tmps ⟨ha.size, ha.at_⟩
  have ha' : Agree n { a with defers := [mark w.heap.size] ++ a.defers } L (mark w.heap.size :: ds) := ⟨ha.size, by simp [ha.defers], ha.at_⟩
  let W1 : World := (w.alloc (.deferred (some []))).alloc (.loop (lrec fn a.tmps ps asn body w.heap.size .ready none))
  refine ⟨w.heap.size + 1, [mark w.heap.size], W1, { target := .fn (.func gf) lb, args := #[.func (.yield (w.heap.size + 1)) #[] #[]] }, W1, gf, #[.func (.yield (w.heap.size + 1)) #[] #[]] ++ lb, W1, run_enterLoop_outer _ _ _ _ _, ?_, ?_, ?_, ?_, ?_⟩
  · simp only [resolve, ha.eval hg]
    simp [go_sem]
  · exact fun _ _ => trivial
  · simpa [invoke, go_sem] using he (#[.func (.yield (w.heap.size + 1)) #[] #[]] ++ lb) _
  · exact fun h => by simp [FW, Fence.wide] at h
  · refine (callsIn_wide.2 hs).mono ?_
    rintro e w3 ⟨v, rfl, ⟨hl, hk⟩ | ⟨c, hl, hk⟩⟩
    · exact ⟨none, _, run_endLoop hl (by simp [lrec]), _, _, ha', hk⟩
    · exact ⟨some c, _, run_endLoop hl (by simp [lrec]), hk.run _ ha'⟩
theorem T.range {P : Program} {n : Nat} {L : Sl} {ds : List Deferred} {w : World} {K : Kt} {g : Operand} {ps : Array Tmp} {asn body : Code} {gf : FuncId} {lb : Array Value} (hg : ev L g = some (.func (.func gf) #[] lb)) (he : Enters P gf)
    (h : ∀ rec, IsRec n w.heap.size ps asn body L rec → Spec P gf (#[.func (.yield (w.heap.size + 1)) #[] #[]] ++ lb)
      ((w.alloc (.deferred (some []))).alloc (.loop (rec .ready none))) (fun _ w3 =>
        (w3.heap[w.heap.size + 1]? = some (.loop (rec .ready none)) ∧ K .normal L (mark w.heap.size :: ds) (w3.putObj (w.heap.size + 1) (.loop (rec .exhausted none)))) ∨
        ∃ c, w3.heap[w.heap.size + 1]? = some (.loop (rec .done (some c))) ∧ T P none n c L (mark w.heap.size :: ds) (w3.putObj (w.heap.size + 1) (.loop (rec .exhausted (some c)))) K)) :
    T P none n (.rangeFunc g ps asn body) L ds w K := .range0 hg he fun fn tm htm => h _ ⟨fn, tm, htm, rfl⟩
def Marks (P : Program) : List Deferred → World → World → Prop
  | [], w, w' => w' = w
  | d :: ds, w, w' => ∃ r w1, d.target = .collected r ∧ (Instr.takeDeferred r).run P w = .ok [] w1 ∧ Marks P ds w1 w'
def KretM (P : Program) (fn : Func) (Q : Value → World → Prop) : Kt
  | .normal, L, ds, w | .ret, L, ds, w => ∃ w', Marks P ds w w' ∧ ∀ a : Act, (∀ t v, lk L t = some v → a.tmps[t]? = some v) → ∃ v, (results fn a.tmps).run P w' = .ok v w' ∧ Q v w'
  | _, _, _, _ => False
theorem leaves_marks {P : Program} {fn : Func} {tmps : Array Value} {R : Ending → World → Prop} {w' : World} : ∀ (ds : List Deferred) (w : World), Marks P ds w w' → (∃ v, (results fn tmps).run P w' = .ok v w' ∧ R (.returned v) w') → LeavesInM (FW none) 0 P fn tmps R ds .returning w
  | [], w, h, hr => by cases h; exact hr
  | d :: ds, w, ⟨r, w1, h1, h2, h3⟩, hr => ⟨by simp, .inl ⟨r, w1, h1, h2, leaves_marks ds w1 h3 hr⟩⟩
theorem spec_ofM {P : Program} {f : FuncId} {fn : Func} {c : Code} {args : List Value} {w : World} {Q : Value → World → Prop} (hf : P.funcs[f]? = some fn) (hb : fn.body = some c) {n : Nat} (hn : fn.ntmps = n)
    (h : T P none n c (enterL 0 args) [] w (KretM P fn Q)) : Spec P f args.toArray w Q := by
  refine (callsIn_wide (n := 0)).1 (callsIn_of_wp_marks (F := FW none) hf hb trivial ?_)
  refine wpIn_mono (h.run _ ⟨?_, rfl, ?_⟩) ?_
  · simp [hn]; omega
  · intro t v ht
    obtain ⟨_, h2⟩ := lk_enterL args 0 t v ht
    simp only [Nat.sub_zero] at h2
    have hlt : t < args.length := (List.getElem?_eq_some_iff.1 h2).1
    simp only
    rw [Array.getElem?_append_left (by simpa using hlt)]
    simpa using h2
  · rintro e a w' ⟨L, ds, ha, hK⟩
    have go : (∃ w'', Marks P ds w' w'' ∧ ∀ a : Act, (∀ t v, lk L t = some v → a.tmps[t]? = some v) → ∃ v, (results fn a.tmps).run P w'' = .ok v w'' ∧ Q v w'') → LeavesInM (FW none) 0 P fn a.tmps (fun e w' => ∃ v, e = .returned v ∧ Q v w') a.defers .returning w' := by
      rintro ⟨w'', h1, h2⟩
      obtain ⟨v, h3, h4⟩ := h2 a ha.at_
      rw [ha.defers]
      exact leaves_marks ds w' h1 ⟨v, h3, v, rfl, h4⟩
    cases e with
    | normal => exact go hK
    | ret => exact go hK
    | exit id => exact hK.elim
    | goto id => exact hK.elim
    | panic c => exact hK.elim
    | outgrown => exact hK.elim
theorem marks_one {P : Program} {D : Nat} {w : World} (h : w.heap[D]? = some (.deferred (some []))) : Marks P [mark D] w (w.putObj D (.deferred none)) := ⟨D, _, rfl, run_takeDeferred h, rfl⟩
section
variable {P : Program} {fn : Func} {L : Sl} {w : World} {Q : Value → World → Prop}
theorem Kret0n (hr : fn.results = #[]) (h : Q (.tuple #[]) w) : Kret P fn Q .normal L [] w := ⟨rfl, fun a ha => ⟨_, by simp [results, hr], h⟩⟩
theorem KretM1 {t D : Nat} {v : Value} (hr : fn.results = #[.tmp t]) (hv : lk L t = some v) (hD : w.heap[D]? = some (.deferred (some []))) (h : Q v (w.putObj D (.deferred none))) :
    KretM P fn Q .ret L [mark D] w := ⟨_, marks_one hD, fun a ha => ⟨v, by simp [results, hr, ha t v hv], h⟩⟩
theorem KretM2 {t u D : Nat} {x y : Value} (hr : fn.results = #[.tmp t, .tmp u]) (hx : lk L t = some x) (hy : lk L u = some y) (hD : w.heap[D]? = some (.deferred (some []))) (h : Q (.tuple #[x, y]) (w.putObj D (.deferred none))) :
    KretM P fn Q .ret L [mark D] w := ⟨_, marks_one hD, fun a ha => ⟨_, by simp [results, hr, ha _ _ hx, ha _ _ hy], h⟩⟩
theorem KretM2' {t u : Nat} {x y : Value} (hr : fn.results = #[.tmp t, .tmp u]) (hx : lk L t = some x) (hy : lk L u = some y) (h : Q (.tuple #[x, y]) w) :
    KretM P fn Q .ret L [] w := ⟨w, rfl, fun a ha => ⟨_, by simp [results, hr, ha _ _ hx, ha _ _ hy], h⟩⟩
end
theorem step_putObj {M : PSet} {w : World} {b : Nat} {o : Obj} (hM : M b) : Step M w M (w.putObj b o) (fun k => k = b) :=
  ⟨fun h k hk => by simpa [World.putObj] using h k hk, rfl, rfl, rfl, by simp [World.putObj], fun _ _ => Iff.rfl, fun k _ hn => World.putObj_heap_other (fun e => hn e), fun k hk => by subst hk; exact hM⟩
end Go.K
namespace Go.K
set_option linter.unusedVariables false
set_option linter.unusedSimpArgs false
section
variable {P : Program} {r : Option Nat} {n : Nat} {L : Sl} {ds : List Deferred} {w : World} {K : Kt} {ops : Array Oper} {rest : List Oper} {d : Nat} {ty : TypeId} {pos : String} {af : Array Edge} {x y : Operand} {α : Type} {A : RT α}
theorem PtrTo.isPtr {M : PSet} {v : Value} {a : α} (h : PtrTo A M w v a) : ∃ p, v = .pointer (some p) := by
  obtain ⟨b, o, vs, h1, _⟩ := h; exact ⟨_, h1⟩
theorem Rg.nilCheck {v : Value} (hx : ev L x = some v) (hv : ∃ p, v = .pointer (some p)) (hd : Nat.blt d n = true) (k : Rg P r n ops rest ((d, v) :: L) ds w K) :
    Rg P r n ops ({ dst := some d, op := .nilCheck x, type := ty, pos, after := af, guard := none } :: rest) L ds w K := by
  obtain ⟨p, rfl⟩ := hv
  exact .op (fun _ h => by cases h) rfl rfl hd _ w (fun ρ h => by simp only [execOp, h x _ hx]; simp) k
/-- the address of a field, of a block that is the function's own -/
theorem Rg.fieldc {s : TypeId} {fs : Array Field} {fd : Field} {j size o o' b : Nat} {zv : Value} {bytes : Nat} (hu : P.underlying s = some (.struct fs)) (hfd : fs[j]? = some fd) (ho : o + fd.offset = o') (hi : TI P fd.type zv size bytes) (hs : size ≠ 0)
    (hx : ev L x = some (.pointer (some ⟨b, o, none⟩))) (hd : Nat.blt d n = true) (k : Rg P r n ops rest ((d, .pointer (some ⟨b, o', none⟩)) :: L) ds w K) :
    Rg P r n ops ({ dst := some d, op := .fieldAddr s x j, type := ty, pos, after := af, guard := none } :: rest) L ds w K :=
  .op (fun _ h => by cases h) rfl rfl hd _ w (fun ρ h => by
    simp only [execOp, h x _ hx]
    simp [Instr.fieldAt, run_underlying hu, hfd, Instr.sureAddr, fieldPlace, hi.sizeOf, hs, ← ho, Addr.add_mid]) k
/-- a struct that a block holds -/
theorem Rg.loadaggc {t : TypeId} {fs : TypeDesc} {zv : Value} {bytes size b : Nat} {vs : List Value} {e : TypeId} {fr : Nat × Nat} (hu : P.underlying t = some fs) (hf : fs.isRow = true) (hi : TI P t zv size bytes) (hl : vs.length = size)
    (hx : ev L x = some (.pointer (some ⟨b, 0, none⟩))) (hd : Nat.blt d n = true) (hb : w.heap[b]? = some (.cells vs.toArray e fr)) (k : Rg P r n ops rest ((d, .agg vs.toArray) :: L) ds w K) :
    Rg P r n ops ({ dst := some d, op := .load t x, type := ty, pos, after := af, guard := none } :: rest) L ds w K := by
  refine .op (fun _ h => by cases h) rfl rfl hd (.agg vs.toArray) w (fun ρ h => ?_) k
  simp only [execOp, h x _ hx]
  obtain ⟨i, hi1, _, hi2, _⟩ := hi.get
  have hr : w.rangeAt b 0 vs := fun j v hj => cell_at hb (by simpa using hj)
  have := run_loadAt_mid (P := P) w b 0 t vs fs hr hu hf (by simp [hi1, hi2, hl])
  simp [this]
theorem setCells_go : ∀ (vs : List Value) (w : World) (b o : Nat) (cs : Array Value) (e : TypeId) (fr : Nat × Nat), w.heap[b]? = some (.cells cs e fr) →
    ∃ cs' : Array Value, (w.setCells b o vs).heap[b]? = some (.cells cs' e fr) ∧ cs'.size = cs.size ∧ (∀ j, cs'[j]? = if o ≤ j ∧ j < o + vs.length ∧ j < cs.size then vs[j - o]? else cs[j]?) ∧ ∀ M : PSet, M b → Step M w M (w.setCells b o vs) (fun k => k = b)
  | [], w, b, o, cs, e, fr, h => ⟨cs, by simpa [World.setCells] using h, rfl, fun j => by rw [if_neg (by simp; omega)], fun M hM => (Step.refl M w).widen (fun _ h => h.elim) (fun k hk => by subst hk; exact hM)⟩
  | v :: vs, w, b, o, cs, e, fr, h => by
    have h1 := setCell_at (o := o) (v := v) h
    obtain ⟨cs', h2, h3, h4, h5⟩ := setCells_go vs (w.setCell ⟨b, o, none⟩ v) b (o + 1) _ e fr h1
    refine ⟨cs', h2, by rw [h3]; simp, fun j => ?_, fun M hM => (step_setCell M hM).trans (h5 M hM) fun _ _ h => h⟩
    rw [h4 j, Array.getElem?_setIfInBounds]
    simp only [Array.size_setIfInBounds, List.length_cons]
    by_cases hj : o = j
    · subst hj
      rw [if_neg (by omega), if_pos rfl]
      by_cases hlt : o < cs.size
      · rw [if_pos hlt, if_pos ⟨Nat.le_refl _, by omega, hlt⟩]; simp
      · rw [if_neg hlt, if_neg (by omega), Array.getElem?_eq_none (by omega)]
    · rw [if_neg hj]
      by_cases h6 : o + 1 ≤ j ∧ j < o + 1 + vs.length ∧ j < cs.size
      · rw [if_pos h6, if_pos (by omega), show j - o = (j - (o + 1)) + 1 from by omega]; simp
      · rw [if_neg h6, if_neg (by omega)]
/-- a struct into a block -/
theorem Rg.storeaggc {t : TypeId} {zv : Value} {bytes size b : Nat} {cs : Array Value} {vs : List Value} {e : TypeId} {M : PSet} (hi : TI P t zv size bytes) (hl : vs.length = size) (hcs : cs.size = size) (h1 : ∀ u ∈ vs, u.oneCell' = true)
    (hx : ev L x = some (.pointer (some ⟨b, 0, none⟩))) (hy : ev L y = some (.agg vs.toArray)) (hb : w.heap[b]? = some (.cells cs e (0, 0))) (hm : M b)
    (k : ∀ w', w'.heap[b]? = some (.cells vs.toArray e (0, 0)) → Step M w M w' (fun k => k = b) → Rg P r n ops rest L ds w' K) :
    Rg P r n ops ({ dst := none, op := .store t x y, type := ty, pos, after := af, guard := none } :: rest) L ds w K := by
  obtain ⟨cs', h2, h3, h4, h5⟩ := setCells_go vs w b 0 cs e (0, 0) hb
  have hcs' : cs' = vs.toArray := Array.ext_getElem? fun j => by
    rw [h4 j]
    by_cases hj : j < cs.size
    · rw [if_pos (by omega)]; simp
    · rw [if_neg (by omega), Array.getElem?_eq_none (by omega)]; simp; omega
  subst hcs'
  refine .opu (fun _ h => by cases h) rfl rfl (w.setCells b 0 vs) (fun ρ hρ => ?_) (k _ h2 (h5 M hm))
  simp only [execOp, hρ x _ hx, hρ y _ hy]
  obtain ⟨i, hi1, _, hi2, _⟩ := hi.get
  have := run_storeAt_mid (P := P) w b 0 t vs.toArray (fun j hj => by
    have hj' : j < cs.size := by simp at hj; omega
    exact ⟨by rw [cell_at hb (v := cs[j]) (by simp [hj'])]; rfl, by simp [World.frozen?, hb]⟩) (by simp [hi1, hi2, hl]) (by simpa [Array.all_eq_true_iff_forall_mem] using h1)
  simp [this]
/-- a variable that is laid in a block, and written just once -/
theorem Rg.newagg {t e : TypeId} {zv v : Value} {bytes : Nat} {M M1 : PSet} {w1 : World} {a : α} {ty2 : TypeId} {pos2 : String} {af2 : Array Edge} (hi : TI P e zv A.n bytes) (hz : zv.cells.size = A.n) (hg : A.agg = true) (hd : Nat.blt d n = true) (hte : t = e) (hdy : ev ((d, .pointer (some ⟨w.heap.size, 0, none⟩)) :: L) y = some v)
    (hv : A.V M1 w1 a v) (hle : Le M1 w1 M w) (hm : Lt M w) (k : ∀ u w', PtrTo A M w' u a → Step M w M w' none' → w.heap.size < w'.heap.size → Rg P r n ops rest ((d, u) :: L) ds w' K) :
    Rg P r n ops ({ dst := some d, op := .alloc e, type := ty, pos, after := af, guard := none } :: { dst := none, op := .store t (.tmp d) y, type := ty2, pos := pos2, after := af2, guard := none } :: rest) L ds w K := by
  subst hte
  obtain ⟨vs, h1, rfl⟩ := hv.le hle
  have hdd : lk ((d, .pointer (some ⟨w.heap.size, 0, none⟩)) :: L) d = some (.pointer (some ⟨w.heap.size, 0, none⟩)) := by simp [lk, Nat.beq_refl]
  obtain ⟨i, i1, i2, i3, i4⟩ := hi.get
  refine .op (fun _ h => by cases h) rfl rfl hd (.pointer (some ⟨w.heap.size, 0, none⟩)) (w.alloc (.cells zv.cells t)) (fun ρ hρ => ?_) ?_
  · simp only [execOp]
    simp [Instr.alloc, zeroValue, typeInfo, i1, i2, newVar, newRow, newObj, Sem.run]
  · have s1 := (step_alloc M w (.cells zv.cells t)).own (Nat.le_refl _) (by simp)
    refine .storeaggc (M := ins M w.heap.size) hi (A.len h1) hz (A.one h1) hdd (by simpa [RT.val, hg] using hdy) (heap_alloc_at w _) (.inl rfl) (fun w' h2 s2 => ?_)
    have hs2 := s2.size
    have hst : Step M w M w' none' := ⟨fun h b hb => Nat.lt_of_lt_of_le (h b hb) (Nat.le_trans s1.size hs2), s2.os.trans s1.os, s2.tape.trans s1.tape, s2.output.trans s1.output, Nat.le_trans s1.size hs2, fun _ _ => Iff.rfl, fun k hk _ => (s2.same k (Nat.lt_of_lt_of_le hk s1.size) (fun e => by subst e; omega)).trans (s1.same k hk fun h => h.elim), fun _ h => h.elim⟩
    refine k _ w' ⟨w.heap.size, 0, vs, rfl, fun h => by have := hm _ h; omega, A.le hst.le h1, fun j u hj => cell_at h2 (by simpa using hj)⟩ hst (by simp at hs2; omega)
def Filled (place : Nat → Option (Nat × Nat)) : List Value → List (Nat × Value) → List Value → Prop
  | zs, [], out => out = zs
  | zs, (i, v) :: rest, out => ∃ off vs, place i = some (off, vs.length) ∧ v.cells = vs.toArray ∧ off + vs.length ≤ zs.length ∧ Filled place (zs.take off ++ vs ++ zs.drop (off + vs.length)) rest out
theorem fill_filled {place : Nat → Option (Nat × Nat)} : ∀ (ps : List (Nat × Value)) (zs out : List Value), Filled place zs ps out → Instr.fill place zs.toArray ps = some out.toArray
  | [], zs, out, h => by cases h; rfl
  | (i, v) :: rest, zs, out, ⟨off, vs, h1, h2, h3, h4⟩ => by
    rw [← fill_filled rest _ out h4]
    have key : ∀ (l : List Value) (k : Nat) (cs : Array Value), off + k + l.length ≤ cs.size → ((l.zipIdx k).foldl (fun (cs : Array Value) (x : Value × Nat) => cs.setIfInBounds (off + x.2) x.1) cs).size = cs.size ∧
        ∀ j : Nat, ((l.zipIdx k).foldl (fun (cs : Array Value) (x : Value × Nat) => cs.setIfInBounds (off + x.2) x.1) cs)[j]? = if off + k ≤ j ∧ j < off + k + l.length then l[j - (off + k)]? else cs[j]? := by
      intro l
      induction l with
      | nil =>
        intro k cs hk
        refine ⟨rfl, fun j => ?_⟩
        simp
        intro h1 h2; omega
      | cons a l ih =>
        intro k cs hk
        simp only [List.zipIdx_cons, List.foldl_cons]
        simp only [List.length_cons] at hk
        obtain ⟨h1, h2⟩ := ih (k + 1) (cs.setIfInBounds (off + k) a) (by simp; omega)
        refine ⟨by rw [h1]; simp, fun j => ?_⟩
        rw [h2 j, Array.getElem?_setIfInBounds, List.length_cons]
        by_cases h3 : off + (k + 1) ≤ j ∧ j < off + (k + 1) + l.length
        · rw [if_pos h3, if_pos (by omega), show j - (off + k) = (j - (off + (k + 1))) + 1 from by omega]; simp
        · rw [if_neg h3]
          by_cases h4 : off + k = j
          · subst h4; rw [if_pos rfl, if_pos (by omega), if_pos (by omega)]; simp
          · rw [if_neg h4, if_neg (by omega)]
    obtain ⟨k1, k2⟩ := key vs 0 zs.toArray (by simpa using h3)
    conv => lhs; rw [Instr.fill]
    simp only [h1, h2]
    simp [show ¬ (zs.length < off + vs.length) by omega]
    congr 1
    refine Array.ext_getElem? fun j => ?_
    rw [k2 j, Nat.add_zero, List.getElem?_toArray, List.getElem?_toArray]
    by_cases hj : j < off
    · rw [if_neg (by omega), List.getElem?_append_left (by simp; omega), List.getElem?_take, if_pos hj]
    · have ht : (zs.take off).length = off := by simp; omega
      rw [List.getElem?_append_right (by omega), ht]
      by_cases hj2 : j < off + vs.length
      · rw [if_pos (by omega), List.getElem?_append_left (by omega)]
      · rw [if_neg (by omega), List.getElem?_append_right (by omega), List.getElem?_drop]
        congr 1; omega
def placesOf (P : Program) (t : TypeId) : List (Option (Nat × Nat)) := match P.underlying t with
  | some (.struct fs) => fs.toList.map fun f => (P.info? f.type).map fun i => (f.offset, i.size)
  | _ => []
def PVals (L : Sl) : List (Nat × Operand) → List (Nat × Value) → Prop
  | [], vs => vs = []
  | p :: ps, vs => ∃ v r, vs = (p.1, v) :: r ∧ ev L p.2 = some v ∧ PVals L ps r
theorem PVals.use {ρ : Operand → Value} (h : ∀ x v, ev L x = some v → ρ x = v) : ∀ {ps : List (Nat × Operand)} {vs : List (Nat × Value)}, PVals L ps vs → ps.map (fun p => (p.1, ρ p.2)) = vs
  | [], _, hp => by cases hp; rfl
  | p :: ps, _, ⟨v, r, h1, h2, h3⟩ => by rw [List.map_cons, h p.2 v h2, PVals.use h h3, h1]
theorem Rg.build {t : TypeId} {fs : Array Field} {zv : Value} {bytes size : Nat} {ps : List (Nat × Operand)} {vals : List (Nat × Value)} {out : List Value} {places : List (Nat × Nat)} (hu : P.underlying t = some (.struct fs)) (hi : TI P t zv size bytes)
    (hpl0 : placesOf P t = places.map some) (hd : Nat.blt d n = true)
    (hvs : PVals L ps vals) (hf : Filled (fun i => places[i]?) zv.cells.toList vals out) (k : Rg P r n ops rest ((d, .agg out.toArray) :: L) ds w K) :
    Rg P r n ops ({ dst := some d, op := .build t ps.toArray, type := ty, pos, after := af, guard := none } :: rest) L ds w K := by
  have hpl : fs.toList.map (fun f => (P.info? f.type).map fun i => (f.offset, i.size)) = places.map some := by
    unfold placesOf at hpl0; rw [hu] at hpl0; exact hpl0
  obtain ⟨i, i1, i2, i3, i4⟩ := hi.get
  refine .op (fun _ h => by cases h) rfl rfl hd (.agg out.toArray) w (fun ρ hρ => ?_) k
  have hm : (Array.map (fun (i, x) => (i, ρ x)) ps.toArray).toList = vals := by rw [Array.toList_map]; exact hvs.use hρ
  have hp : ∀ (l : List Field) (acc : List (Nat × Nat)), l.map (fun f => (P.info? f.type).map fun i => (f.offset, i.size)) = acc.map some → (l.mapM (fun f => do let s ← Go.sizeOf f.type; pure (f.offset, s) : Field → Sem (Nat × Nat))).run P w = .ok acc w := by
    intro l
    induction l with
    | nil => intro acc h; cases acc with
      | nil => rfl
      | cons a acc => simp at h
    | cons f l ih =>
      intro acc h
      cases acc with
      | nil => simp at h
      | cons a acc =>
        simp only [List.map_cons, List.cons.injEq] at h
        obtain ⟨h1, h2⟩ := h
        have := ih acc h2
        cases hq : P.info? f.type with
        | none => rw [hq] at h1; simp at h1
        | some i =>
          rw [hq] at h1; simp at h1; subst h1
          have hs : (Go.sizeOf f.type).run P w = .ok i.size w := by simp [Go.sizeOf, typeInfo, program, Sem.run, hq]
          simp only [List.mapM_cons, Sem.run_bind, hs, Result.andThen_ok, Sem.run_pure, this]
  have hp2 : (fs.mapM (fun f => do let s ← Go.sizeOf f.type; pure (f.offset, s) : Field → Sem (Nat × Nat))).run P w = .ok places.toArray w := by
    have h3 : fs.mapM (fun f => do let s ← Go.sizeOf f.type; pure (f.offset, s) : Field → Sem (Nat × Nat)) = List.toArray <$> fs.toList.mapM (fun f => do let s ← Go.sizeOf f.type; pure (f.offset, s) : Field → Sem (Nat × Nat)) := by
      exact Array.mapM_eq_mapM_toList
    rw [h3]
    simp only [map_eq_pure_bind, Sem.run_bind, hp _ _ hpl, Result.andThen_ok, Sem.run_pure]
  have hf2 := fill_filled vals _ out hf
  have hz : (zeroValue t).run P w = .ok zv w := by simp [zeroValue, typeInfo, program, Sem.run, i1, i2]
  have hf3 : Instr.fill (fun x => places.toArray[x]?) zv.cells vals = some out.toArray := by simpa using hf2
  simp only [execOp, Instr.build, Sem.run_bind, hz, Result.andThen_ok, run_underlying hu, hp2, hm, hf3, Sem.run_pure]
theorem Rg.slice_lhm {t e : TypeId} {l h m : Operand} {κ κ' κ'' : IntKind} {lo hi mx : Int} {hn : 0 < A.n} {M : PSet} {w1 : World} {xs : List α} {v zv : Value} {bytes : Nat} (ht : P.underlying t = some (.slice e)) (hti : TI P e zv A.n bytes)
    (hx : ev L x = some v) (hl : ev L l = some (.int κ lo)) (hh : ev L h = some (.int κ' hi)) (hm : ev L m = some (.int κ'' mx)) (hd : Nat.blt d n = true) (hv : (A.sl hn).V M w1 xs v) (hb : 0 ≤ lo ∧ lo ≤ hi ∧ hi = mx ∧ hi ≤ xs.length)
    (k : ∀ u, (A.sl hn).V M w1 ((xs.take hi.toNat).drop lo.toNat) u → Rg P r n ops rest ((d, u) :: L) ds w K) :
    Rg P r n ops ({ dst := some d, op := .slice t x (some l) (some h) (some m), type := ty, pos, after := af, guard := none } :: rest) L ds w K := by
  obtain ⟨a, cap, rfl, hc, hlen, hs⟩ := V_sl.1 hv
  obtain ⟨h1, h2, rfl, h3⟩ := hb
  have hlen2 : ((xs.take hi.toNat).drop lo.toNat).length = hi.toNat - lo.toNat := by rw [List.length_drop, List.length_take]; omega
  refine .op (fun _ h => by cases h) rfl rfl hd (sliced a lo.toNat hi.toNat hi.toNat A.n) w (fun ρ hρ => ?_) (k _ (V_sl.2 ⟨_, hi.toNat - lo.toNat, ?_, by omega, by omega, hs.slice lo.toNat hi.toNat cap hi.toNat (by omega) (by omega) (by omega)⟩))
  · simp only [execOp, hρ x _ hx, Option.map_some, hρ l _ hl, hρ h _ hh, hρ m _ hm]
    rw [Sem.run_bind, run_sliceAt_slice _ _ _ _ _ _ (elem_of ht), run_slice_lhm _ _ _ _ _ (elem_of ht) _ _ _ _ _ _ h1 h2 (Int.le_refl _) (by omega), elem_eq ht, hti.sizeOf]
    simp
  · rw [hlen2]; rfl
/-- a slice, held to nil -/
theorem Rg.sleqnil {t t' e : TypeId} {a : Option Addr} {l c : Nat} (ht : P.underlying t = some (.slice e)) (hx : ev L x = some (.slice a l c)) (hy : ev L y = some (.slice none 0 0)) (hd : Nat.blt d n = true)
    (k : Rg P r n ops rest ((d, .bool (decide (a = none))) :: L) ds w K) :
    Rg P r n ops ({ dst := some d, op := .binOp .eql t x y t', type := ty, pos, after := af, guard := none } :: rest) L ds w K :=
  .op (fun _ h => by cases h) rfl rfl hd _ w (fun ρ h => by
    have he := run_equal_slice_nil (P := P) w t e a l c ht
    simp only [execOp]; rw [h x _ hx, h y _ hy]
    cases a <;> simp [eqGuard, binOp, run_underlying ht] <;> simp [he]) k
/-- a slice of nothing that is not nil -/
theorem Rg.sl0 {t e : TypeId} {zv : Value} {bytes size : Nat} (ht : P.underlying t = some (.slice e)) (hi : TI P e zv size bytes) (M : PSet) (hd : Nat.blt d n = true)
    (k : ∀ a w', Step M w M w' none' → Rg P r n ops rest ((d, .slice (some a) 0 0) :: L) ds w' K) :
    Rg P r n ops ({ dst := some d, op := .buildSlice t 0 #[], type := ty, pos, after := af, guard := none } :: rest) L ds w K := by
  refine .op (fun _ h => by cases h) rfl rfl hd (.slice (some ⟨w.heap.size, 0, none⟩) 0 0) (w.alloc (.cells #[] e)) (fun ρ hρ => ?_) (k _ _ (step_alloc M w _))
  simp only [execOp, Instr.buildSlice, Sem.run_bind, run_underlying ht, Result.andThen_ok, hi.sizeOf]
  simp [newRow, newObj, Sem.run, Instr.fill]
  have h0 : Array.range 0 = #[] := by apply Array.ext <;> simp
  simp [h0]
/-- append to a slice of nothing -/
theorem Rg.appendnew {t e : TypeId} {zv : Value} {bytes : Nat} {hn : 0 < A.n} {M M2 : PSet} {w2 : World} {a : Option Addr} {u : Value} {ys : List α} (ht : P.underlying t = some (.slice e)) (hi : TI P e zv A.n bytes) (hz : zv.cells.size = A.n)
    (hx : ev L x = some (.slice a 0 0)) (hy : ev L y = some u) (hd : Nat.blt d n = true) (hu : (A.sl hn).V M2 w2 ys u) (hle : Le M2 w2 M w) (hm : Lt M w) (hb : ys.length * bytes ≤ 140737488355328)
    (k : ∀ v' w', (A.sl hn).V M w' ys v' → Step M w M w' none' → Rg P r n ops rest ((d, v') :: L) ds w' K) :
    Rg P r n ops ({ dst := some d, op := .call { callee := .builtin .append, args := #[x, y], argTypes := #[t, t] }, type := ty, pos, after := af, guard := none } :: rest) L ds w K := by
  have hyl := V_sl_len hu
  by_cases hne : ys = []
  · subst hne
    obtain ⟨b, c, rfl, _⟩ := V_sl.1 hu
    refine .op (fun _ h => by cases h) rfl rfl hd (.slice a 0 0) w (fun ρ hρ => ?_) (k _ w (V_sl.2 ⟨a, 0, rfl, Nat.le_refl _, by simp, .inl rfl⟩) (Step.refl _ _))
    simp only [execOp, resolve, List.map_toArray, List.map_cons, List.map_nil, hρ x _ hx, hρ y _ hy]
    have := run_append_none (P := P) (w := w) (ty := ty) ht hi a 0 0 c b (Nat.le_refl 0)
    simp only [List.length_nil] at this ⊢
    simp [invoke, builtin, this]
  · have hp : 0 < ys.length := List.length_pos_iff.2 hne
    refine .appendclip (xs := []) (a := a) ht hi hz hx hy hd (V_sl.2 ⟨a, 0, rfl, Nat.le_refl _, by simp, .inl rfl⟩) (fun _ => rfl) hu hle hp (by simpa using hyl) (by simpa using hb) fun v' M' w' ho s => ?_
    rw [List.nil_append] at ho
    exact k v' w' (Own.close hm s ho hyl) s.back
theorem V_one {M : PSet} {a : α} {v : Value} (h : A.V M w a v) (hg : A.agg = false) (h1 : A.n = 1) : v.oneCell' = true := by
  obtain ⟨vs, hR, rfl⟩ := h
  have hl := A.len hR
  match vs, hl with
  | [u], _ => simpa [RT.val, hg] using A.one hR u (by simp)
  | [], hl => simp at hl; omega
  | _ :: _ :: _, hl => simp at hl; omega
theorem V_cell {M : PSet} {a : α} {v : Value} (h : A.V M w a v) (hg : A.agg = false) (h1 : A.n = 1) : A.R M w a [v] := by
  obtain ⟨vs, hR, rfl⟩ := h
  have hl := A.len hR
  match vs, hl, hR with
  | [u], _, hR => simpa [RT.val, hg] using hR
  | [], hl, _ => simp at hl; omega
  | _ :: _ :: _, hl, _ => simp at hl; omega
/-- a struct of two cells -/
theorem V_pair_mk {β : Type} {B : RT β} {M : PSet} {a : α} {b : β} {u v : Value} (h : A.V M w a u) (h' : B.V M w b v) (hg : A.agg = false) (h1 : A.n = 1) (hg' : B.agg = false) (h1' : B.n = 1) : (A.pair B).V M w (a, b) (.agg [u, v].toArray) :=
  ⟨[u, v], ⟨[u], [v], rfl, V_cell h hg h1, V_cell h' hg' h1'⟩, rfl⟩
end
end Go.K
namespace Go.K
set_option linter.unusedVariables false
set_option linter.unusedSimpArgs false
/-- a number's bytes -/
def put (n : Nat) : List UInt8 := if n < 128 then [UInt8.ofNat n] else UInt8.ofNat (128 + n % 128) :: put (n / 128)
termination_by n
decreasing_by omega
theorem put_lt {n : Nat} (h : n < 128) : put n = [UInt8.ofNat n] := by rw [put, if_pos h]
theorem put_ge {n : Nat} (h : 128 ≤ n) : put n = UInt8.ofNat (128 + n % 128) :: put (n / 128) := by rw [put, if_neg (by omega)]
theorem put_pos (n : Nat) : 0 < (put n).length := by rw [put]; split <;> simp
theorem put_len {k : Nat} : ∀ {n : Nat}, n < 128 ^ (k + 1) → (put n).length ≤ k + 1 := by
  induction k with
  | zero => intro n h; rw [put_lt (by simpa using h)]; simp
  | succ k ih =>
    intro n h
    by_cases h1 : n < 128
    · rw [put_lt h1]; simp
    · rw [put_ge (by omega)]
      have := ih (n := n / 128) (by rw [Nat.pow_succ] at h; omega)
      simp; omega
theorem put_len9 {n : Nat} (h : n ≤ 9223372036854775807) : (put n).length ≤ 9 := put_len (k := 8) (by omega)
/-- the number that bytes begin with, and how many they are: from the place i on, n having come -/
def getL : List UInt8 → Nat → Nat → Option (Nat × Nat)
  | [], _, _ => none
  | c :: cs, i, n => if c.toNat < 128 then (if c.toNat = 0 ∧ 0 < i then none else some (n + c.toNat % 128 * 128 ^ i, i + 1)) else getL cs (i + 1) (n + c.toNat % 128 * 128 ^ i)
/-- the number at a place, the place behind it, the error -/
def get (b : List UInt8) (at_ : Int) : Int × Int × Int :=
  if at_ < 0 ∨ (b.length : Int) < at_ then (0, 0, 1)
  else match getL ((b.drop at_.toNat).take 9) 0 0 with
    | some (n, k) => (n, at_ + k, 0)
    | none => (0, 0, 2)
/-- the number of bytes, the least digit first -/
def val : List UInt8 → Nat
  | [] => 0
  | c :: cs => c.toNat % 128 + 128 * val cs
/-- do numbers rise, from 0 on? -/
def rises : Int → List Int → Bool
  | _, [] => true
  | last, x :: l => decide (last < x) && rises x l
/-- rising numbers' bytes, behind a last one -/
def putR : Int → List Int → List UInt8
  | _, [] => []
  | last, x :: l => put (x - last - 1).toNat ++ putR x l
def putRising (l : List Int) : List UInt8 := put l.length ++ putR (-1) l
/-- numbers that rise, made of any -/
def goodL : Int → List Int → List Int
  | _, [] => []
  | last, x :: l => let m := if x < 0 then -(x + 1) else x; (last + 1 + m % 1000) :: goodL (last + 1 + m % 1000) l
def good (l : List Int) (most : Nat) : List Int := goodL (-1) (l.take most)
theorem rises_drop {l : List Int} {k : Nat} {x : Int} (h : l[k]? = some x) (last : Int) : rises last (l.drop k) = (decide (last < x) && rises x (l.drop (k + 1))) := by
  obtain ⟨hlt, he⟩ := List.getElem?_eq_some_iff.1 h
  rw [List.drop_eq_getElem_cons hlt, rises, he]
theorem putR_drop {l : List Int} {k : Nat} {x : Int} (h : l[k]? = some x) (last : Int) : putR last (l.drop k) = put (x - last - 1).toNat ++ putR x (l.drop (k + 1)) := by
  obtain ⟨hlt, he⟩ := List.getElem?_eq_some_iff.1 h
  rw [List.drop_eq_getElem_cons hlt, putR, he]
theorem putR_len : ∀ (l : List Int) (last : Int), -1 ≤ last → (∀ x ∈ l, x ≤ 9223372036854775807) → rises last l = true → (putR last l).length ≤ 9 * l.length
  | [], _, _, _, _ => by simp [putR]
  | x :: l, last, h1, h2, h3 => by
    simp only [rises, Bool.and_eq_true, decide_eq_true_eq] at h3
    have hx := h2 x (List.mem_cons_self ..)
    have h4 := putR_len l x (by omega) (fun y hy => h2 y (List.mem_cons_of_mem _ hy)) h3.2
    have h5 := put_len9 (n := (x - last - 1).toNat) (by omega)
    simp only [putR, List.length_append, List.length_cons]; omega
end Go.K
namespace Go.K
set_option linter.unusedVariables false
set_option linter.unusedSimpArgs false
abbrev Po := Int × List Int
abbrev Bl := Int × Int × Int × Int
abbrev Li := List UInt8 × List Bl × Int
abbrev RT.po : RT Po := RT.pair (RT.int .i64) ((RT.int .i64).sl)
abbrev RT.bl : RT Bl := RT.pair (RT.int .i64) (RT.pair (RT.int .i64) (RT.pair (RT.int .i64) (RT.int .i64)))
abbrev RT.li : RT Li := RT.pair (RT.u8.sl) (RT.pair ((RT.bl).sl) (RT.int .i64))
theorem po0 : Part RT.po (RT.int .i64) (fun p => p.1) 0 := Part.fst _ _
theorem po1 : Part RT.po ((RT.int .i64).sl) (fun p => p.2) 1 := Part.snd _ _
theorem bl3 : Part RT.bl (RT.int .i64) (fun b => b.2.2.2) 3 := (Part.snd _ _).trans ((Part.snd _ _).trans (Part.snd _ _))
theorem li1 : Part RT.li ((RT.bl).sl) (fun x => x.2.1) 1 := (Part.snd _ _).trans (Part.fst _ _)
def sumN (bs : List Bl) : Int := (bs.map fun b => b.2.2.2).sum
theorem sumN_snoc (bs : List Bl) (b : Bl) : sumN (bs ++ [b]) = sumN bs + b.2.2.2 := by simp [sumN]
theorem sumN_take {bs : List Bl} {k : Nat} {b : Bl} (h : bs[k]? = some b) : sumN (bs.take (k + 1)) = sumN (bs.take k) + b.2.2.2 := by
  obtain ⟨h1, h2⟩ := List.getElem?_eq_some_iff.1 h
  rw [List.take_succ_eq_append_getElem h1, h2, sumN_snoc]
theorem sumN_le (bs : List Bl) (h : ∀ b ∈ bs, 0 ≤ b.2.2.2 ∧ b.2.2.2 ≤ 8) : 0 ≤ sumN bs ∧ sumN bs ≤ 8 * bs.length := by
  induction bs with
  | nil => simp [sumN]
  | cons b bs ih =>
    have := ih fun c hc => h c (List.mem_cons_of_mem _ hc)
    have h0 := h b (List.mem_cons_self ..)
    simp only [sumN, List.map_cons, List.sum_cons, List.length_cons] at this ⊢
    omega
def putPo : Int → List Po → List UInt8
  | _, [] => []
  | last, (d, ps) :: l => put (d - last - 1).toNat ++ putRising ps ++ putPo d l
def lastPo : Int → List Po → Int
  | last, [] => last
  | _, (d, _) :: l => lastPo d l
def totPo (l : List Po) : Int := (l.map fun p => (p.2.length : Int)).sum
theorem putPo_append (l l' : List Po) (last : Int) : putPo last (l ++ l') = putPo last l ++ putPo (lastPo last l) l' := by
  induction l generalizing last with
  | nil => rfl
  | cons p l ih => obtain ⟨d, ps⟩ := p; simp [putPo, lastPo, ih]
theorem totPo_append (l l' : List Po) : totPo (l ++ l') = totPo l + totPo l' := by simp [totPo]
/-- block k of a list of postings -/
def blkOf (l : List Po) (k : Nat) : Bl := ((putPo (-1) (l.take (8 * k))).length, lastPo (-1) (l.take (8 * k)), lastPo (-1) (l.take (8 * k + 8)), ((l.drop (8 * k)).take 8).length)
def blks (l : List Po) (m : Nat) : List Bl := (List.range m).map (blkOf l)
def mkLi (l : List Po) : Li := (putPo (-1) l, blks l ((l.length + 7) / 8), totPo l)
/-- postings may be -/
def risesB (l : List Int) : Bool := rises (-1) l && l.all (fun n => decide (n < 2147483648))
def mayPo : Int → List Po → Bool
  | _, [] => true
  | last, (d, ps) :: l => decide (last < d) && decide (d < 2147483648) && !ps.isEmpty && risesB ps && mayPo d l
theorem may_at : ∀ {l : List Po} {i : Nat} {last d : Int} {ps : List Int}, mayPo last l = true → l[i]? = some (d, ps) →
    lastPo last (l.take i) < d ∧ d < 2147483648 ∧ ps ≠ [] ∧ risesB ps = true ∧ lastPo last (l.take (i + 1)) = d ∧ last ≤ lastPo last (l.take i)
  | [], i, _, _, _, _, h => by simp at h
  | (d0, p0) :: l, 0, last, d, ps, hm, h => by
    simp only [List.getElem?_cons_zero, Option.some.injEq, Prod.mk.injEq] at h
    obtain ⟨rfl, rfl⟩ := h
    simp only [mayPo, Bool.and_eq_true, decide_eq_true_eq] at hm
    obtain ⟨⟨⟨⟨h1, h2⟩, h3⟩, h4⟩, h5⟩ := hm
    refine ⟨h1, h2, ?_, h4, by simp [lastPo], by simp [lastPo]⟩
    rintro rfl; simp at h3
  | (d0, p0) :: l, i + 1, last, d, ps, hm, h => by
    simp only [mayPo, Bool.and_eq_true, decide_eq_true_eq] at hm
    obtain ⟨⟨⟨⟨h1, h2⟩, h3⟩, h4⟩, h5⟩ := hm
    obtain ⟨a1, a2, a3, a4, a5, a6⟩ := may_at (i := i) h5 (by simpa using h)
    refine ⟨by simpa [lastPo] using a1, a2, a3, a4, by simpa [lastPo] using a5, ?_⟩
    simp only [List.take_succ_cons, lastPo]; omega
theorem putPo_take {l : List Po} {i : Nat} {d : Int} {ps : List Int} (last : Int) (h : l[i]? = some (d, ps)) :
    putPo last (l.take (i + 1)) = putPo last (l.take i) ++ put (d - lastPo last (l.take i) - 1).toNat ++ putRising ps := by
  obtain ⟨h1, h2⟩ := List.getElem?_eq_some_iff.1 h
  rw [List.take_succ_eq_append_getElem h1, h2, putPo_append]; simp [putPo]
theorem putPo_split {l : List Po} {i : Nat} (last : Int) : putPo last l = putPo last (l.take i) ++ putPo (lastPo last (l.take i)) (l.drop i) := by
  conv => lhs; rw [← List.take_append_drop i l]
  exact putPo_append _ _ _
theorem risesB_iff {l : List Int} : risesB l = true ↔ rises (-1) l = true ∧ ∀ x ∈ l, x < 2147483648 := by
  simp [risesB]
theorem all_drop {l : List Int} {k : Nat} {x : Int} (p : Int → Bool) (h : l[k]? = some x) : (l.drop k).all p = (p x && (l.drop (k + 1)).all p) := by
  obtain ⟨h1, h2⟩ := List.getElem?_eq_some_iff.1 h
  rw [List.drop_eq_getElem_cons h1, h2, List.all_cons]
theorem mayPo_drop {l : List Po} {k : Nat} {d : Int} {ps : List Int} (h : l[k]? = some (d, ps)) (last : Int) :
    mayPo last (l.drop k) = (decide (last < d) && decide (d < 2147483648) && !ps.isEmpty && risesB ps && mayPo d (l.drop (k + 1))) := by
  obtain ⟨h1, h2⟩ := List.getElem?_eq_some_iff.1 h
  rw [List.drop_eq_getElem_cons h1, h2, mayPo]
theorem totPo_take {l : List Po} {i : Nat} {d : Int} {ps : List Int} (h : l[i]? = some (d, ps)) : totPo (l.take (i + 1)) = totPo (l.take i) + ps.length := by
  obtain ⟨h1, h2⟩ := List.getElem?_eq_some_iff.1 h
  rw [List.take_succ_eq_append_getElem h1, h2, totPo_append]; simp [totPo]
theorem totPo_nonneg (l : List Po) : 0 ≤ totPo l := by
  induction l with
  | nil => simp [totPo]
  | cons p l ih => simp only [totPo, List.map_cons, List.sum_cons] at ih ⊢; omega
theorem totPo_le (l : List Po) (i : Nat) : 0 ≤ totPo (l.take i) ∧ totPo (l.take i) ≤ totPo l := by
  refine ⟨totPo_nonneg _, ?_⟩
  conv => rhs; rw [← List.take_append_drop i l, totPo_append]
  have := totPo_nonneg (l.drop i)
  omega
theorem putPo_take_le (l : List Po) (i : Nat) : (putPo (-1) (l.take i)).length ≤ (putPo (-1) l).length := by
  rw [putPo_split (l := l) (i := i) (-1)]; simp
theorem blks_succ (l : List Po) (k : Nat) : blks l (k + 1) = blks l k ++ [blkOf l k] := by simp [blks, List.range_succ]
theorem lastPo_rng : ∀ (l : List Po) (last : Int), mayPo last l = true → last < 2147483648 → ∀ n : Nat, last ≤ lastPo last (l.take n) ∧ lastPo last (l.take n) < 2147483648
  | [], last, _, h, n => by simp [lastPo]; exact h
  | (d, ps) :: l, last, hm, h, 0 => by simp [lastPo]; exact h
  | (d, ps) :: l, last, hm, h, n + 1 => by
    simp only [mayPo, Bool.and_eq_true, decide_eq_true_eq] at hm
    obtain ⟨⟨⟨⟨h1, h2⟩, h3⟩, h4⟩, h5⟩ := hm
    have := lastPo_rng l d h5 h2 n
    simp only [List.take_succ_cons, lastPo]; omega
theorem V_bl {M : PSet} {w : World} {a b c d : Int} (ha : -9223372036854775808 ≤ a ∧ a ≤ 9223372036854775807) (hb : -9223372036854775808 ≤ b ∧ b ≤ 9223372036854775807) (hc : -9223372036854775808 ≤ c ∧ c ≤ 9223372036854775807) (hd : -9223372036854775808 ≤ d ∧ d ≤ 9223372036854775807) :
    RT.bl.V M w (a, b, c, d) (.agg [.int .i64 a, .int .i64 b, .int .i64 c, .int .i64 d].toArray) :=
  ⟨_, ⟨[.int .i64 a], [.int .i64 b, .int .i64 c, .int .i64 d], rfl, ⟨rfl, ha⟩, [.int .i64 b], [.int .i64 c, .int .i64 d], rfl, ⟨rfl, hb⟩, [.int .i64 c], [.int .i64 d], rfl, ⟨rfl, hc⟩, ⟨rfl, hd⟩⟩, rfl⟩
theorem li_mk {M : PSet} {w : World} {bx : Nat} {b : List UInt8} {ks : List Bl} {tot : Int} {vb vk : Value} {e : TypeId} {fr : Nat × Nat} (hx : w.heap[bx]? = some (.cells #[vb, vk, .int .i64 tot] e fr)) (hm : ¬ M bx) (hb : (RT.u8.sl).V M w b vb) (hk : ((RT.bl).sl).V M w ks vk) (ht : -9223372036854775808 ≤ tot ∧ tot ≤ 9223372036854775807) :
    PtrTo RT.li M w (.pointer (some ⟨bx, 0, none⟩)) (b, ks, tot) :=
  ⟨bx, 0, [vb, vk, .int .i64 tot], rfl, hm, ⟨[vb], [vk, .int .i64 tot], rfl, V_cell hb rfl rfl, [vk], [.int .i64 tot], rfl, V_cell hk rfl rfl, ⟨rfl, ht⟩⟩, fun j v hj => cell_at hx (by simpa using hj)⟩
theorem blk_next {l : List Po} {i : Nat} (h8 : i % 8 = 0) (hi : i < l.length) : blks l ((i + 7) / 8) ++ [(((putPo (-1) (l.take i)).length : Int), lastPo (-1) (l.take i), lastPo (-1) (l.take (min (i + 8) l.length)), (((l.drop i).take 8).length : Int))] = blks l ((min (i + 8) l.length + 7) / 8) := by
  rw [show (min (i + 8) l.length + 7) / 8 = (i + 7) / 8 + 1 from by omega, blks_succ]
  have e : 8 * ((i + 7) / 8) = i := by omega
  have e2 : l.take (i + 8) = l.take (min (i + 8) l.length) := by rw [List.take_eq_take_iff]; omega
  simp only [blkOf, e, e2]
theorem sumN_blks (l : List Po) : ∀ m : Nat, sumN (blks l m) = ((min (8 * m) l.length : Nat) : Int)
  | 0 => by simp [sumN, blks]
  | m + 1 => by
    rw [blks_succ, sumN_snoc, sumN_blks l m]
    simp only [blkOf, List.length_take, List.length_drop]; omega
theorem blks_many (l : List Po) (m : Nat) : ∀ b ∈ blks l m, 0 ≤ b.2.2.2 ∧ b.2.2.2 ≤ 8 := fun b hb => by
  simp only [blks, List.mem_map] at hb
  obtain ⟨k, _, rfl⟩ := hb
  simp only [blkOf, List.length_take, List.length_drop]; omega
end Go.K
namespace Go.K
set_option linter.unusedVariables false
set_option linter.unusedSimpArgs false
section
variable {P : Program} {r : Option Nat} {n : Nat} {L : Sl} {ds : List Deferred} {w : World} {K : Kt} {ops : Array Oper} {rest : List Oper} {d : Nat} {x y : Operand} {ty : TypeId} {pos : String} {af : Array Edge}
/-- a pointer, held to nil: any -/
theorem Rg.ptreq {t t' e : TypeId} {p : Option Addr} (ht : P.underlying t = some (.pointer e)) (hx : ev L x = some (.pointer p)) (hy : ev L y = some (.pointer none)) (hd : Nat.blt d n = true)
    (k : Rg P r n ops rest ((d, .bool (decide (p = none))) :: L) ds w K) :
    Rg P r n ops ({ dst := some d, op := .binOp .eql t x y t', type := ty, pos, after := af, guard := none } :: rest) L ds w K :=
  .op (fun _ h => by cases h) rfl rfl hd _ w (fun ρ h => by
    have hpe : P.underlying t = some (.pointer (P.pointee t)) := by simp [Program.pointee, ht]
    have he := run_equal_pointer_nil (P := P) w t p hpe
    simp only [execOp]; rw [h x _ hx, h y _ hy]
    cases p <;> simp [eqGuard, binOp, run_underlying ht, he]) k
end
end Go.K
namespace Go.K
set_option linter.unusedVariables false
set_option linter.unusedSimpArgs false
section
variable {P : Program} {r : Option Nat} {n : Nat} {L : Sl} {ds : List Deferred} {w : World}
/-- one result, a struct that a block holds -/
theorem KretC1 {fn : Func} {Q : Value → World → Prop} {c t b : Nat} {vs : List Value} {fs : TypeDesc} {e : TypeId} {fr : Nat × Nat} {zv : Value} {size bytes : Nat} (hr : fn.results = #[.cell c t]) (hc : lk L c = some (.pointer (some ⟨b, 0, none⟩))) (hu : P.underlying t = some fs) (hf : fs.isRow = true) (hi : TI P t zv size bytes) (hl : vs.length = size)
    (hb : w.heap[b]? = some (.cells vs.toArray e fr)) (h : Q (.agg vs.toArray) w) : Kret P fn Q .ret L [] w :=
  ⟨rfl, fun a ha => ⟨_, by
    obtain ⟨i, hi1, _, hi2, _⟩ := hi.get
    have hrng : w.rangeAt b 0 vs := fun j v hj => cell_at hb (by simpa using hj)
    have := run_loadVar_mid (P := P) w b 0 t vs fs hrng hu hf (by simp [hi1, hi2, hl])
    simp [results, hr, ha _ _ hc, asAddr, this, Sem.run_bind], h⟩⟩
end
end Go.K
namespace Go.K
set_option linter.unusedVariables false
set_option linter.unusedSimpArgs false
section
variable {P : Program} {r : Option Nat} {n : Nat} {L : Sl} {ds : List Deferred} {w : World} {K : Kt} {ops : Array Oper} {rest : List Oper} {d : Nat} {x : Operand} {ty : TypeId} {pos : String} {af : Array Edge}
theorem Rg.lenraw {t e : TypeId} {a : Option Addr} {l c : Nat} (ht : P.underlying t = some (.slice e)) (hx : ev L x = some (.slice a l c)) (hd : Nat.blt d n = true)
    (k : Rg P r n ops rest ((d, .int .i64 (l : Int)) :: L) ds w K) :
    Rg P r n ops ({ dst := some d, op := .call { callee := .builtin .len, args := #[x], argTypes := #[t] }, type := ty, pos, after := af, guard := none } :: rest) L ds w K := by
  refine .op (fun _ h => by cases h) rfl rfl hd _ w (fun ρ h => ?_) k
  simp [execOp, resolve, invoke, builtin, h x _ hx, Builtin.len_, run_underlying ht, goInt]
end
end Go.K
namespace Go.K
set_option linter.unusedVariables false
set_option linter.unusedSimpArgs false
open Go.RowKit (Below)
open Go.Maps (Keyed)
open Go.ChangeMaps (putKey delKey notKey)
abbrev DU := DataW Unit
/-- a map that may be written, in a block -/
structure MapO (P : Program) (k : TypeId) (R : Value → Option (DU × List MemPlace)) (M : PSet) (w : World) (b : Nat) (m : List (Lit × DU)) : Prop where
  mut_ : M b
  own : w.ownsMap P k R b m.length (.map m)
section
variable {P : Program} {r : Option Nat} {n : Nat} {L : Sl} {ds : List Deferred} {w : World} {K : Kt} {ops : Array Oper} {rest : List Oper} {d : Nat} {x y z : Operand} {ty : TypeId} {pos : String} {af : Array Edge}
variable {kt : TypeId} {R : Value → Option (DU × List MemPlace)} {M : PSet} {b : Nat} {m : List (Lit × DU)}
theorem Step.below' {w w' : World} (h : Below w.heap.size w w') (M : PSet) : Step M w M w' none' :=
  ⟨fun h0 b hb => Nat.lt_of_lt_of_le (h0 b hb) h.size, h.os, h.tape, h.output, h.size, fun _ _ => Iff.rfl, fun b hb _ => h.block b hb, fun _ h => h.elim⟩
end
end Go.K
namespace Go.K
set_option linter.unusedVariables false
set_option linter.unusedSimpArgs false
def allM : PSet := fun _ => True
theorem Step.all {M M' N : PSet} {w w' : World} (s : Step M w M' w' N) : Step allM w allM w' N := ⟨fun h => absurd (h w.heap.size trivial) (Nat.lt_irrefl _), s.os, s.tape, s.output, s.size, fun _ _ => Iff.rfl, s.same, fun _ _ => trivial⟩
theorem Step.toAny {M M' : PSet} {w w' : World} (s : Step M w M' w' none') (M1 : PSet) : Step M1 w M1 w' none' := s.any M1
theorem AllR.int {κ : IntKind} {M M' : PSet} {w w' : World} : ∀ {xs : List Int} {C : List Value}, AllR (RT.int κ) M w xs C → AllR (RT.int κ) M' w' xs C
  | [], _, h => h
  | x :: xs, C, h => by
    obtain ⟨vs, r, h1, h2, h3⟩ := h
    exact ⟨vs, r, h1, h2, AllR.int h3⟩
/-- of a row of numbers it is told where it lies, not who may write it -/
theorem Own.alli {κ : IntKind} {e : TypeId} {M : PSet} {w : World} {base : Nat} {v : Value} {xs : List Int} (h : Own (RT.int κ) e M w base v xs) {M' : PSet} (hm : ∀ b, v.ownBlock = some b → M' b) : Own (RT.int κ) e M' w base v xs := by
  obtain ⟨⟨C, h1, h2⟩, _⟩ := h
  exact ⟨⟨C, h1, AllR.int h2⟩, hm⟩
theorem Own.keepi {κ : IntKind} {e : TypeId} {N : PSet} {w w' : World} {base : Nat} {v : Value} {xs : List Int} (h : Own (RT.int κ) e allM w base v xs) (s : Step allM w allM w' N) (hn : ∀ b, v.ownBlock = some b → ¬ N b) : Own (RT.int κ) e allM w' base v xs := by
  obtain ⟨⟨C, h1, h2⟩, _⟩ := h
  refine ⟨⟨C, ⟨h1.1, ?_⟩, AllR.int h2⟩, fun _ _ => trivial⟩
  rcases h1.2 with h3 | ⟨g, cap, cur, h3, h4, h5, h6, h7, h8⟩
  · exact .inl h3
  · exact .inr ⟨g, cap, cur, h3, h4, by rw [s.same g (lt_of_get h5) (hn g (by rw [h3]; rfl))]; exact h5, h6, h7, h8⟩
/-- its own block alone -/
def blkM (v : Value) : PSet := fun b => v.ownBlock = some b
theorem Own.lone {κ : IntKind} {e : TypeId} {M : PSet} {w : World} {base : Nat} {v : Value} {xs : List Int} (h : Own (RT.int κ) e M w base v xs) : Own (RT.int κ) e (blkM v) w base v xs := h.alli fun _ h => h
end Go.K
namespace Go.K
set_option linter.unusedVariables false
set_option linter.unusedSimpArgs false
/-- the sign at the beginning, by its bytes and by which of them there are and carry on -/
def decG (at' : Nat → Nat) (cont : Nat → Bool) : Nat × Nat :=
  if at' 0 < 0x80 then (at' 0, 1)
  else if at' 0 / 32 == 6 && cont 1 then
    if (at' 0 % 32) * 64 + at' 1 % 64 ≥ 0x80 then ((at' 0 % 32) * 64 + at' 1 % 64, 2) else (65533, 1)
  else if at' 0 / 16 == 14 && cont 1 && cont 2 then
    if (at' 0 % 16) * 4096 + (at' 1 % 64) * 64 + at' 2 % 64 ≥ 0x800 && Utf8.valid ((at' 0 % 16) * 4096 + (at' 1 % 64) * 64 + at' 2 % 64 : Nat) then ((at' 0 % 16) * 4096 + (at' 1 % 64) * 64 + at' 2 % 64, 3) else (65533, 1)
  else if at' 0 / 8 == 30 && cont 1 && cont 2 && cont 3 then
    if (at' 0 % 8) * 262144 + (at' 1 % 64) * 4096 + (at' 2 % 64) * 64 + at' 3 % 64 ≥ 0x10000 && Utf8.valid ((at' 0 % 8) * 262144 + (at' 1 % 64) * 4096 + (at' 2 % 64) * 64 + at' 3 % 64 : Nat) then ((at' 0 % 8) * 262144 + (at' 1 % 64) * 4096 + (at' 2 % 64) * 64 + at' 3 % 64, 4) else (65533, 1)
  else (65533, 1)
theorem decode_eq (s : ByteArray) (i : Nat) : Utf8.decode s i = decG (fun k => (s.get! (i + k)).toNat) (fun k => decide (i + k < s.size) && (s.get! (i + k)).toNat / 64 == 2) := rfl
/-- the byte at a place; 0 where there is none -/
def atB (l : List UInt8) (k : Nat) : Nat := (l.getD k 0).toNat
def contB (l : List UInt8) (k : Nat) : Bool := decide (k < l.length) && atB l k / 64 == 2
def dec (l : List UInt8) : Nat × Nat := decG (atB l) (contB l)
theorem get_bytes (l : List UInt8) (j : Nat) : (⟨l.toArray⟩ : ByteArray).get! j = l.getD j 0 := by
  show l.toArray[j]! = _
  rw [List.getD_eq_getElem?_getD, getElem!_def]
  simp only [List.getElem?_toArray]
  cases l[j]? <;> rfl
theorem decode_dec (l : List UInt8) (pos : Nat) : Utf8.decode ⟨l.toArray⟩ pos = dec (l.drop pos) := by
  rw [decode_eq, dec]
  have h1 : (fun k => ((⟨l.toArray⟩ : ByteArray).get! (pos + k)).toNat) = atB (l.drop pos) := by
    funext k
    rw [get_bytes, atB, List.getD_eq_getElem?_getD, List.getD_eq_getElem?_getD, List.getElem?_drop]
  have h2 : (fun k => decide (pos + k < (⟨l.toArray⟩ : ByteArray).size) && ((⟨l.toArray⟩ : ByteArray).get! (pos + k)).toNat / 64 == 2) = contB (l.drop pos) := by
    funext k
    have := congrFun h1 k
    rw [this, contB, List.length_drop]
    congr 1
    have hs : (⟨l.toArray⟩ : ByteArray).size = l.length := by simp [ByteArray.size]
    rw [hs]
    exact decide_eq_decide.2 (by omega)
  rw [h1, h2]
theorem contB_lt {l : List UInt8} {k : Nat} (h : contB l k = true) : k < l.length := by
  simp only [contB, Bool.and_eq_true, decide_eq_true_eq] at h; exact h.1
theorem dec_width {l : List UInt8} (hl : l ≠ []) : 1 ≤ (dec l).2 ∧ (dec l).2 ≤ l.length := by
  have h0 : 0 < l.length := List.length_pos_iff.2 hl
  unfold dec decG
  split
  · exact ⟨Nat.le_refl _, h0⟩
  · split
    · rename_i h
      simp only [Bool.and_eq_true] at h
      have := contB_lt h.2
      split <;> (simp only; omega)
    · split
      · rename_i h
        simp only [Bool.and_eq_true] at h
        have := contB_lt h.2
        split <;> (simp only; omega)
      · split
        · rename_i h
          simp only [Bool.and_eq_true] at h
          have := contB_lt h.2
          split <;> (simp only; omega)
        · exact ⟨Nat.le_refl _, h0⟩
theorem atB_lt (l : List UInt8) (k : Nat) : atB l k < 256 := by unfold atB; exact UInt8.toNat_lt _
theorem dec_bound (l : List UInt8) : (dec l).1 ≤ 1114111 := by
  unfold dec decG
  split
  · simp only; omega
  · split
    · have := atB_lt l 0
      split <;> (simp only; omega)
    · split
      · have := atB_lt l 0
        split <;> (simp only; omega)
      · split
        · split
          · rename_i h
            simp only [Bool.and_eq_true, Utf8.valid, Bool.or_eq_true, decide_eq_true_eq] at h
            simp only; omega
          · simp only; omega
        · simp only; omega
/-- a text's signs -/
def signs (l : List UInt8) : List Int := match l with
  | [] => []
  | c :: r => ((dec (c :: r)).1 : Int) :: signs ((c :: r).drop (dec (c :: r)).2)
termination_by l.length
decreasing_by
  have := (dec_width (l := c :: r) (by simp)).1
  simp only [List.length_drop, List.length_cons]; omega
theorem signs_nil : signs [] = [] := by unfold signs; rfl
theorem signs_step {l : List UInt8} (h : l ≠ []) : signs l = ((dec l).1 : Int) :: signs (l.drop (dec l).2) := by
  cases l with
  | nil => exact absurd rfl h
  | cons c r => rw [signs]
theorem signs_len (l : List UInt8) : (signs l).length ≤ l.length := by
  induction hn : l.length using Nat.strongRecOn generalizing l with
  | _ n ih =>
    by_cases h : l = []
    · subst h; rw [signs_nil]; simp
    · rw [signs_step h, List.length_cons]
      have hw := dec_width h
      have := ih _ (by rw [List.length_drop]; omega) (l.drop (dec l).2) rfl
      rw [List.length_drop] at this; omega
section
variable {P : Program} {r : Option Nat} {n : Nat} {L : Sl} {ds : List Deferred} {w : World} {K : Kt} {ops : Array Oper} {rest : List Oper} {d : Nat} {x : Operand} {ty : TypeId} {pos : String} {af : Array Edge}
theorem Rg.rangeStr {t : TypeId} {l : List UInt8} (M : PSet) (ht : P.underlying t = some .string) (hx : ev L x = some (.string ⟨l.toArray⟩)) (hd : Nat.blt d n = true)
    (k : ∀ b w', w.heap.size ≤ b → b < w'.heap.size → w'.heap[b]? = some (.stringIter ⟨l.toArray⟩ 0) → Step M w (ins M b) w' none' → Rg P r n ops rest ((d, .pointer (some ⟨b, 0, none⟩)) :: L) ds w' K) :
    Rg P r n ops ({ dst := some d, op := .range t x, type := ty, pos, after := af, guard := none } :: rest) L ds w K := by
  refine .op (fun _ h => by cases h) rfl rfl hd (.pointer (some ⟨w.heap.size, 0, none⟩)) (w.alloc (.stringIter ⟨l.toArray⟩ 0)) (fun ρ hρ => ?_) (k w.heap.size _ (Nat.le_refl _) (by simp) (heap_alloc_at w _) ((step_alloc M w _).own (Nat.le_refl _) (by simp)))
  simp only [execOp, hρ x _ hx]
  simp [Instr.range, Sem.run_bind, run_underlying ht, newObj, Sem.run]
theorem step_setObj (M : PSet) {b : Nat} {o : Obj} (hm : M b) : Step M w M { w with heap := w.heap.setIfInBounds b o } (fun k => k = b) :=
  ⟨fun h b hb => by simpa using h b hb, rfl, rfl, rfl, by simp, fun _ _ => Iff.rfl, fun k _ hn => by simp [Array.getElem?_setIfInBounds, Ne.symm hn], fun k hk => by subst hk; exact hm⟩
theorem run_getObj_str {b p : Nat} {s : ByteArray} (hb : w.heap[b]? = some (.stringIter s p)) : (getObj b).run P w = .ok (.stringIter s p) w := by simp [getObj, Sem.run, hb]
theorem Rg.nextStr {l : List UInt8} {b p : Nat} {M : PSet} (hx : ev L x = some (.pointer (some ⟨b, 0, none⟩))) (hb : w.heap[b]? = some (.stringIter ⟨l.toArray⟩ p)) (hm : M b) (hd : Nat.blt d n = true)
    (k1 : p < l.length → ∀ w', w'.heap[b]? = some (.stringIter ⟨l.toArray⟩ (p + (dec (l.drop p)).2)) → Step M w M w' (fun k => k = b) → Rg P r n ops rest ((d, .tuple #[.bool true, .int .i64 p, .int .i32 ((dec (l.drop p)).1 : Nat)]) :: L) ds w' K)
    (k2 : ¬ p < l.length → Rg P r n ops rest ((d, .tuple #[.bool false]) :: L) ds w K) :
    Rg P r n ops ({ dst := some d, op := .next x true, type := ty, pos, after := af, guard := none } :: rest) L ds w K := by
  have hs : (⟨l.toArray⟩ : ByteArray).size = l.length := by simp [ByteArray.size]
  have hlt := lt_of_get hb
  by_cases h : p < l.length
  · have key := k1 h { w with heap := w.heap.setIfInBounds b (.stringIter ⟨l.toArray⟩ (p + (dec (l.drop p)).2)) } (by simp [Array.getElem?_setIfInBounds, hlt]) (step_setObj M hm)
    refine .op (fun _ h => by cases h) rfl rfl hd _ _ (fun ρ hρ => ?_) key
    simp only [execOp, hρ x _ hx, Instr.next, Sem.run_bind, run_getObj_str hb, Result.andThen_ok]
    rw [if_pos (by rw [hs]; exact h)]
    simp [decode_dec, setObj, Sem.run, goInt, hb]
  · refine .op (fun _ h => by cases h) rfl rfl hd _ w (fun ρ hρ => ?_) (k2 h)
    simp only [execOp, hρ x _ hx, Instr.next, Sem.run_bind, run_getObj_str hb, Result.andThen_ok]
    rw [if_neg (by rw [hs]; exact h)]
    simp
theorem Rg.strAt {t : TypeId} {i : Operand} {l : List UInt8} {κ : IntKind} {j : Int} {c : UInt8} (ht : P.underlying t = some .string) (hx : ev L x = some (.string ⟨l.toArray⟩)) (hi : ev L i = some (.int κ j)) (hd : Nat.blt d n = true) (hj : 0 ≤ j) (hc : l[j.toNat]? = some c)
    (k : Rg P r n ops rest ((d, .int .u8 (c.toNat : Int)) :: L) ds w K) :
    Rg P r n ops ({ dst := some d, op := .index t x i, type := ty, pos, after := af, guard := none } :: rest) L ds w K := by
  have hlt := (List.getElem?_eq_some_iff.1 hc).1
  have hs : (⟨l.toArray⟩ : ByteArray).size = l.length := by simp [ByteArray.size]
  have hg : (⟨l.toArray⟩ : ByteArray)[j.toNat]? = some c := by
    rw [getElem?_pos _ _ (by rw [hs]; exact hlt)]
    congr 1
    have := (List.getElem?_eq_some_iff.1 hc).2
    rw [← this]; rfl
  refine .op (fun _ h => by cases h) rfl rfl hd _ w (fun ρ hρ => ?_) k
  simp only [execOp, hρ x _ hx, hρ i _ hi, Instr.index, Sem.run_bind, asIntOf, Sem.run_pure, Result.andThen_ok, run_underlying ht]
  simp [hj, hg]
theorem extract_bytes (l : List UInt8) (a b : Nat) : (⟨l.toArray⟩ : ByteArray).extract a b = ⟨((l.take b).drop a).toArray⟩ := by
  have : ((⟨l.toArray⟩ : ByteArray).extract a b).data = ((l.take b).drop a).toArray := by
    rw [ByteArray.data_extract]
    apply Array.toList_inj.1
    rw [Array.toList_extract, List.extract_eq_take_drop, List.drop_take]
  exact congrArg ByteArray.mk this
theorem Rg.strFrom {t : TypeId} {i : Operand} {l : List UInt8} {κ : IntKind} {j : Int} (ht : P.underlying t = some .string) (hx : ev L x = some (.string ⟨l.toArray⟩)) (hi : ev L i = some (.int κ j)) (hd : Nat.blt d n = true) (hj : 0 ≤ j ∧ j ≤ l.length)
    (k : Rg P r n ops rest ((d, .string ⟨(l.drop j.toNat).toArray⟩) :: L) ds w K) :
    Rg P r n ops ({ dst := some d, op := .slice t x (some i) none none, type := ty, pos, after := af, guard := none } :: rest) L ds w K := by
  have hs : (⟨l.toArray⟩ : ByteArray).size = l.length := by simp [ByteArray.size]
  refine .op (fun _ h => by cases h) rfl rfl hd _ w (fun ρ hρ => ?_) k
  simp only [execOp, hρ x _ hx, Option.map_some, Option.map_none, hρ i _ hi]
  rw [Sem.run_bind, run_sliceAt_string _ _ _ _ _ _ ht, run_slice_string_l _ _ _ ht _ _ hj.1 (by rw [hs]; exact hj.2), extract_bytes, hs, List.take_length]
  simp
theorem Rg.strTo {t : TypeId} {i : Operand} {l : List UInt8} {κ : IntKind} {j : Int} (ht : P.underlying t = some .string) (hx : ev L x = some (.string ⟨l.toArray⟩)) (hi : ev L i = some (.int κ j)) (hd : Nat.blt d n = true) (hj : 0 ≤ j ∧ j ≤ l.length)
    (k : Rg P r n ops rest ((d, .string ⟨(l.take j.toNat).toArray⟩) :: L) ds w K) :
    Rg P r n ops ({ dst := some d, op := .slice t x none (some i) none, type := ty, pos, after := af, guard := none } :: rest) L ds w K := by
  have hs : (⟨l.toArray⟩ : ByteArray).size = l.length := by simp [ByteArray.size]
  refine .op (fun _ h => by cases h) rfl rfl hd _ w (fun ρ hρ => ?_) k
  simp only [execOp, hρ x _ hx, Option.map_some, Option.map_none, hρ i _ hi]
  rw [Sem.run_bind, run_sliceAt_string _ _ _ _ _ _ ht, run_slice_string_h _ _ _ ht _ _ hj.1 (by rw [hs]; exact hj.2), extract_bytes, List.drop_zero]
  simp
end
theorem Own.notIter {α : Type} {A : RT α} {e : TypeId} {M : PSet} {w : World} {base b p : Nat} {s : ByteArray} {v : Value} {xs : List α} (h : Own A e M w base v xs) (hb : w.heap[b]? = some (.stringIter s p)) : v.ownBlock ≠ some b := fun hv => by
  obtain ⟨⟨C, h1, _⟩, _⟩ := h
  rcases h1.2 with ⟨h2, _⟩ | ⟨g, cap, cur, h2, _, h3, _⟩
  · rw [h2] at hv; cases hv
  · rw [h2] at hv; cases hv; rw [h3] at hb; cases hb
/-- rows of things of two types are two -/
theorem Own.apartT {α β : Type} {A : RT α} {B : RT β} {e e' : TypeId} {M M' : PSet} {w : World} {base base' : Nat} {v u : Value} {xs : List α} {ys : List β} (h : Own A e M w base v xs) (h' : Own B e' M' w base' u ys) (ht : e ≠ e') {b : Nat} (hb : v.ownBlock = some b) : u.ownBlock ≠ some b := fun hu => by
  obtain ⟨⟨C, h1, _⟩, _⟩ := h
  obtain ⟨⟨C', h1', _⟩, _⟩ := h'
  rcases h1.2 with ⟨h2, _⟩ | ⟨g, cap, cur, h2, _, h3, _⟩
  · rw [h2] at hb; cases hb
  · rcases h1'.2 with ⟨h2', _⟩ | ⟨g', cap', cur', h2', _, h3', _⟩
    · rw [h2'] at hu; cases hu
    · rw [h2] at hb; rw [h2'] at hu; cases hb; cases hu
      rw [h3] at h3'; cases h3'; exact ht rfl
/-- a row is not in a block of cells of another type -/
theorem Own.neT {α : Type} {A : RT α} {e t : TypeId} {M : PSet} {w : World} {base b : Nat} {v : Value} {xs : List α} {cs : Array Value} {fr : Nat × Nat} (h : Own A e M w base v xs) (hb : w.heap[b]? = some (.cells cs t fr)) (ht : t ≠ e) : v.ownBlock ≠ some b := fun hv => by
  obtain ⟨⟨C, h1, _⟩, _⟩ := h
  rcases h1.2 with ⟨h2, _⟩ | ⟨g, cap, cur, h2, _, h3, _⟩
  · rw [h2] at hv; cases hv
  · rw [h2] at hv; cases hv; rw [h3] at hb; cases hb; exact ht rfl
end Go.K
namespace Go.K
open Go.Proofs
theorem I3 : TI Tryz.prog 3 (.int .i64 0) 1 8 := by unfold TI; kernel_rfl -- int
theorem I5 : TI Tryz.prog 5 (.int .u8 0) 1 1 := by unfold TI; kernel_rfl -- uint8
theorem I9 : TI Tryz.prog 9 (.string ⟨#[]⟩) 1 16 := by unfold TI; kernel_rfl -- string
theorem I32 : TI Tryz.prog 32 (.slice none 0 0) 1 24 := by unfold TI; kernel_rfl -- []int
theorem I39 : TI Tryz.prog 39 (.slice none 0 0) 1 24 := by unfold TI; kernel_rfl -- []api.Field
theorem I41 : TI Tryz.prog 41 (.agg #[(.int .i64 0), (.slice none 0 0)]) 2 32 := by unfold TI; kernel_rfl -- api.Doc
theorem I43 : TI Tryz.prog 43 (.agg #[(.int .i64 0), (.slice none 0 0), (.int .i64 0)]) 3 40 := by unfold TI; kernel_rfl -- api.Entry
theorem I47 : TI Tryz.prog 47 (.agg #[(.string ⟨#[]⟩), (.string ⟨#[]⟩)]) 2 32 := by unfold TI; kernel_rfl -- api.Term
theorem I55 : TI Tryz.prog 55 (.slice none 0 0) 1 24 := by unfold TI; kernel_rfl -- []string
theorem I98 : TI Tryz.prog 98 (.slice none 0 0) 1 24 := by unfold TI; kernel_rfl -- []api.Term
theorem I127 : TI Tryz.prog 127 (.agg #[(.string ⟨#[]⟩), (.string ⟨#[]⟩)]) 2 32 := by unfold TI; kernel_rfl -- api.Field
theorem I129 : TI Tryz.prog 129 (.pointer none) 1 8 := by unfold TI; kernel_rfl -- *posting.List
theorem I147 : TI Tryz.prog 147 (.slice none 0 0) 1 24 := by unfold TI; kernel_rfl -- []uint8
theorem I153 : TI Tryz.prog 153 (.agg #[(.int .i64 0), (.slice none 0 0)]) 2 32 := by unfold TI; kernel_rfl -- api.Posting
theorem I191 : TI Tryz.prog 191 (.slice none 0 0) 1 24 := by unfold TI; kernel_rfl -- []posting.block
theorem I193 : TI Tryz.prog 193 (.agg #[(.slice none 0 0), (.slice none 0 0), (.int .i64 0)]) 3 56 := by unfold TI; kernel_rfl -- posting.List
theorem I195 : TI Tryz.prog 195 (.agg #[(.int .i64 0), (.int .i64 0), (.int .i64 0), (.int .i64 0)]) 4 32 := by unfold TI; kernel_rfl -- posting.block
theorem I256 : TI Tryz.prog 256 (.agg #[(.string ⟨#[]⟩), (.int .i64 0)]) 2 24 := by unfold TI; kernel_rfl -- api.Token
theorem I309 : TI Tryz.prog 309 (.agg #[(.pointer none), (.slice none 0 0)]) 2 32 := by unfold TI; kernel_rfl -- strings.Builder
theorem B41 : placesOf Tryz.prog 41 = [(0, 1), (1, 1)].map some := by kernel_rfl
theorem B43 : placesOf Tryz.prog 43 = [(0, 2), (2, 1)].map some := by kernel_rfl
theorem B47 : placesOf Tryz.prog 47 = [(0, 1), (1, 1)].map some := by kernel_rfl
theorem B153 : placesOf Tryz.prog 153 = [(0, 1), (1, 1)].map some := by kernel_rfl
theorem B193 : placesOf Tryz.prog 193 = [(0, 1), (1, 1), (2, 1)].map some := by kernel_rfl
theorem B195 : placesOf Tryz.prog 195 = [(0, 1), (1, 1), (2, 1), (3, 1)].map some := by kernel_rfl
theorem B256 : placesOf Tryz.prog 256 = [(0, 1), (1, 1)].map some := by kernel_rfl
theorem mixed : Tryz.prog.follows .mixedOrders = true := by kernel_rfl
theorem E65 : Enters Tryz.prog 65 := enters Tryz.func65 rfl (by decide) -- concordance/concordanceref08.Good
theorem E74 : Enters Tryz.prog 74 := enters Tryz.func74 rfl (by decide) -- concordance/word.Key
theorem E116 : Enters Tryz.prog 116 := enters Tryz.func116 rfl (by decide) -- concordance/concordanceref08.Name
theorem E117 : Enters Tryz.prog 117 := enters Tryz.func117 rfl (by decide) -- concordance/concordanceref08.May
theorem E150 : Enters Tryz.prog 150 := enters Tryz.func150 rfl (by decide) -- concordance/word.Tokens
theorem E151 : Enters Tryz.prog 151 := enters Tryz.func151 rfl (by decide) -- concordance/doc.Name
theorem E152 : Enters Tryz.prog 152 := enters Tryz.func152 rfl (by decide) -- slices.ContainsFunc[[]concordance/api.Field,concordance/api.Field]
theorem E153 : Enters Tryz.prog 153 := enters Tryz.func153 rfl (by decide) -- concordance/doc.May$1
theorem E154 : Enters Tryz.prog 154 := enters Tryz.func154 rfl (by decide) -- concordance/doc.each
theorem E158 : Enters Tryz.prog 158 := enters Tryz.func158 rfl (by decide) -- concordance/doc.Invert$2
theorem E159 : Enters Tryz.prog 159 := enters Tryz.func159 rfl (by decide) -- strings.Compare
theorem E161 : Enters Tryz.prog 161 := enters Tryz.func161 rfl (by decide) -- concordance/doc.Weight$1
theorem E167 : Enters Tryz.prog 167 := enters Tryz.func167 rfl (by decide) -- concordance/concordanceref02.Tokens
theorem E171 : Enters Tryz.prog 171 := enters Tryz.func171 rfl (by decide) -- concordance/posting.May
theorem E172 : Enters Tryz.prog 172 := enters Tryz.func172 rfl (by decide) -- slices.Chunk[[]concordance/api.Posting,concordance/api.Posting]
theorem E173 : Enters Tryz.prog 173 := enters Tryz.func173 rfl (by decide) -- concordance/vint.Put
theorem E174 : Enters Tryz.prog 174 := enters Tryz.func174 rfl (by decide) -- concordance/vint.PutRising
theorem E191 : Enters Tryz.prog 191 := enters Tryz.func191 rfl (by decide) -- concordance/concordanceref02.Words
theorem E192 : Enters Tryz.prog 192 := enters Tryz.func192 rfl (by decide) -- concordance/word.Words
theorem E193 : Enters Tryz.prog 193 := enters Tryz.func193 rfl (by decide) -- strings.Trim
theorem E194 : Enters Tryz.prog 194 := enters Tryz.func194 rfl (by decide) -- slices.IndexFunc[[]concordance/api.Field,concordance/api.Field]
theorem E195 : Enters Tryz.prog 195 := enters Tryz.func195 rfl (by decide) -- slices.Collect[concordance/api.Term]
theorem E196 : Enters Tryz.prog 196 := enters Tryz.func196 rfl (by decide) -- slices.SortFunc[[]concordance/api.Term,concordance/api.Term]
theorem E197 : Enters Tryz.prog 197 := enters Tryz.func197 rfl (by decide) -- maps.Keys[map[concordance/api.Term][]int,concordance/api.Term,[]int]$1
theorem E199 : Enters Tryz.prog 199 := enters Tryz.func199 rfl (by decide) -- slices.Clone[[]concordance/api.Field,concordance/api.Field]
theorem E212 : Enters Tryz.prog 212 := enters Tryz.func212 rfl (by decide) -- concordance/posting.rises
theorem E213 : Enters Tryz.prog 213 := enters Tryz.func213 rfl (by decide) -- slices.Chunk[[]concordance/api.Posting,concordance/api.Posting]$1
theorem E216 : Enters Tryz.prog 216 := enters Tryz.func216 rfl (by decide) -- concordance/concordanceref01.Signs
theorem E217 : Enters Tryz.prog 217 := enters Tryz.func217 rfl (by decide) -- concordance/concordanceref02.in
theorem E218 : Enters Tryz.prog 218 := enters Tryz.func218 rfl (by decide) -- concordance/concordanceref01.Fold
theorem E219 : Enters Tryz.prog 219 := enters Tryz.func219 rfl (by decide) -- concordance/concordanceref01.Text
theorem E220 : Enters Tryz.prog 220 := enters Tryz.func220 rfl (by decide) -- concordance/word.Words$1
theorem E221 : Enters Tryz.prog 221 := enters Tryz.func221 rfl (by decide) -- concordance/sign.Letter
theorem E222 : Enters Tryz.prog 222 := enters Tryz.func222 rfl (by decide) -- concordance/sign.Digit
theorem E223 : Enters Tryz.prog 223 := enters Tryz.func223 rfl (by decide) -- concordance/sign.Fold
theorem E224 : Enters Tryz.prog 224 := enters Tryz.func224 rfl (by decide) -- concordance/sign.Text
theorem E225 : Enters Tryz.prog 225 := enters Tryz.func225 rfl (by decide) -- concordance/sign.Signs
theorem E233 : Enters Tryz.prog 233 := enters Tryz.func233 rfl (by decide) -- slices.AppendSeq[[]concordance/api.Term,concordance/api.Term]
theorem E252 : Enters Tryz.prog 252 := enters Tryz.func252 rfl (by decide) -- concordance/concordanceref01.one
theorem E253 : Enters Tryz.prog 253 := enters Tryz.func253 rfl (by decide) -- concordance/concordanceref01.Letter
theorem E254 : Enters Tryz.prog 254 := enters Tryz.func254 rfl (by decide) -- (*strings.Builder).WriteRune
theorem E255 : Enters Tryz.prog 255 := enters Tryz.func255 rfl (by decide) -- concordance/sign.sign
theorem E256 : Enters Tryz.prog 256 := enters Tryz.func256 rfl (by decide) -- (*strings.Builder).String
theorem E277 : Enters Tryz.prog 277 := enters Tryz.func277 rfl (by decide) -- unicode/utf8.ValidRune
end Go.K
namespace Go.K
open Go.Proofs
set_option linter.unusedVariables false
set_option linter.unusedSimpArgs false
set_option maxRecDepth 10000
def letB (c : Int) : Bool := decide ((97 ≤ c ∧ c ≤ 122) ∨ (65 ≤ c ∧ c ≤ 90) ∨ (192 ≤ c ∧ c ≤ 591 ∧ c ≠ 215 ∧ c ≠ 247))
def digB (c : Int) : Bool := decide (48 ≤ c ∧ c ≤ 57)
def foldZ (c : Int) : Int := if (65 ≤ c ∧ c ≤ 90) ∨ (192 ≤ c ∧ c ≤ 222 ∧ c ≠ 215) then c + 32 else c
/-- 'concordance/sign.Letter' -/
theorem letter_spec (c : Int) (w0 : World) :
    Spec Tryz.prog 221 #[.int .i64 c] w0 (fun v w => v = .bool (letB c) ∧ w = w0) := by
  refine spec_of (args := [_]) (fn := Tryz.f221) Tryz.func221 rfl (n := 33) Tryz.ntmps221 ?_
  refine T.seq ?_
  refine T.region ?_ -- region 0
  refine Rg.assign rfl rfl ?_
  refine Rg.nil ?_
  refine T.seq ?_
  refine T.region ?_ -- region 1
  refine Rg.move rfl rfl ?_
  refine Rg.ige rfl rfl rfl ?_
  refine Rg.move rfl rfl ?_
  refine Rg.gsplitp (g := 5) rfl (fun g1_2 => ?_) (fun g1_2 => ?_)
  · -- g1_2 True
    refine Rg.gyes rfl rfl ?_
    refine Rg.move rfl rfl ?_
    refine Rg.gyes rfl rfl ?_
    refine Rg.ile rfl rfl rfl ?_
    refine Rg.pickt rfl rfl rfl ?_
    refine Rg.move rfl rfl ?_
    refine Rg.gsplitp (g := 9) rfl (fun g1_6 => ?_) (fun g1_6 => ?_)
    · -- g1_6 True
      refine Rg.gno rfl rfl rfl rfl ?_
      refine Rg.gno rfl rfl rfl rfl ?_
      refine Rg.gno rfl rfl rfl rfl ?_
      refine Rg.gnox rfl rfl rfl ?_
      refine Rg.gnox rfl rfl rfl ?_
      refine Rg.gno rfl rfl rfl rfl ?_
      refine Rg.pickt rfl rfl rfl ?_
      refine Rg.move rfl rfl ?_
      refine Rg.gno rfl rfl rfl rfl ?_
      refine Rg.gno rfl rfl rfl rfl ?_
      refine Rg.gno rfl rfl rfl rfl ?_
      refine Rg.gnox rfl rfl rfl ?_
      refine Rg.gnox rfl rfl rfl ?_
      refine Rg.gno rfl rfl rfl rfl ?_
      refine Rg.gno rfl rfl rfl rfl ?_
      refine Rg.gnox rfl rfl rfl ?_
      refine Rg.gnox rfl rfl rfl ?_
      refine Rg.gno rfl rfl rfl rfl ?_
      refine Rg.gno rfl rfl rfl rfl ?_
      refine Rg.gnox rfl rfl rfl ?_
      refine Rg.gnox rfl rfl rfl ?_
      refine Rg.gno rfl rfl rfl rfl ?_
      refine Rg.pickt rfl rfl rfl ?_
      refine Rg.assign rfl rfl ?_
      refine Rg.nil ?_
      refine T.ret ?_
      exact Kret1 rfl rfl ⟨by simp only [letB]; first | rfl | (congr 1; first | (exact (decide_eq_true (by omega)).symm) | (exact (decide_eq_false (by omega)).symm) | (exact decide_eq_decide.2 (by omega))), rfl⟩
    · -- g1_6 False
      refine Rg.gyes rfl rfl ?_
      refine Rg.move rfl rfl ?_
      refine Rg.gyes rfl rfl ?_
      refine Rg.ige rfl rfl rfl ?_
      refine Rg.gyes rfl rfl ?_
      refine Rg.move rfl rfl ?_
      refine Rg.gsplitp (g := 12) rfl (fun g1_9 => ?_) (fun g1_9 => ?_)
      · -- g1_9 True
        refine Rg.gyes rfl rfl ?_
        refine Rg.move rfl rfl ?_
        refine Rg.gyes rfl rfl ?_
        refine Rg.ile rfl rfl rfl ?_
        refine Rg.gyes rfl rfl ?_
        refine Rg.pickt rfl rfl rfl ?_
        refine Rg.pickf rfl rfl rfl ?_
        refine Rg.move rfl rfl ?_
        refine Rg.gsplitp (g := 17) rfl (fun g1_14 => ?_) (fun g1_14 => ?_)
        · -- g1_14 True
          refine Rg.gno rfl rfl rfl rfl ?_
          refine Rg.gno rfl rfl rfl rfl ?_
          refine Rg.gno rfl rfl rfl rfl ?_
          refine Rg.gnox rfl rfl rfl ?_
          refine Rg.gnox rfl rfl rfl ?_
          refine Rg.gno rfl rfl rfl rfl ?_
          refine Rg.gno rfl rfl rfl rfl ?_
          refine Rg.gnox rfl rfl rfl ?_
          refine Rg.gnox rfl rfl rfl ?_
          refine Rg.gno rfl rfl rfl rfl ?_
          refine Rg.gno rfl rfl rfl rfl ?_
          refine Rg.gnox rfl rfl rfl ?_
          refine Rg.gnox rfl rfl rfl ?_
          refine Rg.gno rfl rfl rfl rfl ?_
          refine Rg.pickt rfl rfl rfl ?_
          refine Rg.assign rfl rfl ?_
          refine Rg.nil ?_
          refine T.ret ?_
          exact Kret1 rfl rfl ⟨by simp only [letB]; first | rfl | (congr 1; first | (exact (decide_eq_true (by omega)).symm) | (exact (decide_eq_false (by omega)).symm) | (exact decide_eq_decide.2 (by omega))), rfl⟩
        · -- g1_14 False
          refine Rg.gyes rfl rfl ?_
          refine Rg.move rfl rfl ?_
          refine Rg.gyes rfl rfl ?_
          refine Rg.ige rfl rfl rfl ?_
          refine Rg.gyes rfl rfl ?_
          refine Rg.move rfl rfl ?_
          refine Rg.gsplitp (g := 20) rfl (fun g1_17 => ?_) (fun g1_17 => ?_)
          · -- g1_17 True
            refine Rg.gyes rfl rfl ?_
            refine Rg.move rfl rfl ?_
            refine Rg.gyes rfl rfl ?_
            refine Rg.ile rfl rfl rfl ?_
            refine Rg.gyes rfl rfl ?_
            refine Rg.pickt rfl rfl rfl ?_
            refine Rg.gyes rfl rfl ?_
            refine Rg.move rfl rfl ?_
            refine Rg.gsplitp (g := 24) rfl (fun g1_21 => ?_) (fun g1_21 => ?_)
            · -- g1_21 True
              refine Rg.gyes rfl rfl ?_
              refine Rg.move rfl rfl ?_
              refine Rg.gyes rfl rfl ?_
              refine Rg.ine rfl rfl rfl ?_
              refine Rg.gyes rfl rfl ?_
              refine Rg.pickt rfl rfl rfl ?_
              refine Rg.gyes rfl rfl ?_
              refine Rg.move rfl rfl ?_
              refine Rg.gsplitp (g := 28) rfl (fun g1_25 => ?_) (fun g1_25 => ?_)
              · -- g1_25 True
                refine Rg.gyes rfl rfl ?_
                refine Rg.move rfl rfl ?_
                refine Rg.gyes rfl rfl ?_
                refine Rg.ine rfl rfl rfl ?_
                refine Rg.gyes rfl rfl ?_
                refine Rg.pickt rfl rfl rfl ?_
                refine Rg.pickf rfl rfl rfl ?_
                refine Rg.assign rfl rfl ?_
                refine Rg.nil ?_
                refine T.ret ?_
                exact Kret1 rfl rfl ⟨by simp only [letB]; first | rfl | (congr 1; first | (exact (decide_eq_true (by omega)).symm) | (exact (decide_eq_false (by omega)).symm) | (exact decide_eq_decide.2 (by omega))), rfl⟩
              · -- g1_25 False
                refine Rg.gno rfl rfl rfl rfl ?_
                refine Rg.gno rfl rfl rfl rfl ?_
                refine Rg.gyes rfl rfl ?_
                refine Rg.pickf rfl rfl rfl ?_
                refine Rg.pickf rfl rfl rfl ?_
                refine Rg.assign rfl rfl ?_
                refine Rg.nil ?_
                refine T.ret ?_
                exact Kret1 rfl rfl ⟨by simp only [letB]; first | rfl | (congr 1; first | (exact (decide_eq_true (by omega)).symm) | (exact (decide_eq_false (by omega)).symm) | (exact decide_eq_decide.2 (by omega))), rfl⟩
            · -- g1_21 False
              refine Rg.gno rfl rfl rfl rfl ?_
              refine Rg.gno rfl rfl rfl rfl ?_
              refine Rg.gyes rfl rfl ?_
              refine Rg.pickf rfl rfl rfl ?_
              refine Rg.gyes rfl rfl ?_
              refine Rg.move rfl rfl ?_
              refine Rg.gno rfl rfl rfl rfl ?_
              refine Rg.gno rfl rfl rfl rfl ?_
              refine Rg.gyes rfl rfl ?_
              refine Rg.pickf rfl rfl rfl ?_
              refine Rg.pickf rfl rfl rfl ?_
              refine Rg.assign rfl rfl ?_
              refine Rg.nil ?_
              refine T.ret ?_
              exact Kret1 rfl rfl ⟨by simp only [letB]; first | rfl | (congr 1; first | (exact (decide_eq_true (by omega)).symm) | (exact (decide_eq_false (by omega)).symm) | (exact decide_eq_decide.2 (by omega))), rfl⟩
          · -- g1_17 False
            refine Rg.gno rfl rfl rfl rfl ?_
            refine Rg.gno rfl rfl rfl rfl ?_
            refine Rg.gyes rfl rfl ?_
            refine Rg.pickf rfl rfl rfl ?_
            refine Rg.gyes rfl rfl ?_
            refine Rg.move rfl rfl ?_
            refine Rg.gno rfl rfl rfl rfl ?_
            refine Rg.gno rfl rfl rfl rfl ?_
            refine Rg.gyes rfl rfl ?_
            refine Rg.pickf rfl rfl rfl ?_
            refine Rg.gyes rfl rfl ?_
            refine Rg.move rfl rfl ?_
            refine Rg.gno rfl rfl rfl rfl ?_
            refine Rg.gno rfl rfl rfl rfl ?_
            refine Rg.gyes rfl rfl ?_
            refine Rg.pickf rfl rfl rfl ?_
            refine Rg.pickf rfl rfl rfl ?_
            refine Rg.assign rfl rfl ?_
            refine Rg.nil ?_
            refine T.ret ?_
            exact Kret1 rfl rfl ⟨by simp only [letB]; first | rfl | (congr 1; first | (exact (decide_eq_true (by omega)).symm) | (exact (decide_eq_false (by omega)).symm) | (exact decide_eq_decide.2 (by omega))), rfl⟩
      · -- g1_9 False
        refine Rg.gno rfl rfl rfl rfl ?_
        refine Rg.gno rfl rfl rfl rfl ?_
        refine Rg.gyes rfl rfl ?_
        refine Rg.pickf rfl rfl rfl ?_
        refine Rg.pickf rfl rfl rfl ?_
        refine Rg.move rfl rfl ?_
        refine Rg.gyes rfl rfl ?_
        refine Rg.move rfl rfl ?_
        refine Rg.gyes rfl rfl ?_
        refine Rg.ige rfl rfl rfl ?_
        refine Rg.gyes rfl rfl ?_
        refine Rg.move rfl rfl ?_
        refine Rg.gsplitp (g := 20) rfl (fun g1_17 => ?_) (fun g1_17 => ?_)
        · -- g1_17 True
          refine Rg.gyes rfl rfl ?_
          refine Rg.move rfl rfl ?_
          refine Rg.gyes rfl rfl ?_
          refine Rg.ile rfl rfl rfl ?_
          refine Rg.gyes rfl rfl ?_
          refine Rg.pickt rfl rfl rfl ?_
          refine Rg.gyes rfl rfl ?_
          refine Rg.move rfl rfl ?_
          refine Rg.gsplitp (g := 24) rfl (fun g1_21 => ?_) (fun g1_21 => ?_)
          · -- g1_21 True
            refine Rg.gyes rfl rfl ?_
            refine Rg.move rfl rfl ?_
            refine Rg.gyes rfl rfl ?_
            refine Rg.ine rfl rfl rfl ?_
            refine Rg.gyes rfl rfl ?_
            refine Rg.pickt rfl rfl rfl ?_
            refine Rg.gyes rfl rfl ?_
            refine Rg.move rfl rfl ?_
            refine Rg.gsplitp (g := 28) rfl (fun g1_25 => ?_) (fun g1_25 => ?_)
            · -- g1_25 True
              refine Rg.gyes rfl rfl ?_
              refine Rg.move rfl rfl ?_
              refine Rg.gyes rfl rfl ?_
              refine Rg.ine rfl rfl rfl ?_
              refine Rg.gyes rfl rfl ?_
              refine Rg.pickt rfl rfl rfl ?_
              refine Rg.pickf rfl rfl rfl ?_
              refine Rg.assign rfl rfl ?_
              refine Rg.nil ?_
              refine T.ret ?_
              exact Kret1 rfl rfl ⟨by simp only [letB]; first | rfl | (congr 1; first | (exact (decide_eq_true (by omega)).symm) | (exact (decide_eq_false (by omega)).symm) | (exact decide_eq_decide.2 (by omega))), rfl⟩
            · -- g1_25 False
              refine Rg.gno rfl rfl rfl rfl ?_
              refine Rg.gno rfl rfl rfl rfl ?_
              refine Rg.gyes rfl rfl ?_
              refine Rg.pickf rfl rfl rfl ?_
              refine Rg.pickf rfl rfl rfl ?_
              refine Rg.assign rfl rfl ?_
              refine Rg.nil ?_
              refine T.ret ?_
              exact Kret1 rfl rfl ⟨by simp only [letB]; first | rfl | (congr 1; first | (exact (decide_eq_true (by omega)).symm) | (exact (decide_eq_false (by omega)).symm) | (exact decide_eq_decide.2 (by omega))), rfl⟩
          · -- g1_21 False
            refine Rg.gno rfl rfl rfl rfl ?_
            refine Rg.gno rfl rfl rfl rfl ?_
            refine Rg.gyes rfl rfl ?_
            refine Rg.pickf rfl rfl rfl ?_
            refine Rg.gyes rfl rfl ?_
            refine Rg.move rfl rfl ?_
            refine Rg.gno rfl rfl rfl rfl ?_
            refine Rg.gno rfl rfl rfl rfl ?_
            refine Rg.gyes rfl rfl ?_
            refine Rg.pickf rfl rfl rfl ?_
            refine Rg.pickf rfl rfl rfl ?_
            refine Rg.assign rfl rfl ?_
            refine Rg.nil ?_
            refine T.ret ?_
            exact Kret1 rfl rfl ⟨by simp only [letB]; first | rfl | (congr 1; first | (exact (decide_eq_true (by omega)).symm) | (exact (decide_eq_false (by omega)).symm) | (exact decide_eq_decide.2 (by omega))), rfl⟩
        · -- g1_17 False
          refine Rg.gno rfl rfl rfl rfl ?_
          refine Rg.gno rfl rfl rfl rfl ?_
          refine Rg.gyes rfl rfl ?_
          refine Rg.pickf rfl rfl rfl ?_
          refine Rg.gyes rfl rfl ?_
          refine Rg.move rfl rfl ?_
          refine Rg.gno rfl rfl rfl rfl ?_
          refine Rg.gno rfl rfl rfl rfl ?_
          refine Rg.gyes rfl rfl ?_
          refine Rg.pickf rfl rfl rfl ?_
          refine Rg.gyes rfl rfl ?_
          refine Rg.move rfl rfl ?_
          refine Rg.gno rfl rfl rfl rfl ?_
          refine Rg.gno rfl rfl rfl rfl ?_
          refine Rg.gyes rfl rfl ?_
          refine Rg.pickf rfl rfl rfl ?_
          refine Rg.pickf rfl rfl rfl ?_
          refine Rg.assign rfl rfl ?_
          refine Rg.nil ?_
          refine T.ret ?_
          exact Kret1 rfl rfl ⟨by simp only [letB]; first | rfl | (congr 1; first | (exact (decide_eq_true (by omega)).symm) | (exact (decide_eq_false (by omega)).symm) | (exact decide_eq_decide.2 (by omega))), rfl⟩
  · -- g1_2 False
    refine Rg.gno rfl rfl rfl rfl ?_
    refine Rg.gno rfl rfl rfl rfl ?_
    refine Rg.pickf rfl rfl rfl ?_
    refine Rg.move rfl rfl ?_
    refine Rg.gyes rfl rfl ?_
    refine Rg.move rfl rfl ?_
    refine Rg.gyes rfl rfl ?_
    refine Rg.ige rfl rfl rfl ?_
    refine Rg.gyes rfl rfl ?_
    refine Rg.move rfl rfl ?_
    refine Rg.gsplitp (g := 12) rfl (fun g1_9 => ?_) (fun g1_9 => ?_)
    · -- g1_9 True
      refine Rg.gyes rfl rfl ?_
      refine Rg.move rfl rfl ?_
      refine Rg.gyes rfl rfl ?_
      refine Rg.ile rfl rfl rfl ?_
      refine Rg.gyes rfl rfl ?_
      refine Rg.pickt rfl rfl rfl ?_
      refine Rg.pickf rfl rfl rfl ?_
      refine Rg.move rfl rfl ?_
      refine Rg.gsplitp (g := 17) rfl (fun g1_14 => ?_) (fun g1_14 => ?_)
      · -- g1_14 True
        refine Rg.gno rfl rfl rfl rfl ?_
        refine Rg.gno rfl rfl rfl rfl ?_
        refine Rg.gno rfl rfl rfl rfl ?_
        refine Rg.gnox rfl rfl rfl ?_
        refine Rg.gnox rfl rfl rfl ?_
        refine Rg.gno rfl rfl rfl rfl ?_
        refine Rg.gno rfl rfl rfl rfl ?_
        refine Rg.gnox rfl rfl rfl ?_
        refine Rg.gnox rfl rfl rfl ?_
        refine Rg.gno rfl rfl rfl rfl ?_
        refine Rg.gno rfl rfl rfl rfl ?_
        refine Rg.gnox rfl rfl rfl ?_
        refine Rg.gnox rfl rfl rfl ?_
        refine Rg.gno rfl rfl rfl rfl ?_
        refine Rg.pickt rfl rfl rfl ?_
        refine Rg.assign rfl rfl ?_
        refine Rg.nil ?_
        refine T.ret ?_
        exact Kret1 rfl rfl ⟨by simp only [letB]; first | rfl | (congr 1; first | (exact (decide_eq_true (by omega)).symm) | (exact (decide_eq_false (by omega)).symm) | (exact decide_eq_decide.2 (by omega))), rfl⟩
      · -- g1_14 False
        refine Rg.gyes rfl rfl ?_
        refine Rg.move rfl rfl ?_
        refine Rg.gyes rfl rfl ?_
        refine Rg.ige rfl rfl rfl ?_
        refine Rg.gyes rfl rfl ?_
        refine Rg.move rfl rfl ?_
        refine Rg.gsplitp (g := 20) rfl (fun g1_17 => ?_) (fun g1_17 => ?_)
        · -- g1_17 True
          refine Rg.gyes rfl rfl ?_
          refine Rg.move rfl rfl ?_
          refine Rg.gyes rfl rfl ?_
          refine Rg.ile rfl rfl rfl ?_
          refine Rg.gyes rfl rfl ?_
          refine Rg.pickt rfl rfl rfl ?_
          refine Rg.gyes rfl rfl ?_
          refine Rg.move rfl rfl ?_
          refine Rg.gsplitp (g := 24) rfl (fun g1_21 => ?_) (fun g1_21 => ?_)
          · -- g1_21 True
            refine Rg.gyes rfl rfl ?_
            refine Rg.move rfl rfl ?_
            refine Rg.gyes rfl rfl ?_
            refine Rg.ine rfl rfl rfl ?_
            refine Rg.gyes rfl rfl ?_
            refine Rg.pickt rfl rfl rfl ?_
            refine Rg.gyes rfl rfl ?_
            refine Rg.move rfl rfl ?_
            refine Rg.gsplitp (g := 28) rfl (fun g1_25 => ?_) (fun g1_25 => ?_)
            · -- g1_25 True
              refine Rg.gyes rfl rfl ?_
              refine Rg.move rfl rfl ?_
              refine Rg.gyes rfl rfl ?_
              refine Rg.ine rfl rfl rfl ?_
              refine Rg.gyes rfl rfl ?_
              refine Rg.pickt rfl rfl rfl ?_
              refine Rg.pickf rfl rfl rfl ?_
              refine Rg.assign rfl rfl ?_
              refine Rg.nil ?_
              refine T.ret ?_
              exact Kret1 rfl rfl ⟨by simp only [letB]; first | rfl | (congr 1; first | (exact (decide_eq_true (by omega)).symm) | (exact (decide_eq_false (by omega)).symm) | (exact decide_eq_decide.2 (by omega))), rfl⟩
            · -- g1_25 False
              refine Rg.gno rfl rfl rfl rfl ?_
              refine Rg.gno rfl rfl rfl rfl ?_
              refine Rg.gyes rfl rfl ?_
              refine Rg.pickf rfl rfl rfl ?_
              refine Rg.pickf rfl rfl rfl ?_
              refine Rg.assign rfl rfl ?_
              refine Rg.nil ?_
              refine T.ret ?_
              exact Kret1 rfl rfl ⟨by simp only [letB]; first | rfl | (congr 1; first | (exact (decide_eq_true (by omega)).symm) | (exact (decide_eq_false (by omega)).symm) | (exact decide_eq_decide.2 (by omega))), rfl⟩
          · -- g1_21 False
            refine Rg.gno rfl rfl rfl rfl ?_
            refine Rg.gno rfl rfl rfl rfl ?_
            refine Rg.gyes rfl rfl ?_
            refine Rg.pickf rfl rfl rfl ?_
            refine Rg.gyes rfl rfl ?_
            refine Rg.move rfl rfl ?_
            refine Rg.gno rfl rfl rfl rfl ?_
            refine Rg.gno rfl rfl rfl rfl ?_
            refine Rg.gyes rfl rfl ?_
            refine Rg.pickf rfl rfl rfl ?_
            refine Rg.pickf rfl rfl rfl ?_
            refine Rg.assign rfl rfl ?_
            refine Rg.nil ?_
            refine T.ret ?_
            exact Kret1 rfl rfl ⟨by simp only [letB]; first | rfl | (congr 1; first | (exact (decide_eq_true (by omega)).symm) | (exact (decide_eq_false (by omega)).symm) | (exact decide_eq_decide.2 (by omega))), rfl⟩
        · -- g1_17 False
          refine Rg.gno rfl rfl rfl rfl ?_
          refine Rg.gno rfl rfl rfl rfl ?_
          refine Rg.gyes rfl rfl ?_
          refine Rg.pickf rfl rfl rfl ?_
          refine Rg.gyes rfl rfl ?_
          refine Rg.move rfl rfl ?_
          refine Rg.gno rfl rfl rfl rfl ?_
          refine Rg.gno rfl rfl rfl rfl ?_
          refine Rg.gyes rfl rfl ?_
          refine Rg.pickf rfl rfl rfl ?_
          refine Rg.gyes rfl rfl ?_
          refine Rg.move rfl rfl ?_
          refine Rg.gno rfl rfl rfl rfl ?_
          refine Rg.gno rfl rfl rfl rfl ?_
          refine Rg.gyes rfl rfl ?_
          refine Rg.pickf rfl rfl rfl ?_
          refine Rg.pickf rfl rfl rfl ?_
          refine Rg.assign rfl rfl ?_
          refine Rg.nil ?_
          refine T.ret ?_
          exact Kret1 rfl rfl ⟨by simp only [letB]; first | rfl | (congr 1; first | (exact (decide_eq_true (by omega)).symm) | (exact (decide_eq_false (by omega)).symm) | (exact decide_eq_decide.2 (by omega))), rfl⟩
    · -- g1_9 False
      refine Rg.gno rfl rfl rfl rfl ?_
      refine Rg.gno rfl rfl rfl rfl ?_
      refine Rg.gyes rfl rfl ?_
      refine Rg.pickf rfl rfl rfl ?_
      refine Rg.pickf rfl rfl rfl ?_
      refine Rg.move rfl rfl ?_
      refine Rg.gyes rfl rfl ?_
      refine Rg.move rfl rfl ?_
      refine Rg.gyes rfl rfl ?_
      refine Rg.ige rfl rfl rfl ?_
      refine Rg.gyes rfl rfl ?_
      refine Rg.move rfl rfl ?_
      refine Rg.gsplitp (g := 20) rfl (fun g1_17 => ?_) (fun g1_17 => ?_)
      · -- g1_17 True
        refine Rg.gyes rfl rfl ?_
        refine Rg.move rfl rfl ?_
        refine Rg.gyes rfl rfl ?_
        refine Rg.ile rfl rfl rfl ?_
        refine Rg.gyes rfl rfl ?_
        refine Rg.pickt rfl rfl rfl ?_
        refine Rg.gyes rfl rfl ?_
        refine Rg.move rfl rfl ?_
        refine Rg.gsplitp (g := 24) rfl (fun g1_21 => ?_) (fun g1_21 => ?_)
        · -- g1_21 True
          refine Rg.gyes rfl rfl ?_
          refine Rg.move rfl rfl ?_
          refine Rg.gyes rfl rfl ?_
          refine Rg.ine rfl rfl rfl ?_
          refine Rg.gyes rfl rfl ?_
          refine Rg.pickt rfl rfl rfl ?_
          refine Rg.gyes rfl rfl ?_
          refine Rg.move rfl rfl ?_
          refine Rg.gsplitp (g := 28) rfl (fun g1_25 => ?_) (fun g1_25 => ?_)
          · -- g1_25 True
            refine Rg.gyes rfl rfl ?_
            refine Rg.move rfl rfl ?_
            refine Rg.gyes rfl rfl ?_
            refine Rg.ine rfl rfl rfl ?_
            refine Rg.gyes rfl rfl ?_
            refine Rg.pickt rfl rfl rfl ?_
            refine Rg.pickf rfl rfl rfl ?_
            refine Rg.assign rfl rfl ?_
            refine Rg.nil ?_
            refine T.ret ?_
            exact Kret1 rfl rfl ⟨by simp only [letB]; first | rfl | (congr 1; first | (exact (decide_eq_true (by omega)).symm) | (exact (decide_eq_false (by omega)).symm) | (exact decide_eq_decide.2 (by omega))), rfl⟩
          · -- g1_25 False
            refine Rg.gno rfl rfl rfl rfl ?_
            refine Rg.gno rfl rfl rfl rfl ?_
            refine Rg.gyes rfl rfl ?_
            refine Rg.pickf rfl rfl rfl ?_
            refine Rg.pickf rfl rfl rfl ?_
            refine Rg.assign rfl rfl ?_
            refine Rg.nil ?_
            refine T.ret ?_
            exact Kret1 rfl rfl ⟨by simp only [letB]; first | rfl | (congr 1; first | (exact (decide_eq_true (by omega)).symm) | (exact (decide_eq_false (by omega)).symm) | (exact decide_eq_decide.2 (by omega))), rfl⟩
        · -- g1_21 False
          refine Rg.gno rfl rfl rfl rfl ?_
          refine Rg.gno rfl rfl rfl rfl ?_
          refine Rg.gyes rfl rfl ?_
          refine Rg.pickf rfl rfl rfl ?_
          refine Rg.gyes rfl rfl ?_
          refine Rg.move rfl rfl ?_
          refine Rg.gno rfl rfl rfl rfl ?_
          refine Rg.gno rfl rfl rfl rfl ?_
          refine Rg.gyes rfl rfl ?_
          refine Rg.pickf rfl rfl rfl ?_
          refine Rg.pickf rfl rfl rfl ?_
          refine Rg.assign rfl rfl ?_
          refine Rg.nil ?_
          refine T.ret ?_
          exact Kret1 rfl rfl ⟨by simp only [letB]; first | rfl | (congr 1; first | (exact (decide_eq_true (by omega)).symm) | (exact (decide_eq_false (by omega)).symm) | (exact decide_eq_decide.2 (by omega))), rfl⟩
      · -- g1_17 False
        refine Rg.gno rfl rfl rfl rfl ?_
        refine Rg.gno rfl rfl rfl rfl ?_
        refine Rg.gyes rfl rfl ?_
        refine Rg.pickf rfl rfl rfl ?_
        refine Rg.gyes rfl rfl ?_
        refine Rg.move rfl rfl ?_
        refine Rg.gno rfl rfl rfl rfl ?_
        refine Rg.gno rfl rfl rfl rfl ?_
        refine Rg.gyes rfl rfl ?_
        refine Rg.pickf rfl rfl rfl ?_
        refine Rg.gyes rfl rfl ?_
        refine Rg.move rfl rfl ?_
        refine Rg.gno rfl rfl rfl rfl ?_
        refine Rg.gno rfl rfl rfl rfl ?_
        refine Rg.gyes rfl rfl ?_
        refine Rg.pickf rfl rfl rfl ?_
        refine Rg.pickf rfl rfl rfl ?_
        refine Rg.assign rfl rfl ?_
        refine Rg.nil ?_
        refine T.ret ?_
        exact Kret1 rfl rfl ⟨by simp only [letB]; first | rfl | (congr 1; first | (exact (decide_eq_true (by omega)).symm) | (exact (decide_eq_false (by omega)).symm) | (exact decide_eq_decide.2 (by omega))), rfl⟩
/-- 'concordance/sign.Digit' -/
theorem digit_spec (c : Int) (w0 : World) :
    Spec Tryz.prog 222 #[.int .i64 c] w0 (fun v w => v = .bool (digB c) ∧ w = w0) := by
  refine spec_of (args := [_]) (fn := Tryz.f222) Tryz.func222 rfl (n := 9) Tryz.ntmps222 ?_
  refine T.seq ?_
  refine T.region ?_ -- region 0
  refine Rg.assign rfl rfl ?_
  refine Rg.nil ?_
  refine T.seq ?_
  refine T.region ?_ -- region 1
  refine Rg.move rfl rfl ?_
  refine Rg.ige rfl rfl rfl ?_
  refine Rg.move rfl rfl ?_
  refine Rg.gsplitp (g := 5) rfl (fun g1_2 => ?_) (fun g1_2 => ?_)
  · -- g1_2 True
    refine Rg.gyes rfl rfl ?_
    refine Rg.move rfl rfl ?_
    refine Rg.gyes rfl rfl ?_
    refine Rg.ile rfl rfl rfl ?_
    refine Rg.pickt rfl rfl rfl ?_
    refine Rg.assign rfl rfl ?_
    refine Rg.nil ?_
    refine T.ret ?_
    exact Kret1 rfl rfl ⟨by simp only [digB]; first | rfl | (congr 1; first | (exact (decide_eq_true (by omega)).symm) | (exact (decide_eq_false (by omega)).symm) | (exact decide_eq_decide.2 (by omega))), rfl⟩
  · -- g1_2 False
    refine Rg.gno rfl rfl rfl rfl ?_
    refine Rg.gno rfl rfl rfl rfl ?_
    refine Rg.pickf rfl rfl rfl ?_
    refine Rg.assign rfl rfl ?_
    refine Rg.nil ?_
    refine T.ret ?_
    exact Kret1 rfl rfl ⟨by simp only [digB]; first | rfl | (congr 1; first | (exact (decide_eq_true (by omega)).symm) | (exact (decide_eq_false (by omega)).symm) | (exact decide_eq_decide.2 (by omega))), rfl⟩
/-- 'concordance/sign.Fold' -/
theorem fold_spec (c : Int) (w0 : World) (hc : 0 ≤ c ∧ c ≤ 1114111) :
    Spec Tryz.prog 223 #[.int .i64 c] w0 (fun v w => v = .int .i64 (foldZ c) ∧ w = w0) := by
  refine spec_of (args := [_]) (fn := Tryz.f223) Tryz.func223 rfl (n := 24) Tryz.ntmps223 ?_
  refine T.seq ?_
  refine T.region ?_ -- region 0
  refine Rg.assign rfl rfl ?_
  refine Rg.nil ?_
  refine T.seq ?_
  refine T.seq ?_
  refine T.region ?_ -- region 1
  refine Rg.move rfl rfl ?_
  refine Rg.ige rfl rfl rfl ?_
  refine Rg.move rfl rfl ?_
  refine Rg.gsplitp (g := 5) rfl (fun g1_2 => ?_) (fun g1_2 => ?_)
  · -- g1_2 True
    refine Rg.gyes rfl rfl ?_
    refine Rg.move rfl rfl ?_
    refine Rg.gyes rfl rfl ?_
    refine Rg.ile rfl rfl rfl ?_
    refine Rg.pickt rfl rfl rfl ?_
    refine Rg.move rfl rfl ?_
    refine Rg.gsplitp (g := 9) rfl (fun g1_6 => ?_) (fun g1_6 => ?_)
    · -- g1_6 True
      refine Rg.gno rfl rfl rfl rfl ?_
      refine Rg.gno rfl rfl rfl rfl ?_
      refine Rg.gno rfl rfl rfl rfl ?_
      refine Rg.gnox rfl rfl rfl ?_
      refine Rg.gnox rfl rfl rfl ?_
      refine Rg.gno rfl rfl rfl rfl ?_
      refine Rg.gno rfl rfl rfl rfl ?_
      refine Rg.gnox rfl rfl rfl ?_
      refine Rg.gnox rfl rfl rfl ?_
      refine Rg.gno rfl rfl rfl rfl ?_
      refine Rg.pickt rfl rfl rfl ?_
      refine Rg.nil ?_
      refine T.ift rfl ?_
      refine T.seq ?_
      refine T.region ?_ -- region 2
      refine Rg.move rfl rfl ?_
      refine Rg.iadd rfl rfl rfl (by omega) ?_
      refine Rg.assign rfl rfl ?_
      refine Rg.nil ?_
      refine T.ret ?_
      exact Kret1 rfl rfl ⟨by rw [foldZ, if_pos (by omega)], rfl⟩
    · -- g1_6 False
      refine Rg.gyes rfl rfl ?_
      refine Rg.move rfl rfl ?_
      refine Rg.gyes rfl rfl ?_
      refine Rg.ige rfl rfl rfl ?_
      refine Rg.gyes rfl rfl ?_
      refine Rg.move rfl rfl ?_
      refine Rg.gsplitp (g := 12) rfl (fun g1_9 => ?_) (fun g1_9 => ?_)
      · -- g1_9 True
        refine Rg.gyes rfl rfl ?_
        refine Rg.move rfl rfl ?_
        refine Rg.gyes rfl rfl ?_
        refine Rg.ile rfl rfl rfl ?_
        refine Rg.gyes rfl rfl ?_
        refine Rg.pickt rfl rfl rfl ?_
        refine Rg.gyes rfl rfl ?_
        refine Rg.move rfl rfl ?_
        refine Rg.gsplitp (g := 16) rfl (fun g1_13 => ?_) (fun g1_13 => ?_)
        · -- g1_13 True
          refine Rg.gyes rfl rfl ?_
          refine Rg.move rfl rfl ?_
          refine Rg.gyes rfl rfl ?_
          refine Rg.ine rfl rfl rfl ?_
          refine Rg.gyes rfl rfl ?_
          refine Rg.pickt rfl rfl rfl ?_
          refine Rg.pickf rfl rfl rfl ?_
          refine Rg.nil ?_
          refine T.ifp rfl (fun c1 => ?_) (fun c1 => ?_)
          · -- c1 True
            refine T.seq ?_
            refine T.region ?_ -- region 2
            refine Rg.move rfl rfl ?_
            refine Rg.iadd rfl rfl rfl (by omega) ?_
            refine Rg.assign rfl rfl ?_
            refine Rg.nil ?_
            refine T.ret ?_
            exact Kret1 rfl rfl ⟨by rw [foldZ, if_pos (by omega)], rfl⟩
          · -- c1 False
            refine T.skip ?_
            refine T.seq ?_
            refine T.region ?_ -- region 3
            refine Rg.move rfl rfl ?_
            refine Rg.assign rfl rfl ?_
            refine Rg.nil ?_
            refine T.ret ?_
            exact Kret1 rfl rfl ⟨by rw [foldZ, if_neg (by omega)], rfl⟩
        · -- g1_13 False
          refine Rg.gno rfl rfl rfl rfl ?_
          refine Rg.gno rfl rfl rfl rfl ?_
          refine Rg.gyes rfl rfl ?_
          refine Rg.pickf rfl rfl rfl ?_
          refine Rg.pickf rfl rfl rfl ?_
          refine Rg.nil ?_
          refine T.iff rfl ?_
          refine T.skip ?_
          refine T.seq ?_
          refine T.region ?_ -- region 3
          refine Rg.move rfl rfl ?_
          refine Rg.assign rfl rfl ?_
          refine Rg.nil ?_
          refine T.ret ?_
          exact Kret1 rfl rfl ⟨by rw [foldZ, if_neg (by omega)], rfl⟩
      · -- g1_9 False
        refine Rg.gno rfl rfl rfl rfl ?_
        refine Rg.gno rfl rfl rfl rfl ?_
        refine Rg.gyes rfl rfl ?_
        refine Rg.pickf rfl rfl rfl ?_
        refine Rg.gyes rfl rfl ?_
        refine Rg.move rfl rfl ?_
        refine Rg.gno rfl rfl rfl rfl ?_
        refine Rg.gno rfl rfl rfl rfl ?_
        refine Rg.gyes rfl rfl ?_
        refine Rg.pickf rfl rfl rfl ?_
        refine Rg.pickf rfl rfl rfl ?_
        refine Rg.nil ?_
        refine T.iff rfl ?_
        refine T.skip ?_
        refine T.seq ?_
        refine T.region ?_ -- region 3
        refine Rg.move rfl rfl ?_
        refine Rg.assign rfl rfl ?_
        refine Rg.nil ?_
        refine T.ret ?_
        exact Kret1 rfl rfl ⟨by rw [foldZ, if_neg (by omega)], rfl⟩
  · -- g1_2 False
    refine Rg.gno rfl rfl rfl rfl ?_
    refine Rg.gno rfl rfl rfl rfl ?_
    refine Rg.pickf rfl rfl rfl ?_
    refine Rg.move rfl rfl ?_
    refine Rg.gyes rfl rfl ?_
    refine Rg.move rfl rfl ?_
    refine Rg.gyes rfl rfl ?_
    refine Rg.ige rfl rfl rfl ?_
    refine Rg.gyes rfl rfl ?_
    refine Rg.move rfl rfl ?_
    refine Rg.gsplitp (g := 12) rfl (fun g1_9 => ?_) (fun g1_9 => ?_)
    · -- g1_9 True
      refine Rg.gyes rfl rfl ?_
      refine Rg.move rfl rfl ?_
      refine Rg.gyes rfl rfl ?_
      refine Rg.ile rfl rfl rfl ?_
      refine Rg.gyes rfl rfl ?_
      refine Rg.pickt rfl rfl rfl ?_
      refine Rg.gyes rfl rfl ?_
      refine Rg.move rfl rfl ?_
      refine Rg.gsplitp (g := 16) rfl (fun g1_13 => ?_) (fun g1_13 => ?_)
      · -- g1_13 True
        refine Rg.gyes rfl rfl ?_
        refine Rg.move rfl rfl ?_
        refine Rg.gyes rfl rfl ?_
        refine Rg.ine rfl rfl rfl ?_
        refine Rg.gyes rfl rfl ?_
        refine Rg.pickt rfl rfl rfl ?_
        refine Rg.pickf rfl rfl rfl ?_
        refine Rg.nil ?_
        refine T.ifp rfl (fun c1 => ?_) (fun c1 => ?_)
        · -- c1 True
          refine T.seq ?_
          refine T.region ?_ -- region 2
          refine Rg.move rfl rfl ?_
          refine Rg.iadd rfl rfl rfl (by omega) ?_
          refine Rg.assign rfl rfl ?_
          refine Rg.nil ?_
          refine T.ret ?_
          exact Kret1 rfl rfl ⟨by rw [foldZ, if_pos (by omega)], rfl⟩
        · -- c1 False
          refine T.skip ?_
          refine T.seq ?_
          refine T.region ?_ -- region 3
          refine Rg.move rfl rfl ?_
          refine Rg.assign rfl rfl ?_
          refine Rg.nil ?_
          refine T.ret ?_
          exact Kret1 rfl rfl ⟨by rw [foldZ, if_neg (by omega)], rfl⟩
      · -- g1_13 False
        refine Rg.gno rfl rfl rfl rfl ?_
        refine Rg.gno rfl rfl rfl rfl ?_
        refine Rg.gyes rfl rfl ?_
        refine Rg.pickf rfl rfl rfl ?_
        refine Rg.pickf rfl rfl rfl ?_
        refine Rg.nil ?_
        refine T.iff rfl ?_
        refine T.skip ?_
        refine T.seq ?_
        refine T.region ?_ -- region 3
        refine Rg.move rfl rfl ?_
        refine Rg.assign rfl rfl ?_
        refine Rg.nil ?_
        refine T.ret ?_
        exact Kret1 rfl rfl ⟨by rw [foldZ, if_neg (by omega)], rfl⟩
    · -- g1_9 False
      refine Rg.gno rfl rfl rfl rfl ?_
      refine Rg.gno rfl rfl rfl rfl ?_
      refine Rg.gyes rfl rfl ?_
      refine Rg.pickf rfl rfl rfl ?_
      refine Rg.gyes rfl rfl ?_
      refine Rg.move rfl rfl ?_
      refine Rg.gno rfl rfl rfl rfl ?_
      refine Rg.gno rfl rfl rfl rfl ?_
      refine Rg.gyes rfl rfl ?_
      refine Rg.pickf rfl rfl rfl ?_
      refine Rg.pickf rfl rfl rfl ?_
      refine Rg.nil ?_
      refine T.iff rfl ?_
      refine T.skip ?_
      refine T.seq ?_
      refine T.region ?_ -- region 3
      refine Rg.move rfl rfl ?_
      refine Rg.assign rfl rfl ?_
      refine Rg.nil ?_
      refine T.ret ?_
      exact Kret1 rfl rfl ⟨by rw [foldZ, if_neg (by omega)], rfl⟩
end Go.K
namespace Go.Proofs
open Go.Shelf
def Tryz.lays169_ren : Go.Shelf.Ren := ⟨fun | 169 => 256 | n => n, fun | 70 => 307 | 9 => 9 | 0 => 0 | 72 => 309 | 37 => 147 | 127 => 331 | 3 => 3 | 5 => 5 | n => n, fun | n => n⟩
theorem Tryz.lays169 : Go.Proofs.Lays.n169 Tryz.prog Tryz.lays169_ren := {
  mixed := by kernel_rfl
  f169 := Tryz.func256.trans (congrArg some (by kernel_rfl))
  t0 := Tryz.underlying0
  a0 := Tryz.isAgg0
  z0 := Tryz.sizeOf0
  v0 := Tryz.zeroValue0
  t3 := Tryz.underlying3
  a3 := Tryz.isAgg3
  z3 := Tryz.sizeOf3
  v3 := Tryz.zeroValue3
  t9 := Tryz.underlying9
  a9 := Tryz.isAgg9
  z9 := Tryz.sizeOf9
  v9 := Tryz.zeroValue9
  t37 := Tryz.underlying147
  a37 := Tryz.isAgg147
  z37 := Tryz.sizeOf147
  v37 := Tryz.zeroValue147
  t70 := Tryz.underlying307
  a70 := Tryz.isAgg307
  z70 := Tryz.sizeOf307
  v70 := Tryz.zeroValue307
  t72 := Tryz.underlying309
  a72 := Tryz.isAgg309
  z72 := Tryz.sizeOf309
  v72 := Tryz.zeroValue309
  t127 := Tryz.underlying331
  a127 := Tryz.isAgg331
  z127 := Tryz.sizeOf331
  v127 := Tryz.zeroValue331 }
def Tryz.lays119_ren : Go.Shelf.Ren := ⟨fun | 119 => 277 | n => n, fun | 21 => 21 | 4 => 4 | n => n, fun | n => n⟩
theorem Tryz.lays119 : Go.Proofs.Lays.n119 Tryz.prog Tryz.lays119_ren := {
  mixed := by kernel_rfl
  f119 := Tryz.func277.trans (congrArg some (by kernel_rfl))
  t4 := Tryz.underlying4
  a4 := Tryz.isAgg4
  z4 := Tryz.sizeOf4
  v4 := Tryz.zeroValue4
  t21 := Tryz.underlying21
  a21 := Tryz.isAgg21
  z21 := Tryz.sizeOf21
  v21 := Tryz.zeroValue21 }
def Tryz.lays106_ren : Go.Shelf.Ren := ⟨fun | 106 => 159 | 213 => 198 | 265 => 235 | n => n, fun | 9 => 9 | 3 => 3 | n => n, fun | n => n⟩
theorem Tryz.lays106 : Go.Proofs.Lays.n106 Tryz.prog Tryz.lays106_ren := {
  mixed := by kernel_rfl
  f106 := Tryz.func159.trans (congrArg some (by kernel_rfl))
  f213 := Tryz.func198.trans (congrArg some (by kernel_rfl))
  f265 := Tryz.func235.trans (congrArg some (by kernel_rfl))
  t3 := Tryz.underlying3
  a3 := Tryz.isAgg3
  z3 := Tryz.sizeOf3
  v3 := Tryz.zeroValue3
  t9 := Tryz.underlying9
  a9 := Tryz.isAgg9
  z9 := Tryz.sizeOf9
  v9 := Tryz.zeroValue9 }
theorem Tryz.Builder_Extra_169 : Builder.Extra Tryz.prog Tryz.lays169_ren := {
  sizeBuilder := by kernel_rfl
  liesBuilder := by kernel_rfl
  t5 := Tryz.underlying5
  a5 := Tryz.isAgg5
  z5 := Tryz.sizeOf5
  v5 := Tryz.zeroValue5
  infoByte := by kernel_rfl
  cellsByte := by kernel_rfl
  sizeByte := by kernel_rfl
  neB5 := by decide }
def Tryz.lays168_ren : Go.Shelf.Ren := ⟨fun | 168 => 254 | 240 => 275 | 242 => 276 | 276 => 285 | 278 => 286 | n => n, fun | 0 => 0 | 3 => 3 | 4 => 4 | 5 => 5 | 9 => 9 | 20 => 20 | 21 => 21 | 37 => 147 | 46 => 183 | 51 => 273 | 70 => 307 | 72 => 309 | 75 => 311 | 80 => 315 | 164 => 336 | n => n, fun | n => n⟩
theorem Tryz.lays168 : Go.Proofs.Lays.n168 Tryz.prog Tryz.lays168_ren := {
  mixed := by kernel_rfl
  f168 := Tryz.func254.trans (congrArg some (by kernel_rfl))
  f240 := Tryz.func275.trans (congrArg some (by kernel_rfl))
  f242 := Tryz.func276.trans (congrArg some (by kernel_rfl))
  f276 := Tryz.func285.trans (congrArg some (by kernel_rfl))
  f278 := Tryz.func286.trans (congrArg some (by kernel_rfl))
  t0 := Tryz.underlying0
  a0 := Tryz.isAgg0
  z0 := Tryz.sizeOf0
  v0 := Tryz.zeroValue0
  t3 := Tryz.underlying3
  a3 := Tryz.isAgg3
  z3 := Tryz.sizeOf3
  v3 := Tryz.zeroValue3
  t4 := Tryz.underlying4
  a4 := Tryz.isAgg4
  z4 := Tryz.sizeOf4
  v4 := Tryz.zeroValue4
  t5 := Tryz.underlying5
  a5 := Tryz.isAgg5
  z5 := Tryz.sizeOf5
  v5 := Tryz.zeroValue5
  t9 := Tryz.underlying9
  a9 := Tryz.isAgg9
  z9 := Tryz.sizeOf9
  v9 := Tryz.zeroValue9
  t20 := Tryz.underlying20
  a20 := Tryz.isAgg20
  z20 := Tryz.sizeOf20
  v20 := Tryz.zeroValue20
  t21 := Tryz.underlying21
  a21 := Tryz.isAgg21
  z21 := Tryz.sizeOf21
  v21 := Tryz.zeroValue21
  t37 := Tryz.underlying147
  a37 := Tryz.isAgg147
  z37 := Tryz.sizeOf147
  v37 := Tryz.zeroValue147
  t46 := Tryz.underlying183
  a46 := Tryz.isAgg183
  z46 := Tryz.sizeOf183
  v46 := Tryz.zeroValue183
  t51 := Tryz.underlying273
  a51 := Tryz.isAgg273
  z51 := Tryz.sizeOf273
  v51 := Tryz.zeroValue273
  t70 := Tryz.underlying307
  a70 := Tryz.isAgg307
  z70 := Tryz.sizeOf307
  v70 := Tryz.zeroValue307
  t72 := Tryz.underlying309
  a72 := Tryz.isAgg309
  z72 := Tryz.sizeOf309
  v72 := Tryz.zeroValue309
  t75 := Tryz.underlying311
  a75 := Tryz.isAgg311
  z75 := Tryz.sizeOf311
  v75 := Tryz.zeroValue311
  t164 := Tryz.underlying336
  a164 := Tryz.isAgg336
  z164 := Tryz.sizeOf336
  v164 := Tryz.zeroValue336 }
theorem Tryz.Builder_Extra_168 : Builder.Extra Tryz.prog Tryz.lays168_ren where
  sizeBuilder := by kernel_rfl
  liesBuilder := by kernel_rfl
  t5 := Tryz.underlying5
  a5 := Tryz.isAgg5
  z5 := Tryz.sizeOf5
  v5 := Tryz.zeroValue5
  infoByte := by kernel_rfl
  cellsByte := by kernel_rfl
  sizeByte := by kernel_rfl
  neB5 := by decide
end Go.Proofs
namespace Go.K
open Go.Proofs
set_option linter.unusedVariables false
set_option linter.unusedSimpArgs false
set_option maxRecDepth 10000
open Go.RowKit Go.Shelf
theorem valid_spec (r : Int) (w : World) : Spec Tryz.prog 277 #[.int .i32 r] w (fun v w' => v = .bool (Lib.validRune r) ∧ w' = w) := (Any.utf8_ValidRune Tryz.lays119 r w).mono fun e w' ⟨h1, h2⟩ => ⟨_, h1, rfl, h2⟩
theorem rune_spec {B b : Nat} {bs : List Value} {r : Int} (w : World) (hr : -2147483648 ≤ r ∧ r ≤ 2147483647) (h : Lib.IsBuilderF 309 5 B b bs w) (hl : bs.length + 4 ≤ 140737488355328) (hB : B ≤ w.heap.size) :
    Spec Tryz.prog 254 #[.pointer (some ⟨b, 0, none⟩), .int .i32 r] w (fun v w' => Lib.IsBuilderF 309 5 B b (bs ++ Lib.runeCells r) w' ∧ Below B w w') :=
  (Any.Builder_WriteRune_k Tryz.lays168 Tryz.Builder_Extra_168 B b bs r hr.1 hr.2 w h hl hB).mono fun e w' ⟨h1, h2, h3, _⟩ => ⟨_, h1, .inr h2, h3⟩
theorem str_spec {B b : Nat} {l : List UInt8} (w : World) (h : Lib.IsBuilderF 309 5 B b (Lib.byteCells l) w) (hB : B ≤ w.heap.size) :
    Spec Tryz.prog 256 #[.pointer (some ⟨b, 0, none⟩)] w (fun v w' => v = .string ⟨l.toArray⟩ ∧ Below B w w') :=
  (Any.Builder_String_any_k Tryz.lays169 Tryz.Builder_Extra_169 B b l w h hB).mono fun e w' ⟨h1, _, h3, _⟩ => ⟨_, h1, rfl, h3⟩
theorem wrap32 {c : Int} (h : 0 ≤ c ∧ c ≤ 1114111) : IntKind.i32.wrap c = c := by
  show (if (true && decide (c % 4294967296 ≥ 2147483648)) = true then c % 4294967296 - 4294967296 else c % 4294967296) = c
  rw [if_neg (by simp only [Bool.true_and, decide_eq_true_eq]; omega)]
  omega
/-- a character that may be -/
def sgn (c : Int) : Int := if c < 0 ∨ c > 1114111 ∨ Lib.validRune c = false then 65533 else c
theorem sgn_rng (c : Int) : 0 ≤ sgn c ∧ sgn c ≤ 1114111 := by unfold sgn; split <;> omega
def textB (l : List Int) : List UInt8 := l.flatMap fun c => Lib.encodeRune (sgn c)
theorem textB_snoc (l : List Int) (c : Int) : textB (l ++ [c]) = textB l ++ Lib.encodeRune (sgn c) := by simp [textB]
theorem enc_len (r : Int) : (Lib.encodeRune r).length ≤ 4 := by have := (Lib.encodeRuneZ_length r).2; simpa [Lib.encodeRune] using this
theorem textB_len (l : List Int) : (textB l).length ≤ 4 * l.length := by
  induction l with
  | nil => simp [textB]
  | cons c l ih =>
    have := enc_len (sgn c)
    simp only [textB, List.flatMap_cons, List.length_append, List.length_cons] at ih ⊢
    omega
theorem byteCells_snoc (l : List Int) (c : Int) : Lib.byteCells (textB l) ++ Lib.runeCells (sgn c) = Lib.byteCells (textB (l ++ [c])) := by
  rw [textB_snoc, ← Lib.byteCells_encodeRune]; simp [Lib.byteCells]
/-- 'concordance/sign.sign' -/
theorem sgn_spec (c : Int) (w0 : World) :
    Spec Tryz.prog 255 #[.int .i64 c] w0 (fun v w => v = .int .i32 (sgn c) ∧ w = w0) := by
  refine spec_of (args := [_]) (fn := Tryz.f255) Tryz.func255 rfl (n := 17) Tryz.ntmps255 ?_
  refine T.seq ?_
  refine T.region ?_ -- region 0
  refine Rg.assign rfl rfl ?_
  refine Rg.nil ?_
  refine T.seq ?_
  refine T.seq ?_
  refine T.region ?_ -- region 1
  refine Rg.move rfl rfl ?_
  refine Rg.ilt rfl rfl rfl ?_
  refine Rg.move rfl rfl ?_
  refine Rg.gsplitp (g := 5) rfl (fun g1_2 => ?_) (fun g1_2 => ?_)
  · -- g1_2 True
    refine Rg.gno rfl rfl rfl rfl ?_
    refine Rg.gno rfl rfl rfl rfl ?_
    refine Rg.pickt rfl rfl rfl ?_
    refine Rg.move rfl rfl ?_
    refine Rg.gno rfl rfl rfl rfl ?_
    refine Rg.gno rfl rfl rfl rfl ?_
    refine Rg.gno rfl rfl rfl rfl ?_
    refine Rg.gno rfl rfl rfl rfl ?_
    refine Rg.pickt rfl rfl rfl ?_
    refine Rg.nil ?_
    refine T.ift rfl ?_
    refine T.seq ?_
    refine T.region ?_ -- region 2
    refine Rg.assign rfl rfl ?_
    refine Rg.nil ?_
    refine T.ret ?_
    exact Kret1 rfl rfl ⟨by rw [sgn, if_pos (by first | exact .inl (by omega) | exact .inr (.inl (by omega)) | exact .inr (.inr (by assumption)))], rfl⟩
  · -- g1_2 False
    refine Rg.gyes rfl rfl ?_
    refine Rg.move rfl rfl ?_
    refine Rg.gyes rfl rfl ?_
    refine Rg.igt rfl rfl rfl ?_
    refine Rg.pickf rfl rfl rfl ?_
    refine Rg.move rfl rfl ?_
    refine Rg.gsplitp (g := 9) rfl (fun g1_6 => ?_) (fun g1_6 => ?_)
    · -- g1_6 True
      refine Rg.gno rfl rfl rfl rfl ?_
      refine Rg.gno rfl rfl rfl rfl ?_
      refine Rg.gno rfl rfl rfl rfl ?_
      refine Rg.gno rfl rfl rfl rfl ?_
      refine Rg.pickt rfl rfl rfl ?_
      refine Rg.nil ?_
      refine T.ift rfl ?_
      refine T.seq ?_
      refine T.region ?_ -- region 2
      refine Rg.assign rfl rfl ?_
      refine Rg.nil ?_
      refine T.ret ?_
      exact Kret1 rfl rfl ⟨by rw [sgn, if_pos (by first | exact .inl (by omega) | exact .inr (.inl (by omega)) | exact .inr (.inr (by assumption)))], rfl⟩
    · -- g1_6 False
      refine Rg.gyes rfl rfl ?_
      refine Rg.move rfl rfl ?_
      refine Rg.gyes rfl rfl ?_
      refine Rg.conv Tryz.underlying3 Tryz.underlying21 rfl rfl ?_
      refine Rg.eqv (v' := .int .i32 c) (congrArg (Value.int .i32) (wrap32 (by omega))) ?_
      refine Rg.gyes rfl rfl ?_
      refine Rg.call rfl rfl E277 (valid_spec _ _) (fun r wc hc => ?_)
      obtain ⟨rfl, rfl⟩ := hc 
      refine Rg.gyes rfl rfl ?_
      refine Rg.not rfl rfl ?_
      refine Rg.eqv (v' := .bool (decide (Lib.validRune c = false))) (by cases Lib.validRune c <;> rfl) ?_
      refine Rg.pickf rfl rfl rfl ?_
      refine Rg.nil ?_
      refine T.ifp rfl (fun c1 => ?_) (fun c1 => ?_)
      · -- c1 True
        refine T.seq ?_
        refine T.region ?_ -- region 2
        refine Rg.assign rfl rfl ?_
        refine Rg.nil ?_
        refine T.ret ?_
        exact Kret1 rfl rfl ⟨by rw [sgn, if_pos (by first | exact .inl (by omega) | exact .inr (.inl (by omega)) | exact .inr (.inr (by assumption)))], rfl⟩
      · -- c1 False
        refine T.skip ?_
        refine T.seq ?_
        refine T.region ?_ -- region 3
        refine Rg.move rfl rfl ?_
        refine Rg.conv Tryz.underlying3 Tryz.underlying21 rfl rfl ?_
        refine Rg.eqv (v' := .int .i32 c) (congrArg (Value.int .i32) (wrap32 (by omega))) ?_
        refine Rg.assign rfl rfl ?_
        refine Rg.nil ?_
        refine T.ret ?_
        exact Kret1 rfl rfl ⟨by rw [sgn, if_neg (by rintro (h | h | h) <;> first | omega | exact absurd h (by assumption))], rfl⟩
/-- 'concordance/sign.Text' -/
theorem text_spec {M : PSet} {xs : List Int} {v0 : Value} (w0 : World) (hM : Lt M w0) (hv : ((RT.int .i64).sl).V M w0 xs v0) (hl : xs.length ≤ 1000000) :
    Spec Tryz.prog 224 #[v0] w0 (fun v w => v = .string ⟨(textB xs).toArray⟩ ∧ Step M w0 M w none') := by
  refine spec_of (args := [_]) (fn := Tryz.f224) Tryz.func224 rfl (n := 17) Tryz.ntmps224 ?_
  refine T.seq ?_
  refine T.region ?_ -- region 0
  refine Rg.assign rfl rfl ?_
  refine Rg.nil ?_
  refine T.seq ?_
  refine T.region ?_ -- region 1
  refine Rg.alloc M I309 rfl (fun b w1 p1 q1 g1 s1 => ?_)
  have hb1 : Lib.IsBuilderF 309 5 w0.heap.size b (Lib.byteCells (textB (xs.take 0))) w1 := .of (.inl ⟨p1, .slice none 0 0, g1, World.ownsRow_nil _ _ _ _, by simp [Value.ownBlock]⟩)
  have S1 : Below w0.heap.size w0 w1 := s1.below
  refine Rg.nil ?_
  refine T.seq ?_
  refine T.seq ?_
  refine T.region ?_ -- region 2
  refine Rg.move rfl rfl ?_
  refine Rg.lensl Tryz.underlying32 rfl hv rfl ?_
  refine Rg.move rfl rfl ?_
  refine Rg.nil ?_
  refine T.block ?_
  refine T.loop (σ := Nat) (fun k => [(3, .pointer (some ⟨b, 0, none⟩)), (6, v0), (7, .int .i64 (xs.length : Int)), (8, .int .i64 (k : Int))]) (fun k w => Lib.IsBuilderF 309 5 w0.heap.size b (Lib.byteCells (textB (xs.take k))) w ∧ Below w0.heap.size w0 w ∧ k ≤ xs.length) (fun k => xs.length - k) 0 (.cons rfl (.cons rfl (.cons rfl (.cons rfl .nil)))) ?_ ?_ -- loop 0
  · exact ⟨hb1, S1, Nat.zero_le _⟩
  · rintro k w ⟨hb, S, hk⟩
    refine T.seq ?_
    refine T.region ?_ -- region 3
    refine Rg.ilt rfl rfl rfl ?_
    refine Rg.nil ?_
    refine T.seq ?_
    refine T.ifp rfl (fun c3 => ?_) (fun c3 => ?_)
    · -- c3 True
      refine T.skip ?_
      refine T.seq ?_
      refine T.block ?_
      refine T.seq ?_
      refine T.region ?_ -- region 4
      refine Rg.idx (M := M) Tryz.underlying32 I3 rfl rfl rfl hv (Step.below' S M).le (by omega) (fun u4 c hg4 hu4 => ?_) --@ptr RT.int .i64 ;; c
      refine Rg.loadi64 (M := M) Tryz.underlying3 rfl rfl hu4 (Le.refl _ _) (fun in4 => ?_)
      refine Rg.assign rfl rfl ?_
      refine Rg.nil ?_
      refine T.region ?_ -- region 5
      refine Rg.move rfl rfl ?_
      refine Rg.call rfl rfl E255 (sgn_spec c _) (fun r wc hc => ?_)
      obtain ⟨rfl, rfl⟩ := hc 
      refine Rg.call rfl rfl E254 (rune_spec _ (by have := sgn_rng c; omega) hb (by rw [Lib.byteCells_length]; have := textB_len (xs.take k); rw [List.length_take] at this; omega) S.size) (fun r5 w5 hc => ?_)
      obtain ⟨hb5, S5⟩ := hc 
      have tk : xs.take (k + 1) = xs.take k ++ [c] := by rw [List.take_add_one]; simp only [Int.toNat_natCast] at hg4; rw [hg4]; rfl
      rw [byteCells_snoc, ← tk] at hb5
      have S6 := S.trans S5
      refine Rg.nil ?_
      refine T.region ?_ -- region 6
      refine Rg.iadd rfl rfl rfl (by omega) ?_
      refine Rg.move rfl rfl ?_
      refine Rg.nil ?_
      refine ⟨rfl, k + 1, (.cons rfl (.cons rfl (.cons rfl (.cons rfl .nil)))), ?_, ?_⟩
      · exact ⟨hb5, S6, by omega⟩
      · omega
    · -- c3 False
      refine T.exit ?_
      refine T.seq ?_
      refine T.region ?_ -- region 7
      refine Rg.call rfl rfl E256 (str_spec _ hb S.size) (fun r7 w7 hc => ?_)
      obtain ⟨rfl, S7⟩ := hc 
      refine Rg.assign rfl rfl ?_
      refine Rg.nil ?_
      refine T.ret ?_
      have e : xs.take k = xs := List.take_of_length_le (by omega)
      rw [e]
      exact Kret1 rfl rfl ⟨rfl, Step.below' (S.trans S7) M⟩
end Go.K
namespace Go.K
set_option linter.unusedVariables false
set_option linter.unusedSimpArgs false
def nO (c : Int) : Int := if 194 ≤ c ∧ c < 224 then 2 else if 224 ≤ c ∧ c < 240 then 3 else if 240 ≤ c ∧ c < 245 then 4 else 0
def leastO (c : Int) : Int := if 194 ≤ c ∧ c < 224 then 128 else if 224 ≤ c ∧ c < 240 then 2048 else if 240 ≤ c ∧ c < 245 then 65536 else 0
def vO0 (c : Int) : Int := if 194 ≤ c ∧ c < 224 then c - 192 else if 224 ≤ c ∧ c < 240 then c - 224 else if 240 ≤ c ∧ c < 245 then c - 240 else 0
/-- the value of the first bytes -/
def vO (l : List UInt8) : Nat → Int
  | 0 => vO0 (atB l 0)
  | k + 1 => 64 * vO l k + atB l (k + 1) - 128
theorem contB_iff {l : List UInt8} {k : Nat} : contB l k = true ↔ k < l.length ∧ 128 ≤ atB l k ∧ atB l k < 192 := by
  unfold contB
  simp only [Bool.and_eq_true, decide_eq_true_eq, beq_iff_eq]
  omega
theorem valid_iff {n : Nat} : Utf8.valid (n : Int) = true ↔ (n < 55296 ∨ (57344 ≤ n ∧ n ≤ 1114111)) := by
  simp only [Utf8.valid, Bool.or_eq_true, Bool.and_eq_true, decide_eq_true_eq]
  omega
theorem dec_A {l : List UInt8} (h : (atB l 0 : Int) < 128) : dec l = (atB l 0, 1) := by
  unfold dec decG
  rw [if_pos (by omega)]
/-- the bytes behind the first one are not such as carry on -/
theorem dec_D {l : List UInt8} (h0 : 128 ≤ (atB l 0 : Int)) (h : nO (atB l 0) = 0 ∨ ∃ k : Nat, 1 ≤ k ∧ (k : Int) < nO (atB l 0) ∧ contB l k = false) : dec l = (65533, 1) := by
  have hb := atB_lt l 0
  unfold dec decG
  rw [if_neg (by omega)]
  have hk : nO (atB l 0) = 0 ∨ (2 ≤ nO (atB l 0) ∧ contB l 1 = false) ∨ (3 ≤ nO (atB l 0) ∧ contB l 2 = false) ∨ (4 ≤ nO (atB l 0) ∧ contB l 3 = false) := by
    rcases h with h | ⟨k, h1, h2, h3⟩
    · exact .inl h
    · have : nO (atB l 0) ≤ 4 := by
        unfold nO
        split
        · omega
        · split
          · omega
          · split <;> omega
      have hk : k = 1 ∨ k = 2 ∨ k = 3 := by omega
      rcases hk with rfl | rfl | rfl
      · exact .inr (.inl ⟨by omega, h3⟩)
      · exact .inr (.inr (.inl ⟨by omega, h3⟩))
      · exact .inr (.inr (.inr ⟨by omega, h3⟩))
  simp only [beq_iff_eq, Bool.and_eq_true, decide_eq_true_eq, ge_iff_le, valid_iff]
  have hn : nO (atB l 0) = if 194 ≤ (atB l 0 : Int) ∧ (atB l 0 : Int) < 224 then 2 else if 224 ≤ (atB l 0 : Int) ∧ (atB l 0 : Int) < 240 then 3 else if 240 ≤ (atB l 0 : Int) ∧ (atB l 0 : Int) < 245 then 4 else 0 := rfl
  rw [hn] at hk
  split
  · rename_i hc
    obtain ⟨hc1, hc2⟩ := hc
    split
    · rename_i hv
      exfalso
      by_cases h194 : 194 ≤ (atB l 0 : Int)
      · rw [if_pos (by omega)] at hk
        rcases hk with hk | ⟨_, hk⟩ | ⟨hk, _⟩ | ⟨hk, _⟩
        · omega
        · rw [hk] at hc2; cases hc2
        · omega
        · omega
      · omega
    · rfl
  · split
    · rename_i hc
      obtain ⟨⟨hc1, hc2⟩, hc3⟩ := hc
      split
      · exfalso
        rw [if_neg (by omega), if_pos (by omega)] at hk
        rcases hk with hk | ⟨_, hk⟩ | ⟨_, hk⟩ | ⟨hk, _⟩
        · omega
        · rw [hk] at hc2; cases hc2
        · rw [hk] at hc3; cases hc3
        · omega
      · rfl
    · split
      · rename_i hc
        obtain ⟨⟨⟨hc1, hc2⟩, hc3⟩, hc4⟩ := hc
        split
        · rename_i hv
          exfalso
          by_cases h245 : (atB l 0 : Int) < 245
          · rw [if_neg (by omega), if_neg (by omega), if_pos (by omega)] at hk
            rcases hk with hk | ⟨_, hk⟩ | ⟨_, hk⟩ | ⟨_, hk⟩
            · omega
            · rw [hk] at hc2; cases hc2
            · rw [hk] at hc3; cases hc3
            · rw [hk] at hc4; cases hc4
          · omega
        · rfl
      · rfl
theorem nO_cases {c : Int} (h : nO c ≠ 0) : (nO c = 2 ∧ leastO c = 128 ∧ vO0 c = c - 192 ∧ 194 ≤ c ∧ c < 224) ∨ (nO c = 3 ∧ leastO c = 2048 ∧ vO0 c = c - 224 ∧ 224 ≤ c ∧ c < 240) ∨ (nO c = 4 ∧ leastO c = 65536 ∧ vO0 c = c - 240 ∧ 240 ≤ c ∧ c < 245) := by
  by_cases h1 : 194 ≤ c ∧ c < 224
  · exact .inl ⟨if_pos h1, if_pos h1, if_pos h1, h1.1, h1.2⟩
  · by_cases h2 : 224 ≤ c ∧ c < 240
    · exact .inr (.inl ⟨(if_neg h1).trans (if_pos h2), (if_neg h1).trans (if_pos h2), (if_neg h1).trans (if_pos h2), h2.1, h2.2⟩)
    · by_cases h3 : 240 ≤ c ∧ c < 245
      · exact .inr (.inr ⟨(if_neg h1).trans ((if_neg h2).trans (if_pos h3)), (if_neg h1).trans ((if_neg h2).trans (if_pos h3)), (if_neg h1).trans ((if_neg h2).trans (if_pos h3)), h3.1, h3.2⟩)
      · exact absurd ((if_neg h1).trans ((if_neg h2).trans (if_neg h3))) h
/-- they are: the value says it -/
theorem dec_E {l : List UInt8} (hn : nO (atB l 0) ≠ 0) (hc : ∀ k : Nat, 1 ≤ k → (k : Int) < nO (atB l 0) → contB l k = true) (v : Int) (hv : v = vO l (nO (atB l 0) - 1).toNat) :
    dec l = if v < leastO (atB l 0) ∨ v > 1114111 ∨ (55296 ≤ v ∧ v ≤ 57343) then (65533, 1) else (v.toNat, (nO (atB l 0)).toNat) := by
  have hb := atB_lt l 0
  have b1 := atB_lt l 1
  have b2 := atB_lt l 2
  have b3 := atB_lt l 3
  unfold dec decG
  simp only [beq_iff_eq, Bool.and_eq_true, decide_eq_true_eq, ge_iff_le, valid_iff]
  rcases nO_cases hn with ⟨e1, e2, e3, e4, e5⟩ | ⟨e1, e2, e3, e4, e5⟩ | ⟨e1, e2, e3, e4, e5⟩
  · have c1 := hc 1 (by omega) (by omega)
    have d1 := contB_iff.1 c1
    rw [e1] at hv
    have hv2 : v = 64 * ((atB l 0 : Int) - 192) + atB l 1 - 128 := by rw [hv]; show 64 * vO0 (atB l 0) + _ - _ = _; rw [e3]
    rw [if_neg (by omega), if_pos ⟨by omega, c1⟩, e2, e1]
    by_cases hx : v < 128 ∨ v > 1114111 ∨ (55296 ≤ v ∧ v ≤ 57343)
    · rw [if_pos hx, if_neg (by omega)]
    · rw [if_neg hx, if_pos (by omega)]
      simp only [Prod.mk.injEq]; omega
  · have c1 := hc 1 (by omega) (by omega)
    have c2 := hc 2 (by omega) (by omega)
    have d1 := contB_iff.1 c1
    have d2 := contB_iff.1 c2
    rw [e1] at hv
    have hv2 : v = 64 * (64 * ((atB l 0 : Int) - 224) + atB l 1 - 128) + atB l 2 - 128 := by rw [hv]; show 64 * (64 * vO0 (atB l 0) + _ - _) + _ - _ = _; rw [e3]
    rw [if_neg (by omega), if_neg (by omega), if_pos ⟨⟨by omega, c1⟩, c2⟩, e2, e1]
    by_cases hx : v < 2048 ∨ v > 1114111 ∨ (55296 ≤ v ∧ v ≤ 57343)
    · rw [if_pos hx, if_neg (by omega)]
    · rw [if_neg hx, if_pos (by omega)]
      simp only [Prod.mk.injEq]; omega
  · have c1 := hc 1 (by omega) (by omega)
    have c2 := hc 2 (by omega) (by omega)
    have c3 := hc 3 (by omega) (by omega)
    have d1 := contB_iff.1 c1
    have d2 := contB_iff.1 c2
    have d3 := contB_iff.1 c3
    rw [e1] at hv
    have hv2 : v = 64 * (64 * (64 * ((atB l 0 : Int) - 240) + atB l 1 - 128) + atB l 2 - 128) + atB l 3 - 128 := by rw [hv]; show 64 * (64 * (64 * vO0 (atB l 0) + _ - _) + _ - _) + _ - _ = _; rw [e3]
    rw [if_neg (by omega), if_neg (by omega), if_neg (by omega), if_pos ⟨⟨⟨by omega, c1⟩, c2⟩, c3⟩, e2, e1]
    by_cases hx : v < 65536 ∨ v > 1114111 ∨ (55296 ≤ v ∧ v ≤ 57343)
    · rw [if_pos hx, if_neg (by omega)]
    · rw [if_neg hx, if_pos (by omega)]
      simp only [Prod.mk.injEq]; omega
end Go.K

/- The logic in which this claim's Go functions are walked: what is known of a frame's slots is a list; code, regions and operations have a rule each. No program is named here. -/
import Derived.RangeFuncNested
import Derived.TacticsIn
namespace Go.K
set_option linter.unusedVariables false
set_option linter.unusedSimpArgs false

/-! ### Frames: what is known of slots -/
abbrev Sl := List (Nat × Value)

def lk : Sl → Nat → Option Value
  | [], _ => none
  | (k, v) :: l, t => bif Nat.beq k t then some v else lk l t

structure Agree (n : Nat) (a : Act) (L : Sl) (ds : List Deferred) : Prop where
  size : n ≤ a.tmps.size
  defers : a.defers = ds
  at_ : ∀ t v, lk L t = some v → a.tmps[t]? = some v

def ev (L : Sl) : Operand → Option Value
  | .tmp t => lk L t
  | .const v => some v
  | .global g => some (.pointer (some ⟨g, 0, none⟩))
  | .func f => some (.func (.func f) #[] #[])

theorem Agree.eval {n a L ds} (h : Agree n a L ds) {x : Operand} {v : Value} (hx : ev L x = some v) : a.eval x = v := by
  cases x with
  | tmp t => simp only [ev] at hx; simp [Act.eval, h.at_ t v hx]
  | const u => simp only [ev] at hx; cases hx; rfl
  | global g => simp only [ev] at hx; cases hx; rfl
  | func f => simp only [ev] at hx; cases hx; rfl

theorem Agree.put {n a L ds} (h : Agree n a L ds) {d : Nat} (hd : d < n) (v : Value) : Agree n (a.put (some d) v) ((d, v) :: L) ds := by
  refine ⟨?_, h.defers, ?_⟩
  · simp only [Act.put, Array.size_setIfInBounds]; exact h.size
  · intro t u ht
    simp only [lk] at ht
    have hs := h.size
    by_cases e : d = t
    · subst e
      simp only [Nat.beq_refl, cond_true] at ht
      cases ht
      simp only [Act.put]
      rw [Array.getElem?_setIfInBounds]; simp; omega
    · have e' : Nat.beq d t = false := by
        cases hb : Nat.beq d t with
        | false => rfl
        | true => exact absurd (Nat.eq_of_beq_eq_true hb) e
      rw [e'] at ht
      simp only [cond_false] at ht
      simp only [Act.put]
      rw [Array.getElem?_setIfInBounds, if_neg e]
      exact h.at_ t u ht

/-- every fact of A is one of B -/
def Sub : Sl → Sl → Prop
  | [], _ => True
  | (t, v) :: A, B => lk B t = some v ∧ Sub A B

theorem Sub.nil {B : Sl} : Sub [] B := trivial
theorem Sub.cons {t : Nat} {v : Value} {A B : Sl} (h : lk B t = some v) (h' : Sub A B) : Sub ((t, v) :: A) B := ⟨h, h'⟩
theorem Sub.lk {A B : Sl} (h : Sub A B) {t : Nat} {v : Value} (ht : lk A t = some v) : lk B t = some v := by
  induction A with
  | nil => simp [K.lk] at ht
  | cons p A ih =>
    obtain ⟨k, u⟩ := p
    obtain ⟨h1, h2⟩ := h
    simp only [K.lk] at ht
    cases hb : Nat.beq k t with
    | true =>
      rw [hb] at ht; simp only [cond_true] at ht; cases ht
      rw [← Nat.eq_of_beq_eq_true hb]; exact h1
    | false => rw [hb] at ht; exact ih h2 ht

theorem Agree.sub {n a A B ds} (h : Agree n a B ds) (hs : Sub A B) : Agree n a A ds := ⟨h.size, h.defers, fun t v ht => h.at_ t v (hs.lk ht)⟩

/-! ### Fences: the widest one, in a round or not -/
abbrev FW (r : Option Nat) : Fence := { Fence.wide with round := r }
theorem FW_fn (r : Option Nat) (f : Nat) : (FW r).fn f := trivial
theorem FW_depth (r : Option Nat) : (FW r).depth = none := rfl

abbrev Kt := Exit → Sl → List Deferred → World → Prop

/-- what is asked of an activation, in terms of what is known of it -/
def up (n : Nat) (K : Kt) : Exit → Act → World → Prop := fun e a w => ∃ L ds, Agree n a L ds ∧ K e L ds w

structure T (P : Program) (r : Option Nat) (n : Nat) (c : Code) (L : Sl) (ds : List Deferred) (w : World) (K : Kt) : Prop where
  run : ∀ a, Agree n a L ds → c.wpIn (FW r) 0 P (up n K) a w

structure Rg (P : Program) (r : Option Nat) (n : Nat) (ops : Array Oper) (rest : List Oper) (L : Sl) (ds : List Deferred) (w : World) (K : Kt) : Prop where
  run : ∀ a, Agree n a L ds → wpListIn (FW r) 0 P ops (up n K) rest a w

@[reducible] def Kseq (k : Sl → List Deferred → World → Prop) (K : Kt) : Kt
  | .normal, L, ds, w => k L ds w
  | e, L, ds, w => K e L ds w

@[reducible] def Kblock (id : Nat) (K : Kt) : Kt
  | .exit id', L, ds, w => if id' = id then K .normal L ds w else K (.exit id') L ds w
  | e, L, ds, w => K e L ds w

section
variable {P : Program} {r : Option Nat} {n : Nat} {L : Sl} {ds : List Deferred} {w : World} {K : Kt}

theorem T.mono {c : Code} {K' : Kt} (h : T P r n c L ds w K) (hK : ∀ e L ds w, K e L ds w → K' e L ds w) : T P r n c L ds w K' :=
  ⟨fun a ha => wpIn_mono (h.run a ha) fun _ _ _ ⟨L, ds, h1, h2⟩ => ⟨L, ds, h1, hK _ _ _ _ h2⟩⟩

theorem T.weaken {c : Code} (L' : Sl) (hs : Sub L' L) (h : T P r n c L' ds w K) : T P r n c L ds w K := ⟨fun a ha => h.run a (ha.sub hs)⟩

theorem T.skip (h : K .normal L ds w) : T P r n .skip L ds w K := ⟨fun a ha => wpIn_skip ⟨L, ds, ha, h⟩⟩
theorem T.exit {id : Nat} (h : K (.exit id) L ds w) : T P r n (.exit id) L ds w K := ⟨fun a ha => wpIn_exit ⟨L, ds, ha, h⟩⟩
theorem T.goto {id : Nat} (h : K (.goto id) L ds w) : T P r n (.goto id) L ds w K := ⟨fun a ha => wpIn_goto ⟨L, ds, ha, h⟩⟩
theorem T.label {id : Nat} (h : K .normal L ds w) : T P r n (.label id) L ds w K := ⟨fun a ha => wpIn_label ⟨L, ds, ha, h⟩⟩
theorem T.ret (h : K .ret L ds w) : T P r n .ret L ds w K := ⟨fun a ha => wpIn_ret ⟨L, ds, ha, h⟩⟩

theorem T.seq {x y : Code} (h : T P r n x L ds w (Kseq (fun L ds w => T P r n y L ds w K) K)) : T P r n (.seq x y) L ds w K := by
  refine ⟨fun a ha => wpIn_seq (wpIn_mono (h.run a ha) ?_)⟩
  rintro e a' w' ⟨L', ds', ha', hK⟩
  cases e with
  | normal => exact hK.run a' ha'
  | exit id => exact ⟨L', ds', ha', hK⟩
  | goto id => exact ⟨L', ds', ha', hK⟩
  | ret => exact ⟨L', ds', ha', hK⟩
  | panic c => exact ⟨L', ds', ha', hK⟩
  | outgrown => exact ⟨L', ds', ha', hK⟩

theorem T.block {id : Nat} {c : Code} (h : T P r n c L ds w (Kblock id K)) : T P r n (.block id c) L ds w K := by
  refine ⟨fun a ha => wpIn_block (wpIn_mono (h.run a ha) ?_)⟩
  rintro e a' w' ⟨L', ds', ha', hK⟩
  cases e with
  | normal => exact ⟨L', ds', ha', hK⟩
  | exit id' =>
    simp only [Exit.inBlock]
    simp only [Kblock] at hK
    split
    · rename_i e'; rw [if_pos e'] at hK; exact ⟨L', ds', ha', hK⟩
    · rename_i e'; rw [if_neg e'] at hK; exact ⟨L', ds', ha', hK⟩
  | goto id => exact ⟨L', ds', ha', hK⟩
  | ret => exact ⟨L', ds', ha', hK⟩
  | panic c => exact ⟨L', ds', ha', hK⟩
  | outgrown => exact ⟨L', ds', ha', hK⟩

theorem T.cond {c : Operand} {x y : Code} {b : Bool} (hc : ev L c = some (.bool b)) (ht : b = true → T P r n x L ds w K) (hf : b = false → T P r n y L ds w K) :
    T P r n (.cond c x y) L ds w K := by
  refine ⟨fun a ha => ?_⟩
  have := ha.eval hc
  cases b with
  | true => exact wpIn_cond_true this ((ht rfl).run a ha)
  | false => exact wpIn_cond_false this ((hf rfl).run a ha)

theorem T.ifp {c : Operand} {x y : Code} {p : Prop} [Decidable p] (hc : ev L c = some (.bool (decide p))) (ht : p → T P r n x L ds w K) (hf : ¬ p → T P r n y L ds w K) :
    T P r n (.cond c x y) L ds w K := .cond hc (fun h => ht (of_decide_eq_true h)) (fun h => hf (of_decide_eq_false h))
theorem T.ift {c : Operand} {x y : Code} (hc : ev L c = some (.bool true)) (ht : T P r n x L ds w K) : T P r n (.cond c x y) L ds w K := .cond hc (fun _ => ht) (fun h => by cases h)
theorem T.iff {c : Operand} {x y : Code} (hc : ev L c = some (.bool false)) (hf : T P r n y L ds w K) : T P r n (.cond c x y) L ds w K := .cond hc (fun h => by cases h) (fun _ => hf)

theorem least {σ : Type} (m : σ → Nat) (p : σ → Prop) : (∃ s, p s) → ∃ s, p s ∧ ∀ s', p s' → m s ≤ m s' := by
  have key : ∀ k s, m s = k → p s → ∃ s, p s ∧ ∀ s', p s' → m s ≤ m s' := by
    intro k
    induction k using Nat.strongRecOn with
    | _ k ih =>
      intro s hs hp
      by_cases h : ∃ s', p s' ∧ m s' < k
      · obtain ⟨s', hp', hlt⟩ := h
        exact ih (m s') hlt s' rfl hp'
      · exact ⟨s, hp, fun s' hp' => by
          rcases Nat.lt_or_ge (m s') (m s) with h' | h'
          · exact absurd ⟨s', hp', hs ▸ h'⟩ h
          · exact h'⟩
  rintro ⟨s, hp⟩
  exact key _ s rfl hp

/-- A loop: its state is any type; what is known of the slots, and of memory, is said of that state. -/
theorem T.loop {σ : Type} {c : Code} (Lf : σ → Sl) (I : σ → World → Prop) (m : σ → Nat) (s0 : σ) (hL : Sub (Lf s0) L) (h0 : I s0 w)
    (round : ∀ s w, I s w → T P r n c (Lf s) ds w (Kseq (fun L' ds' w' => ds' = ds ∧ ∃ s', Sub (Lf s') L' ∧ I s' w' ∧ m s' < m s) K)) : T P r n (.loop c) L ds w K := by
  classical
  refine ⟨fun a ha => ?_⟩
  let J : σ → Act → World → Prop := fun s a w => Agree n a (Lf s) ds ∧ I s w
  let μ : Act → World → Nat := fun a w => if h : ∃ s, J s a w then m (Classical.choose (least m (J · a w) h)) else 0
  refine wpIn_loop (fun a w => ∃ s, J s a w) μ ⟨s0, ha.sub hL, h0⟩ ?_
  rintro a w hJ
  have hc := Classical.choose_spec (least m (J · a w) hJ)
  have hμ : μ a w = m (Classical.choose (least m (J · a w) hJ)) := by simp only [μ]; rw [dif_pos hJ]
  rw [hμ]
  generalize Classical.choose (least m (J · a w) hJ) = s at hc
  obtain ⟨⟨hs, hi⟩, _⟩ := hc
  refine wpIn_mono ((round s w hi).run a hs) ?_
  rintro e a' w' ⟨L', ds', ha', hK⟩
  cases e with
  | normal =>
    obtain ⟨rfl, s', hsub, hi', hlt⟩ := hK
    have hJ' : ∃ s, J s a' w' := ⟨s', ha'.sub hsub, hi'⟩
    refine ⟨hJ', ?_⟩
    have h2 := (Classical.choose_spec (least m (J · a' w') hJ')).2 s' ⟨ha'.sub hsub, hi'⟩
    simp only [μ]; rw [dif_pos hJ']; omega
  | exit id => exact ⟨L', ds', ha', hK⟩
  | goto id => exact ⟨L', ds', ha', hK⟩
  | ret => exact ⟨L', ds', ha', hK⟩
  | panic c => exact ⟨L', ds', ha', hK⟩
  | outgrown => exact ⟨L', ds', ha', hK⟩

/-! ### Regions in the text's order -/
theorem T.region {id : Nat} {l : List Oper} (h : Rg P r n l.toArray l L ds w K) : T P r n (.region id l.toArray false) L ds w K :=
  ⟨fun a ha => wpIn_region_lit (h.run a ha)⟩

variable {ops : Array Oper} {rest : List Oper} {o : Oper}

theorem Rg.nil (h : K .normal L ds w) : Rg P r n ops [] L ds w K := ⟨fun _ ha => wpListIn_nil ⟨L, ds, ha, h⟩⟩

theorem Rg.weaken (L' : Sl) (hs : Sub L' L) (h : Rg P r n ops rest L' ds w K) : Rg P r n ops rest L ds w K := ⟨fun a ha => h.run a (ha.sub hs)⟩

/-- no call of a function -/
def notCall (o : Oper) : Prop := (∀ c, o.op ≠ .defer c)

theorem op_wp (hnd : ∀ c, o.op ≠ .defer c) {a : Act} {next : Act → World → Prop} {Q : Exit → Act → World → Prop}
    (h : o.uponIn (FW r) 0 P a next Q ((execOp a.eval o).run P w)) : o.wpIn (FW r) 0 P a w next Q :=
  ⟨fun _ _ => trivial, by rw [Oper.semAt_eq _ _ _ hnd]; exact h⟩

/-- the general rule of an operation that yields a value -/
theorem Rg.op (hnd : ∀ c, o.op ≠ .defer c) (hg : o.guard = none) {d : Nat} (hd : o.dst = some d) (hdn : Nat.blt d n = true) (v : Value) (w' : World)
    (hrun : ∀ ρ : Operand → Value, (∀ x u, ev L x = some u → ρ x = u) → (execOp ρ o).run P w = .ok (.value v) w')
    (h : Rg P r n ops rest ((d, v) :: L) ds w' K) : Rg P r n ops (o :: rest) L ds w K := by
  refine ⟨fun a ha => wpListIn_plain hg fun K' hK' => op_wp hnd ?_⟩
  rw [hrun a.eval (fun x u hx => ha.eval hx), Oper.uponIn_value, hd]
  exact hK' _ _ (h.run _ (ha.put (by simpa [Nat.blt_eq] using hdn) v))

/-- an operation without a value (a store) -/
theorem Rg.opu (hnd : ∀ c, o.op ≠ .defer c) (hg : o.guard = none) (hd : o.dst = none) (w' : World)
    (hrun : ∀ ρ : Operand → Value, (∀ x u, ev L x = some u → ρ x = u) → (execOp ρ o).run P w = .ok .skip w')
    (h : Rg P r n ops rest L ds w' K) : Rg P r n ops (o :: rest) L ds w K := by
  refine ⟨fun a ha => wpListIn_plain hg fun K' hK' => op_wp hnd ?_⟩
  rw [hrun a.eval (fun x u hx => ha.eval hx), Oper.uponIn_skip, hd]
  exact hK' _ _ (h.run _ ha)

/-- a contract: the call returns, and what it returns is such and such -/
def Spec (P : Program) (f : FuncId) (args : Array Value) (w : World) (Q : Value → World → Prop) : Prop :=
  Calls P f args w fun e w' => ∃ v, e = .returned v ∧ Q v w'

theorem Spec.mono {f : FuncId} {args : Array Value} {Q Q' : Value → World → Prop} (h : Spec P f args w Q) (hq : ∀ v w', Q v w' → Q' v w') : Spec P f args w Q' :=
  Calls.mono h fun _ _ ⟨v, he, hv⟩ => ⟨v, he, hq _ _ hv⟩

theorem Rg.opcall (hnd : ∀ c, o.op ≠ .defer c) (hg : o.guard = none) {d : Nat} (hd : o.dst = some d) (hdn : Nat.blt d n = true) {f : FuncId} {args : Array Value} {w1 : World} {Q : Value → World → Prop}
    (hrun : ∀ ρ : Operand → Value, (∀ x u, ev L x = some u → ρ x = u) → (execOp ρ o).run P w = .ok (.enter f args) w1)
    (hs : Spec P f args w1 Q) (h : ∀ v w', Q v w' → Rg P r n ops rest ((d, v) :: L) ds w' K) : Rg P r n ops (o :: rest) L ds w K := by
  refine ⟨fun a ha => wpListIn_plain hg fun K' hK' => op_wp hnd ?_⟩
  rw [hrun a.eval (fun x u hx => ha.eval hx), Oper.uponIn_enter, hd]
  refine ⟨fun h => by simp [FW, Fence.wide] at h, ?_⟩
  have hc : CallsIn (FW r) (0 - 1) P f args w1 fun e w' => ∃ v, e = .returned v ∧ Q v w' := by
    cases r with
    | none => exact callsIn_wide.2 hs
    | some l => exact CallsIn.inRound l (callsIn_wide.2 hs)
  refine hc.mono ?_
  rintro e w' ⟨v, rfl, hv⟩
  exact hK' _ _ ((h v w' hv).run _ (ha.put (by simpa [Nat.blt_eq] using hdn) v))

theorem Rg.opcallu (hnd : ∀ c, o.op ≠ .defer c) (hg : o.guard = none) (hd : o.dst = none) {f : FuncId} {args : Array Value} {w1 : World} {Q : Value → World → Prop}
    (hrun : ∀ ρ : Operand → Value, (∀ x u, ev L x = some u → ρ x = u) → (execOp ρ o).run P w = .ok (.enter f args) w1)
    (hs : Spec P f args w1 Q) (h : ∀ v w', Q v w' → Rg P r n ops rest L ds w' K) : Rg P r n ops (o :: rest) L ds w K := by
  refine ⟨fun a ha => wpListIn_plain hg fun K' hK' => op_wp hnd ?_⟩
  rw [hrun a.eval (fun x u hx => ha.eval hx), Oper.uponIn_enter, hd]
  refine ⟨fun h => by simp [FW, Fence.wide] at h, ?_⟩
  have hc : CallsIn (FW r) (0 - 1) P f args w1 fun e w' => ∃ v, e = .returned v ∧ Q v w' := by
    cases r with
    | none => exact callsIn_wide.2 hs
    | some l => exact CallsIn.inRound l (callsIn_wide.2 hs)
  refine hc.mono ?_
  rintro e w' ⟨v, rfl, hv⟩
  exact hK' _ _ ((h v w' hv).run _ ha)

/-! ### Guards -/
/-- the slot that a guard asks -/
def gslot (ops : Array Oper) (j : Nat) : Option Nat := (ops[j]?).bind (·.dst)

theorem yielded_of {a : Act} (ha : Agree n a L ds) {j g : Nat} {b : Bool} (hj : gslot ops j = some g) (hb : lk L g = some (.bool b)) : yielded ops a.tmps j = some b := by
  unfold yielded; unfold gslot at hj; rw [hj]; simp [ha.at_ g _ hb]

theorem Rg.gsplit {g : Nat} {b : Bool} (hb : lk L g = some (.bool b)) (ht : b = true → Rg P r n ops rest ((g, .bool true) :: L) ds w K) (hf : b = false → Rg P r n ops rest ((g, .bool false) :: L) ds w K) :
    Rg P r n ops rest L ds w K := by
  have key : ∀ c, b = c → ∀ t v, lk ((g, .bool c) :: L) t = some v → lk L t = some v := by
    rintro c rfl t v h
    simp only [lk] at h
    cases hbq : Nat.beq g t with
    | true => rw [hbq] at h; simp only [cond_true] at h; rw [← Nat.eq_of_beq_eq_true hbq, hb]; exact h
    | false => rw [hbq] at h; exact h
  refine ⟨fun a ha => ?_⟩
  cases b with
  | true => exact (ht rfl).run a ⟨ha.size, ha.defers, fun t v h => ha.at_ t v (key true rfl t v h)⟩
  | false => exact (hf rfl).run a ⟨ha.size, ha.defers, fun t v h => ha.at_ t v (key false rfl t v h)⟩

theorem Rg.gsplitp {g : Nat} {p : Prop} [Decidable p] (hb : lk L g = some (.bool (decide p))) (ht : p → Rg P r n ops rest ((g, .bool true) :: L) ds w K) (hf : ¬ p → Rg P r n ops rest ((g, .bool false) :: L) ds w K) :
    Rg P r n ops rest L ds w K := .gsplit hb (fun h => ht (of_decide_eq_true h)) (fun h => hf (of_decide_eq_false h))

theorem Rg.gtrue {g : Nat} {p : Prop} [Decidable p] (hb : lk L g = some (.bool (decide p))) (hp : p) (k : Rg P r n ops rest ((g, .bool true) :: L) ds w K) : Rg P r n ops rest L ds w K :=
  .gsplitp hb (fun _ => k) (fun h => absurd hp h)
theorem Rg.gfalse {g : Nat} {p : Prop} [Decidable p] (hb : lk L g = some (.bool (decide p))) (hp : ¬ p) (k : Rg P r n ops rest ((g, .bool false) :: L) ds w K) : Rg P r n ops rest L ds w K :=
  .gsplitp hb (fun h => absurd h hp) (fun _ => k)
theorem T.iftp {c : Operand} {x y : Code} {p : Prop} [Decidable p] (hc : ev L c = some (.bool (decide p))) (hp : p) (h : T P r n x L ds w K) : T P r n (.cond c x y) L ds w K := .ifp hc (fun _ => h) (fun h => absurd hp h)
theorem T.iffp {c : Operand} {x y : Code} {p : Prop} [Decidable p] (hc : ev L c = some (.bool (decide p))) (hp : ¬ p) (h : T P r n y L ds w K) : T P r n (.cond c x y) L ds w K := .ifp hc (fun h => absurd h hp) (fun _ => h)

/-- the guard says yes: the operation is as one without a guard -/
theorem Rg.gyes {dst : Option Nat} {op : Op} {ty : TypeId} {pos : String} {af : Array Edge} {j g : Nat} {b : Bool} (hj : gslot ops j = some g) (hb : lk L g = some (.bool b))
    (h : Rg P r n ops ({ dst, op, type := ty, pos, after := af, guard := none } :: rest) L ds w K) : Rg P r n ops ({ dst, op, type := ty, pos, after := af, guard := some (j, b) } :: rest) L ds w K := by
  refine ⟨fun a ha => ?_⟩
  have h1 := h.run a ha
  have hy := yielded_of ha hj hb
  simp only [wpListIn, Region.wanted, if_true] at h1
  simp only [wpListIn, Region.wanted, hy, beq_self_eq_true, if_true]
  exact h1

theorem Rg.gno {d : Nat} {op : Op} {ty : TypeId} {pos : String} {af : Array Edge} {j g : Nat} {b c : Bool} (hj : gslot ops j = some g) (hb : lk L g = some (.bool b)) (hne : (b == c) = false)
    (hdn : Nat.blt d n = true) (h : Rg P r n ops rest ((d, undef) :: L) ds w K) : Rg P r n ops ({ dst := some d, op, type := ty, pos, after := af, guard := some (j, c) } :: rest) L ds w K := by
  refine ⟨fun a ha => ?_⟩
  have hy := yielded_of ha hj hb
  have hne' : b ≠ c := by simpa using hne
  simp only [wpListIn, Region.wanted, hy]
  rw [if_neg (by simpa using hne')]
  exact ⟨fun _ _ => trivial, h.run _ (ha.put (by simpa [Nat.blt_eq] using hdn) undef)⟩

theorem Rg.gnou {op : Op} {ty : TypeId} {pos : String} {af : Array Edge} {j g : Nat} {b c : Bool} (hj : gslot ops j = some g) (hb : lk L g = some (.bool b)) (hne : (b == c) = false)
    (h : Rg P r n ops rest L ds w K) : Rg P r n ops ({ dst := none, op, type := ty, pos, after := af, guard := some (j, c) } :: rest) L ds w K := by
  refine ⟨fun a ha => ?_⟩
  have hy := yielded_of ha hj hb
  have hne' : b ≠ c := by simpa using hne
  simp only [wpListIn, Region.wanted, hy]
  rw [if_neg (by simpa using hne')]
  exact ⟨fun _ _ => trivial, h.run _ ha⟩
end

section
variable {P : Program} {r : Option Nat} {n : Nat} {L : Sl} {ds : List Deferred} {w : World} {K : Kt} {ops : Array Oper} {rest : List Oper}
theorem yielded_undef {a : Act} (ha : Agree n a L ds) {j g : Nat} (hj : gslot ops j = some g) (hb : lk L g = some undef) : yielded ops a.tmps j = none := by
  unfold yielded; unfold gslot at hj; rw [hj]; simp [ha.at_ g _ hb, undef]
/-- the guard itself was passed over -/
theorem Rg.gnox {d : Nat} {op : Op} {ty : TypeId} {pos : String} {af : Array Edge} {j g : Nat} {c : Bool} (hj : gslot ops j = some g) (hb : lk L g = some undef)
    (hdn : Nat.blt d n = true) (h : Rg P r n ops rest ((d, undef) :: L) ds w K) : Rg P r n ops ({ dst := some d, op, type := ty, pos, after := af, guard := some (j, c) } :: rest) L ds w K := by
  refine ⟨fun a ha => ?_⟩
  have hy := yielded_undef ha hj hb
  simp only [wpListIn, Region.wanted, hy]
  rw [if_neg (by simp)]
  exact ⟨fun _ _ => trivial, h.run _ (ha.put (by simpa [Nat.blt_eq] using hdn) undef)⟩
theorem Rg.gnoxu {op : Op} {ty : TypeId} {pos : String} {af : Array Edge} {j g : Nat} {c : Bool} (hj : gslot ops j = some g) (hb : lk L g = some undef)
    (h : Rg P r n ops rest L ds w K) : Rg P r n ops ({ dst := none, op, type := ty, pos, after := af, guard := some (j, c) } :: rest) L ds w K := by
  refine ⟨fun a ha => ?_⟩
  have hy := yielded_undef ha hj hb
  simp only [wpListIn, Region.wanted, hy]
  rw [if_neg (by simp)]
  exact ⟨fun _ _ => trivial, h.run _ ha⟩
end

/-! ### Functions -/
/-- what the slots hold when a function begins: its arguments -/
def enterL : Nat → List Value → Sl
  | _, [] => []
  | i, v :: l => (i, v) :: enterL (i + 1) l

theorem lk_enterL (l : List Value) : ∀ (i t : Nat) (v : Value), lk (enterL i l) t = some v → i ≤ t ∧ l[t - i]? = some v := by
  induction l with
  | nil => intro i t v h; simp [enterL, lk] at h
  | cons u l ih =>
    intro i t v h
    simp only [enterL, lk] at h
    cases hb : Nat.beq i t with
    | true =>
      rw [hb] at h; simp only [cond_true] at h; cases h
      have := Nat.eq_of_beq_eq_true hb
      subst this
      exact ⟨Nat.le_refl _, by simp⟩
    | false =>
      rw [hb] at h
      obtain ⟨h1, h2⟩ := ih (i + 1) t v h
      refine ⟨by omega, ?_⟩
      rw [show t - i = (t - (i + 1)) + 1 from by omega]
      simpa using h2

/-- what is asked where a function's code is left -/
def Kret (P : Program) (fn : Func) (Q : Value → World → Prop) : Kt
  | .normal, L, ds, w | .ret, L, ds, w => ds = [] ∧ ∀ a : Act, (∀ t v, lk L t = some v → a.tmps[t]? = some v) → ∃ v, (results fn a.tmps).run P w = .ok v w ∧ Q v w
  | _, _, _, _ => False

theorem spec_of {P : Program} {f : FuncId} {fn : Func} {c : Code} {args : List Value} {w : World} {Q : Value → World → Prop} (hf : P.funcs[f]? = some fn) (hb : fn.body = some c) {n : Nat} (hn : fn.ntmps = n)
    (h : T P none n c (enterL 0 args) [] w (Kret P fn Q)) : Spec P f args.toArray w Q := by
  refine (callsIn_wide (n := 0)).1 (callsIn_of_wp hf hb trivial ?_)
  refine wpIn_mono (h.run _ ⟨?_, rfl, ?_⟩) ?_
  · simp [hn]; omega
  · intro t v ht
    obtain ⟨_, h2⟩ := lk_enterL args 0 t v ht
    simp only [Nat.sub_zero] at h2
    have hlt : t < args.length := (List.getElem?_eq_some_iff.1 h2).1
    simp only
    rw [Array.getElem?_append_left (by simpa using hlt)]
    simpa using h2
  · rintro e a w' ⟨L, ds, ha, hK⟩
    cases e with
    | normal => obtain ⟨h1, h2⟩ := hK; obtain ⟨v, h3, h4⟩ := h2 a ha.at_; exact ⟨ha.defers.trans h1, v, h3, v, rfl, h4⟩
    | ret => obtain ⟨h1, h2⟩ := hK; obtain ⟨v, h3, h4⟩ := h2 a ha.at_; exact ⟨ha.defers.trans h1, v, h3, v, rfl, h4⟩
    | exit id => exact hK.elim
    | goto id => exact hK.elim
    | panic c => exact hK.elim
    | outgrown => exact hK.elim

section
variable {P : Program} {fn : Func} {L : Sl} {w : World} {Q : Value → World → Prop}
/-- one result in a slot -/
theorem Kret1 {t : Nat} {v : Value} (hr : fn.results = #[.tmp t]) (hv : lk L t = some v) (h : Q v w) :
    Kret P fn Q .ret L [] w :=
  ⟨rfl, fun a ha => ⟨v, by simp [results, hr, ha t v hv], h⟩⟩
theorem Kret0 (hr : fn.results = #[]) (h : Q (.tuple #[]) w) :
    Kret P fn Q .ret L [] w :=
  ⟨rfl, fun a ha => ⟨_, by simp [results, hr], h⟩⟩
theorem Kret2 {t u : Nat} {x y : Value} (hr : fn.results = #[.tmp t, .tmp u]) (hx : lk L t = some x) (hy : lk L u = some y) (h : Q (.tuple #[x, y]) w) :
    Kret P fn Q .ret L [] w :=
  ⟨rfl, fun a ha => ⟨_, by simp [results, hr, ha _ _ hx, ha _ _ hy], h⟩⟩
theorem Kret3 {t u s : Nat} {x y z : Value} (hr : fn.results = #[.tmp t, .tmp u, .tmp s]) (hx : lk L t = some x) (hy : lk L u = some y) (hz : lk L s = some z) (h : Q (.tuple #[x, y, z]) w) :
    Kret P fn Q .ret L [] w :=
  ⟨rfl, fun a ha => ⟨_, by simp [results, hr, ha _ _ hx, ha _ _ hy, ha _ _ hz], h⟩⟩
end

end Go.K

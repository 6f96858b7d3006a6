/- A region whose operations come in any order that its edges allow: each is walked by itself, in whatever world the others may have left; what it yields is said by an assertion that later worlds keep. No program is named here. -/
import Derived.Test.YtohfoenhmkfjkaaGreatDoorKHeap
import Derived.Orders
namespace Go.K
set_option linter.unusedVariables false
set_option linter.unusedSimpArgs false

/-- what may be said of a value; U: the blocks whose writing it bears -/
structure Asr (M : PSet) where
  p : Value → World → Prop
  U : PSet
  mono : ∀ {v w w' N}, p v w → Step M w M w' N → (∀ b, N b → U b) → p v w'

def allB : PSet := fun _ => True
def Asr.eq {M : PSet} (c : Value) : Asr M := ⟨fun v _ => v = c, allB, fun h _ _ => h⟩
def Asr.top {M : PSet} : Asr M := ⟨fun _ _ => True, allB, fun _ _ _ => trivial⟩
def Asr.V {M : PSet} {α : Type} (A : RT α) (x : α) : Asr M := ⟨fun v w => A.V M w x v, allB, fun h s _ => h.le s.le⟩
def Asr.ptr {M : PSet} {α : Type} (A : RT α) (x : α) (hn : 0 < A.n := by decide) : Asr M := ⟨fun v w => PtrTo A M w v x, allB, fun h s _ => h.le hn s.le⟩
def Asr.pure {M : PSet} (q : Value → Prop) : Asr M := ⟨fun v _ => q v, allB, fun h _ _ => h⟩
def Asr.mk' {M : PSet} (p : Value → World → Prop) (mono : ∀ {v w w'}, p v w → Step M w M w' none' → p v w') : Asr M := ⟨p, none', fun h s hN => mono h (s.widen hN fun _ hb => hb.elim)⟩
/-- a block holds just this -/
def Asr.cell {M : PSet} (b : Nat) (o : Obj) : Asr M := ⟨fun _ w => w.heap[b]? = some o, fun k => k ≠ b, fun h s hN => s.keep h (fun hb => hN _ hb rfl)⟩

def unions : List PSet → PSet
  | [] => none'
  | [N] => N
  | N :: Ns => fun b => N b ∨ unions Ns b
theorem unions_iff : ∀ {Ns : List PSet} {b : Nat}, unions Ns b ↔ ∃ N ∈ Ns, N b
  | [], b => by simp [unions, none']
  | [N], b => by simp [unions]
  | N :: N' :: Ns, b => by
    have := unions_iff (Ns := N' :: Ns) (b := b)
    simp only [unions]
    rw [this]; simp

def preds (o : Oper) : List Nat := (o.after.toList.filter (Region.binds .any)).map (·.on)
def keepB (l : List Oper) (j t : Nat) : Bool := l.all fun o => !(o.dst == some t) || (preds o).contains j
def baseL (l : List Oper) (j : Nat) (L : Sl) : Sl := L.filter fun p => keepB l j p.1
def putL (d : Option Nat) (v : Value) (L : Sl) : Sl := match d with | some d => (d, v) :: L | none => L

/-- edges lead back, and no two operations have one slot -/
def lexOk : List Oper → Nat → Bool
  | [], _ => true
  | o :: l, k => (preds o).all (Nat.blt · k) && (match o.dst with | some d => l.all (fun o' => !(o'.dst == some d)) | none => true) && lexOk l (k + 1)

/-- what an operation writes; what others may have written ahead of it -/
def ownE (E : List (Nat × PSet)) (j : Nat) : PSet := unions ((E.filter fun p => p.1 == j).map (·.2))
def preE (l : List Oper) (E : List (Nat × PSet)) (j : Nat) : PSet := unions ((E.filter fun p => !(p.1 == j) && !((l[p.1]?.map preds).getD []).contains j).map (·.2))
/-- an assertion bears what may be written behind it -/
def UOk {M : PSet} (E : List (Nat × PSet)) : List Oper → List (Asr M) → Nat → Prop
  | o :: os, s :: ss, i => (∀ p ∈ E.filter (fun p => !(p.1 == i) && !(preds o).contains p.1), ∀ b, p.2 b → s.U b) ∧ UOk E os ss (i + 1)
  | _, _, _ => True
theorem UOk.get {M : PSet} {E : List (Nat × PSet)} : ∀ {os : List Oper} {ss : List (Asr M)} {k : Nat}, UOk E os ss k → ∀ i o s, os[i]? = some o → ss[i]? = some s → ∀ p ∈ E, p.1 ≠ k + i → ¬ p.1 ∈ preds o → ∀ b, p.2 b → s.U b
  | [], _, _, _, i, _, _, h, _, _, _, _, _, _, _ => by simp at h
  | _ :: _, [], _, _, i, _, _, _, h, _, _, _, _, _, _ => by simp at h
  | x :: os, y :: ss, k, h, 0, o, s, ho, hs, p, hp, h1, h2, b, hb => by
    simp at ho hs; subst ho; subst hs
    exact h.1 p (List.mem_filter.2 ⟨hp, by simp; exact ⟨h1, h2⟩⟩) b hb
  | x :: os, y :: ss, k, h, i + 1, o, s, ho, hs, p, hp, h1, h2, b, hb => UOk.get h.2 i o s (by simpa using ho) (by simpa using hs) p hp (by omega) h2 b hb

/-- what one operation said stays, whatever another one, that does not come ahead of it, does: by what that one says -/
def StOk {M : PSet} (F : List (Nat × PSet)) (l : List Oper) (S : List (Asr M)) : Prop :=
  ∀ i o s j oj sj, l[i]? = some o → S[i]? = some s → l[j]? = some oj → S[j]? = some sj → j ≠ i → ¬ j ∈ preds o → ∀ v vj w w', s.p v w → Step M w M w' (ownE F j) → sj.p vj w' → s.p v w'
theorem ownE_mem {F : List (Nat × PSet)} {j b : Nat} (hb : ownE F j b) : ∃ p ∈ F, p.1 = j ∧ p.2 b := by
  obtain ⟨N, hN, hNb⟩ := unions_iff.1 hb
  obtain ⟨p, hp, rfl⟩ := List.mem_map.1 hN
  obtain ⟨h1, h2⟩ := List.mem_filter.1 hp
  exact ⟨p, h1, by simpa using h2, hNb⟩
theorem UOk.st {M : PSet} {F : List (Nat × PSet)} {l : List Oper} {S : List (Asr M)} (h : UOk F l S 0) : StOk F l S := fun i o s j oj sj ho hs _ _ hne hnp v vj w w' hp st _ =>
  s.mono hp st fun b hb => by
    obtain ⟨p, h1, h6, h7⟩ := ownE_mem hb
    exact h.get i o s ho hs p h1 (by omega) (by rw [h6]; exact hnp) b h7
/-- the same, but for some pairs -/
def UOkX {M : PSet} (X : List (Nat × Nat)) (E : List (Nat × PSet)) : List Oper → List (Asr M) → Nat → Prop
  | o :: os, s :: ss, i => (∀ p ∈ E.filter (fun p => !(p.1 == i) && !(preds o).contains p.1 && !X.contains (i, p.1)), ∀ b, p.2 b → s.U b) ∧ UOkX X E os ss (i + 1)
  | _, _, _ => True
theorem UOkX.get {M : PSet} {X : List (Nat × Nat)} {E : List (Nat × PSet)} : ∀ {os : List Oper} {ss : List (Asr M)} {k : Nat}, UOkX X E os ss k → ∀ i o s, os[i]? = some o → ss[i]? = some s → ∀ p ∈ E, p.1 ≠ k + i → ¬ p.1 ∈ preds o → X.contains (k + i, p.1) = false → ∀ b, p.2 b → s.U b
  | [], _, _, _, i, _, _, h, _, _, _, _, _, _, _, _ => by simp at h
  | _ :: _, [], _, _, i, _, _, _, h, _, _, _, _, _, _, _ => by simp at h
  | x :: os, y :: ss, k, h, 0, o, s, ho, hs, p, hp, h1, h2, hx, b, hb => by
    simp at ho hs; subst ho; subst hs
    exact h.1 p (List.mem_filter.2 ⟨hp, by simp only [Nat.add_zero] at hx h1; rw [hx]; simp; exact ⟨h1, h2⟩⟩) b hb
  | x :: os, y :: ss, k, h, i + 1, o, s, ho, hs, p, hp, h1, h2, hx, b, hb => UOkX.get h.2 i o s (by simpa using ho) (by simpa using hs) p hp (by omega) h2 (by rw [show k + 1 + i = k + (i + 1) from by omega]; exact hx) b hb
theorem StOk.of {M : PSet} {F : List (Nat × PSet)} {l : List Oper} {S : List (Asr M)} (X : List (Nat × Nat)) (h : UOkX X F l S 0)
    (hx : ∀ x ∈ X, ∀ s sj, S[x.1]? = some s → S[x.2]? = some sj → ∀ v vj w w', s.p v w → Step M w M w' (ownE F x.2) → sj.p vj w' → s.p v w') : StOk F l S := fun i o s j oj sj ho hs hoj hsj hne hnp v vj w w' hp st hpj => by
  by_cases hc : X.contains (i, j) = true
  · exact hx (i, j) (by simpa using hc) s sj hs hsj v vj w w' hp st hpj
  · exact s.mono hp st fun b hb => by
      obtain ⟨p, h1, h6, h7⟩ := ownE_mem hb
      exact h.get i o s ho hs p h1 (by omega) (by rw [h6]; exact hnp) (by rw [h6, Nat.zero_add]; simpa using hc) b h7

def Kone {M : PSet} (E : List (Nat × PSet)) (j : Nat) (d : Option Nat) (s : Asr M) (w0 : World) (L : Sl) (ds : List Deferred) : Kt := fun e L' ds' w' => e = .normal ∧ ds' = ds ∧ ∃ v, L' = putL d v L ∧ s.p v w' ∧ Step M w0 M w' (ownE E j)

/-- the values of those that come ahead -/
def PredsP {M : PSet} (l : List Oper) (S : List (Asr M)) (w : World) (k : Sl → Prop) : List Nat → Sl → Prop
  | [], acc => k acc
  | i :: is, acc => match l[i]?, S[i]? with
    | some o, some s => match o.dst with
      | some d => ∀ v, s.p v w → PredsP l S w k is ((d, v) :: acc)
      | none => ∀ v, s.p v w → PredsP l S w k is acc
    | _, _ => PredsP l S w k is acc

def EndP {M : PSet} (w : World) (k : Sl → Prop) : List Oper → List (Asr M) → Sl → Prop
  | o :: os, s :: ss, acc => match o.dst with
    | some d => ∀ v, s.p v w → EndP w k os ss ((d, v) :: acc)
    | none => ∀ v, s.p v w → EndP w k os ss acc
  | _, _, acc => k acc

def Obl (P : Program) (r : Option Nat) (n : Nat) {M : PSet} (F : List (Nat × PSet)) (w : World) (l : List Oper) (S : List (Asr M)) (ds : List Deferred) (L : Sl) (j : Nat) (o : Oper) (s : Asr M) : Prop :=
  ∀ w' E, Step M w M w' (preE l F j) → PredsP l S w' (fun acc => Rg P r n l.toArray [o] (acc ++ (baseL l j L ++ E)) ds w' (Kone F j o.dst s w' (acc ++ (baseL l j L ++ E)) ds)) (preds o) []

def Obls (P : Program) (r : Option Nat) (n : Nat) {M : PSet} (F : List (Nat × PSet)) (w : World) (l : List Oper) (S : List (Asr M)) (ds : List Deferred) (L : Sl) : List Oper → List (Asr M) → Nat → Prop
  | o :: os, s :: ss, j => Obl P r n F w l S ds L j o s ∧ Obls P r n F w l S ds L os ss (j + 1)
  | [], _, _ => True
  | _ :: _, [], _ => False

theorem Obls.cons {P : Program} {r : Option Nat} {n : Nat} {M : PSet} {F : List (Nat × PSet)} {w : World} {l : List Oper} {S : List (Asr M)} {ds : List Deferred} {L : Sl} {o : Oper} {os : List Oper} {s : Asr M} {ss : List (Asr M)} {j : Nat}
    (h : Obl P r n F w l S ds L j o s) (h' : Obls P r n F w l S ds L os ss (j + 1)) : Obls P r n F w l S ds L (o :: os) (s :: ss) j := ⟨h, h'⟩
theorem Obls.nil {P : Program} {r : Option Nat} {n : Nat} {M : PSet} {F : List (Nat × PSet)} {w : World} {l : List Oper} {S : List (Asr M)} {ds : List Deferred} {L : Sl} {ss : List (Asr M)} {j : Nat} : Obls P r n F w l S ds L [] ss j := by
  unfold Obls; trivial

section
variable {P : Program} {r : Option Nat} {n : Nat} {L : Sl} {ds : List Deferred} {w : World} {K : Kt} {M : PSet} {F : List (Nat × PSet)}

theorem lk_append {A B : Sl} {t : Nat} {v : Value} (h : lk (A ++ B) t = some v) : lk A t = some v ∨ lk B t = some v := by
  induction A with
  | nil => exact .inr h
  | cons p A ih =>
    obtain ⟨k, u⟩ := p
    simp only [List.cons_append, lk] at h ⊢
    cases hb : Nat.beq k t with
    | true => rw [hb] at h; exact .inl h
    | false => rw [hb] at h; exact ih h
theorem lk_append_some {A B : Sl} {t : Nat} (h : ∃ v, lk B t = some v) : ∃ v, lk (A ++ B) t = some v := by
  induction A with
  | nil => exact h
  | cons p A ih =>
    obtain ⟨k, u⟩ := p
    simp only [List.cons_append, lk]
    cases hb : Nat.beq k t with
    | true => exact ⟨u, rfl⟩
    | false => exact ih
theorem lk_filter {f : Nat → Bool} {A : Sl} {t : Nat} {v : Value} (h : lk (A.filter fun p => f p.1) t = some v) : f t = true ∧ lk A t = some v := by
  induction A with
  | nil => simp [lk] at h
  | cons p A ih =>
    obtain ⟨k, u⟩ := p
    rw [List.filter_cons] at h
    split at h
    · rename_i hf
      simp only [lk] at h ⊢
      cases hb : Nat.beq k t with
      | true =>
        rw [hb] at h
        rw [← Nat.eq_of_beq_eq_true hb]
        exact ⟨hf, h⟩
      | false => rw [hb] at h; exact ih h
    · rename_i hf
      obtain ⟨h1, h2⟩ := ih h
      refine ⟨h1, ?_⟩
      simp only [lk]
      cases hb : Nat.beq k t with
      | true => rw [Nat.eq_of_beq_eq_true hb] at hf; exact absurd h1 hf
      | false => exact h2

/-- all slots of an activation -/
def allL (a : Act) : Sl := (List.range a.tmps.size).map fun t => (t, a.tmps.getD t undef)
theorem lk_allL_aux (f : Nat → Value) : ∀ (m s t : Nat) (v : Value), lk ((List.range' s m).map fun t => (t, f t)) t = some v → s ≤ t ∧ t < s + m ∧ v = f t
  | 0, s, t, v, h => by simp [lk] at h
  | m + 1, s, t, v, h => by
    simp only [List.range'_succ, List.map_cons, lk] at h
    cases hb : Nat.beq s t with
    | true => rw [hb] at h; cases h; have := Nat.eq_of_beq_eq_true hb; subst this; exact ⟨Nat.le_refl _, by omega, rfl⟩
    | false =>
      rw [hb] at h
      obtain ⟨h1, h2, h3⟩ := lk_allL_aux f m (s + 1) t v h
      exact ⟨by omega, by omega, h3⟩
theorem lk_allL_some (f : Nat → Value) : ∀ (m s t : Nat), s ≤ t → t < s + m → ∃ v, lk ((List.range' s m).map fun t => (t, f t)) t = some v
  | 0, s, t, h1, h2 => by omega
  | m + 1, s, t, h1, h2 => by
    simp only [List.range'_succ, List.map_cons, lk]
    cases hb : Nat.beq s t with
    | true => exact ⟨_, rfl⟩
    | false =>
      have : s ≠ t := fun e => by subst e; simp [Nat.beq_refl] at hb
      exact lk_allL_some f m (s + 1) t (by omega) (by omega)

def doneE (F : List (Nat × PSet)) (D : Nat → Prop) : PSet := fun b => ∃ p ∈ F, D p.1 ∧ p.2 b
structure Inv (F : List (Nat × PSet)) (S : List (Asr M)) (l : List Oper) (w0 : World) (L : Sl) (ds : List Deferred) (n : Nat) (D : Nat → Prop) (a : Act) (w : World) : Prop where
  step : Step M w0 M w (doneE F D)
  fin : ∀ i o s, l[i]? = some o → S[i]? = some s → D i → o.dst = none → ∃ v, s.p v w
  size : n ≤ a.tmps.size
  defers : a.defers = ds
  done : ∀ i o s d, l[i]? = some o → S[i]? = some s → D i → o.dst = some d → ∃ v, a.tmps[d]? = some v ∧ s.p v w
  base : ∀ t v, lk L t = some v → (∀ i o, l[i]? = some o → D i → o.dst ≠ some t) → a.tmps[t]? = some v
  closed : ∀ i o, l[i]? = some o → D i → ∀ k ∈ preds o, D k

theorem lexOk_preds : ∀ {l : List Oper} {k : Nat}, lexOk l k = true → ∀ i o, l[i]? = some o → ∀ j ∈ preds o, j < k + i
  | [], _, _, i, o, h, _, _ => by simp at h
  | x :: l, k, hl, 0, o, h, j, hj => by
    simp at h; subst h
    simp only [lexOk, Bool.and_eq_true, List.all_eq_true] at hl
    have := hl.1.1 j hj
    simpa [Nat.blt_eq] using this
  | x :: l, k, hl, i + 1, o, h, j, hj => by
    simp only [lexOk, Bool.and_eq_true] at hl
    have := lexOk_preds hl.2 i o (by simpa using h) j hj
    omega
theorem lexOk_dst : ∀ {l : List Oper} {k : Nat}, lexOk l k = true → ∀ (i j : Nat) (o o' : Oper) (d : Nat), l[i]? = some o → l[j]? = some o' → i ≠ j → o.dst = some d → o'.dst ≠ some d
  | [], _, _, i, _, _, _, _, h, _, _, _ => by simp at h
  | x :: l, k, hl, 0, 0, _, _, _, _, _, hne, _ => absurd rfl hne
  | x :: l, k, hl, 0, j + 1, o, o', d, hi, hj, _, hd => by
    simp at hi; subst hi
    simp only [lexOk, Bool.and_eq_true, hd, List.all_eq_true] at hl
    have hm : o' ∈ l := List.mem_of_getElem? (by simpa using hj)
    have := hl.1.2 o' hm
    simpa using this
  | x :: l, k, hl, i + 1, 0, o, o', d, hi, hj, _, hd => by
    simp at hj; subst hj
    intro hd'
    simp only [lexOk, Bool.and_eq_true, hd', List.all_eq_true] at hl
    have hm : o ∈ l := List.mem_of_getElem? (by simpa using hi)
    have := hl.1.2 o hm
    simp [hd] at this
  | x :: l, k, hl, i + 1, j + 1, o, o', d, hi, hj, hne, hd => by
    simp only [lexOk, Bool.and_eq_true] at hl
    exact lexOk_dst hl.2 i j o o' d (by simpa using hi) (by simpa using hj) (by omega) hd

theorem Obls.get {w : World} {l : List Oper} {S : List (Asr M)} {ds : List Deferred} {L : Sl} : ∀ {os : List Oper} {ss : List (Asr M)} {k : Nat}, Obls P r n F w l S ds L os ss k → ∀ i o, os[i]? = some o → ∃ s, ss[i]? = some s ∧ Obl P r n F w l S ds L (k + i) o s
  | [], _, _, _, i, o, h => by simp at h
  | x :: os, [], _, h, _, _, _ => by simp [Obls] at h
  | x :: os, s :: ss, k, h, 0, o, hi => by simp at hi; subst hi; exact ⟨s, rfl, h.1⟩
  | x :: os, s :: ss, k, h, i + 1, o, hi => by
    obtain ⟨s', h1, h2⟩ := Obls.get h.2 i o (by simpa using hi)
    exact ⟨s', by simpa using h1, by rwa [show k + (i + 1) = k + 1 + i from by omega]⟩

/-- what the walk of one operation owes, at an activation -/
theorem PredsP.use {l : List Oper} {S : List (Asr M)} {w : World} {k : Sl → Prop} {a : Act} {js : List Nat} (hf : ∀ (i : Nat) (o : Oper) (s : Asr M), l[i]? = some o → S[i]? = some s → o.dst = none → i ∈ js → ∃ v, s.p v w) (hd : ∀ (i : Nat) (o : Oper) (s : Asr M) (d : Nat), l[i]? = some o → S[i]? = some s → o.dst = some d → i ∈ js → ∃ v, a.tmps[d]? = some v ∧ s.p v w) :
    ∀ (is : List Nat) (acc : Sl), (∀ i ∈ is, i ∈ js) → (∀ t v, lk acc t = some v → a.tmps[t]? = some v) → PredsP l S w k is acc → ∃ acc', k acc' ∧ ∀ t v, lk acc' t = some v → a.tmps[t]? = some v
  | [], acc, _, ha, h => ⟨acc, h, ha⟩
  | i :: is, acc, hm, ha, h => by
    have hm' : ∀ i ∈ is, i ∈ js := fun x hx => hm x (List.mem_cons_of_mem _ hx)
    simp only [PredsP] at h
    split at h
    · rename_i o s ho hs
      split at h
      · rename_i d hdst
        obtain ⟨v, h1, h2⟩ := hd i o s d ho hs hdst (hm i (List.mem_cons_self ..))
        refine PredsP.use hf hd is _ hm' ?_ (h v h2)
        intro t u hu
        simp only [lk] at hu
        cases hb : Nat.beq d t with
        | true => rw [hb] at hu; cases hu; rw [← Nat.eq_of_beq_eq_true hb]; exact h1
        | false => rw [hb] at hu; exact ha t u hu
      · rename_i hdst
        obtain ⟨v, h2⟩ := hf i o s ho hs hdst (hm i (List.mem_cons_self ..))
        exact PredsP.use hf hd is _ hm' ha (h v h2)
    · exact PredsP.use hf hd is _ hm' ha h

theorem EndP.use {w : World} {k : Sl → Prop} {a : Act} : ∀ (os : List Oper) (ss : List (Asr M)) (acc : Sl), (∀ (i : Nat) (o : Oper) (s : Asr M), os[i]? = some o → ss[i]? = some s → o.dst = none → ∃ v, s.p v w) → (∀ (i : Nat) (o : Oper) (s : Asr M) (d : Nat), os[i]? = some o → ss[i]? = some s → o.dst = some d → ∃ v, a.tmps[d]? = some v ∧ s.p v w) →
    (∀ t v, lk acc t = some v → a.tmps[t]? = some v) → EndP w k os ss acc → ∃ acc', k acc' ∧ ∀ t v, lk acc' t = some v → a.tmps[t]? = some v
  | [], _, acc, _, _, ha, h => ⟨acc, by simpa [EndP] using h, ha⟩
  | _ :: _, [], acc, _, _, ha, h => ⟨acc, by simpa [EndP] using h, ha⟩
  | o :: os, s :: ss, acc, hf, hd, ha, h => by
    have hf' : ∀ (i : Nat) (o : Oper) (s : Asr M), os[i]? = some o → ss[i]? = some s → o.dst = none → ∃ v, s.p v w := fun i o s h1 h2 => hf (i + 1) o s (by simpa using h1) (by simpa using h2)
    have hd' : ∀ (i : Nat) (o : Oper) (s : Asr M) (d : Nat), os[i]? = some o → ss[i]? = some s → o.dst = some d → ∃ v, a.tmps[d]? = some v ∧ s.p v w := fun i o s d h1 h2 => hd (i + 1) o s d (by simpa using h1) (by simpa using h2)
    simp only [EndP] at h
    split at h
    · rename_i d hdst
      obtain ⟨v, h1, h2⟩ := hd 0 o s d rfl rfl hdst
      refine EndP.use os ss _ hf' hd' ?_ (h v h2)
      intro t u hu
      simp only [lk] at hu
      cases hb : Nat.beq d t with
      | true => rw [hb] at hu; cases hu; rw [← Nat.eq_of_beq_eq_true hb]; exact h1
      | false => rw [hb] at hu; exact ha t u hu
    · rename_i hdst
      obtain ⟨v, h2⟩ := hf 0 o s rfl rfl hdst
      exact EndP.use os ss _ hf' hd' ha (h v h2)

theorem wpOpsIn_cons_list {F : Fence} {m : Nat} {ops : Array Oper} {Q : Exit → Act → World → Prop} {i : Nat} {rest : List Nat} {o : Oper} {a : Act} {w : World} (ho : ops[i]? = some o)
    (h : wpListIn F m P ops (fun e a' w' => e = .normal ∧ wpOpsIn F m P ops Q rest a' w') [o] a w) : wpOpsIn F m P ops Q (i :: rest) a w := by
  simp only [wpOpsIn, ho]
  simp only [wpListIn] at h
  split
  · rename_i hw
    rw [if_pos hw] at h
    obtain ⟨h1, h2⟩ := h
    refine ⟨h1, ?_⟩
    generalize (o.semAt F.round a.eval).run P w = res at h2 ⊢
    have hcall : ∀ {f args w'}, CallsIn F (m - 1) P f args w' (fun
        | .returned v, w'' => (True ∧ wpOpsIn F m P ops Q rest (a.put o.dst v) w'')
        | .panicked chain, w'' => (Exit.panic chain = .normal ∧ wpOpsIn F m P ops Q rest a w'')
        | .outgrown, _ => LetsOut (fun e a' w' => e = .normal ∧ wpOpsIn F m P ops Q rest a' w')) → CallsIn F (m - 1) P f args w' (fun
        | .returned v, w'' => wpOpsIn F m P ops Q rest (a.put o.dst v) w''
        | .panicked chain, w'' => Q (.panic chain) a w''
        | .outgrown, _ => LetsOut Q) := fun h => h.mono fun e w'' he => by
      cases e with
      | returned v => exact he.2
      | panicked c => exact absurd he.1 (by simp)
      | outgrown => obtain ⟨a, w, h, _⟩ := he; exact absurd h (by simp)
    cases res with
    | ok nx w' =>
      cases nx with
      | value v => exact h2.2
      | skip => exact h2.2
      | defer d => exact h2.2
      | enter f args => exact ⟨h2.1, hcall h2.2⟩
      | row row args => exact ⟨h2.1, h2.2.mono fun _ _ he => he.2⟩
      | round l f tmps asn body => exact ⟨h2.1, h2.2.mono fun e w'' he => by
          cases e with
          | returned v => exact he.2
          | panicked c => exact absurd he.1 (by simp)
          | outgrown => obtain ⟨a, w, h, _⟩ := he; exact absurd h (by simp)⟩
      | _ => exact h2.elim
    | halt x w' =>
      cases x with
      | panic v => exact absurd h2.1 (by simp)
      | _ => exact h2.elim
  · rename_i hw
    rw [if_neg hw] at h
    exact ⟨h.1, h.2.2⟩

theorem wpListIn_mono1 {F : Fence} {m : Nat} {ops : Array Oper} {Q Q' : Exit → Act → World → Prop} {o : Oper} {a : Act} {w : World} (h : wpListIn F m P ops Q [o] a w) (hq : ∀ e a w, Q e a w → Q' e a w) : wpListIn F m P ops Q' [o] a w := by
  simp only [wpListIn] at h ⊢
  split
  · rename_i hw
    rw [if_pos hw] at h
    obtain ⟨h1, h2⟩ := h
    refine ⟨h1, ?_⟩
    generalize (o.semAt F.round a.eval).run P w = res at h2 ⊢
    cases res with
    | ok nx w' =>
      cases nx with
      | value v => exact hq _ _ _ h2
      | skip => exact hq _ _ _ h2
      | defer d => exact hq _ _ _ h2
      | enter f args => exact ⟨h2.1, h2.2.mono fun e w'' he => by
          cases e with
          | returned v => exact hq _ _ _ he
          | panicked c => exact hq _ _ _ he
          | outgrown => obtain ⟨a, w, h⟩ := he; exact ⟨a, w, hq _ _ _ h⟩⟩
      | row row args => exact ⟨h2.1, h2.2.mono fun _ _ he => hq _ _ _ he⟩
      | round l f tmps asn body => exact ⟨h2.1, h2.2.mono fun e w'' he => by
          cases e with
          | returned v => exact hq _ _ _ he
          | panicked c => exact hq _ _ _ he
          | outgrown => obtain ⟨a, w, h⟩ := he; exact ⟨a, w, hq _ _ _ h⟩⟩
      | _ => exact h2.elim
    | halt x w' =>
      cases x with
      | panic v => exact hq _ _ _ h2
      | _ => exact h2.elim
  · rename_i hw
    rw [if_neg hw] at h
    exact ⟨h.1, hq _ _ _ h.2⟩

/-- the next operation, whichever it is -/
theorem Inv.next {w0 : World} {l : List Oper} {S : List (Asr M)} {D : Nat → Prop} {a : Act} {w : World} (hi : Inv F S l w0 L ds n D a w) (hlex : lexOk l 0 = true) (hUk : StOk F l S) (hEM : ∀ p ∈ F, ∀ b, p.2 b → M b)
    {j : Nat} {o : Oper} (hob : ∃ s, S[j]? = some s ∧ Obl P r n F w0 l S ds L j o s) (hj : l[j]? = some o) (hnD : ¬ D j) (hp : ∀ k ∈ preds o, D k) {Q : Exit → Act → World → Prop} {rest : List Nat}
    (hk : ∀ a' w', Inv F S l w0 L ds n (fun i => i = j ∨ D i) a' w' → wpOpsIn (FW r) 0 P l.toArray Q rest a' w') : wpOpsIn (FW r) 0 P l.toArray Q (j :: rest) a w := by
  obtain ⟨s, hs, ho⟩ := hob
  have hpre : Step M w0 M w (preE l F j) := hi.step.widen (fun b ⟨p, hp, hD, hb⟩ => unions_iff.2 ⟨p.2, List.mem_map.2 ⟨p, List.mem_filter.2 ⟨hp, by
      simp only [Bool.and_eq_true, Bool.not_eq_true', beq_eq_false_iff_ne, ne_eq]
      refine ⟨fun e => hnD (e ▸ hD), ?_⟩
      cases hl : l[p.1]? with
      | none => rfl
      | some oi =>
        simp only [Option.map_some, Option.getD_some]
        cases hc : (preds oi).contains j with
        | false => rfl
        | true => exact absurd (hi.closed p.1 oi hl hD j (by simpa using hc)) hnD⟩, rfl⟩, hb⟩)
    (fun b hb => by
      obtain ⟨N, hN, hNb⟩ := unions_iff.1 hb
      obtain ⟨p, hp, rfl⟩ := List.mem_map.1 hN
      exact hEM p (List.mem_filter.1 hp).1 b hNb)
  have hown : ∀ b, ownE F j b → ∃ p ∈ F, p.1 = j ∧ p.2 b := fun b hb => by
    obtain ⟨N, hN, hNb⟩ := unions_iff.1 hb
    obtain ⟨p, hp, rfl⟩ := List.mem_map.1 hN
    obtain ⟨h1, h2⟩ := List.mem_filter.1 hp
    exact ⟨p, h1, by simpa using h2, hNb⟩
  have hgo : Step M w0 M w (doneE F fun i => i = j ∨ D i) := hi.step.widen (fun b ⟨p, hp, hD, hb⟩ => ⟨p, hp, .inr hD, hb⟩) (fun b ⟨p, hp, _, hb⟩ => hEM p hp b hb)
  refine wpOpsIn_cons_list (o := o) (by simpa using hj) ?_
  obtain ⟨acc, hacc, hfacts⟩ := PredsP.use (a := a) (js := preds o) (fun i o' s' h1 h2 h3 h4 => hi.fin i o' s' h1 h2 (hp i h4) h3) (fun i o' s' d h1 h2 h3 h4 => hi.done i o' s' d h1 h2 (hp i h4) h3) (preds o) [] (fun _ h => h) (fun t v h => by simp [lk] at h) (ho w (allL a) hpre)
  have hall : ∀ t v, lk (acc ++ (baseL l j L ++ allL a)) t = some v → a.tmps[t]? = some v := by
    intro t v h
    rcases lk_append h with h | h
    · exact hfacts t v h
    rcases lk_append h with h | h
    · obtain ⟨h1, h2⟩ := lk_filter (f := keepB l j) h
      refine hi.base t v h2 fun i o' hi' hD hd => ?_
      simp only [keepB, List.all_eq_true] at h1
      have := h1 o' (List.mem_of_getElem? hi')
      simp only [hd, beq_self_eq_true, Bool.not_true, Bool.false_or, List.contains_iff_mem] at this
      exact hnD (hi.closed i o' hi' hD j this)
    · simp only [allL, List.range_eq_range'] at h
      obtain ⟨_, h2, h3⟩ := lk_allL_aux _ _ _ _ _ h
      rw [h3, Array.getD_eq_getD_getElem?, Array.getElem?_eq_getElem (by omega)]; rfl
  have hsome : ∀ t, t < a.tmps.size → ∃ v, lk (acc ++ (baseL l j L ++ allL a)) t = some v := fun t ht => by
    refine lk_append_some (lk_append_some ?_)
    simp only [allL, List.range_eq_range']
    exact lk_allL_some _ _ _ _ (Nat.zero_le _) (by omega)
  have h1 := hacc.run a ⟨hi.size, hi.defers, hall⟩
  -- what is known behind it
  have key : ∀ e a' w', up n (Kone F j o.dst s w (acc ++ (baseL l j L ++ allL a)) ds) e a' w' → e = .normal ∧ wpOpsIn (FW r) 0 P l.toArray Q rest a' w' := by
    rintro e a' w' ⟨L', ds', ha', rfl, rfl, v, rfl, hsv, hst⟩
    refine ⟨rfl, hk a' w' ⟨hgo.trans hst fun b _ hb => by obtain ⟨p, h1, h2, h3⟩ := hown b hb; exact ⟨p, h1, .inl h2, h3⟩, ?_, ha'.size, ha'.defers, ?_, ?_, ?_⟩⟩
    · intro i o' s' h2 h3 h4 h5
      by_cases hij : i = j
      · subst hij
        rw [hj] at h2; cases h2; rw [hs] at h3; cases h3
        exact ⟨v, hsv⟩
      · have hDi : D i := h4.resolve_left hij
        obtain ⟨u, hu2⟩ := hi.fin i o' s' h2 h3 hDi h5
        exact ⟨u, hUk i o' s' j o s h2 h3 hj hs (fun e => hij e.symm) (fun hp' => hnD (hi.closed i o' h2 hDi j hp')) u v w w' hu2 hst hsv⟩
    · intro i o' s' d h2 h3 h4 h5
      by_cases hij : i = j
      · subst hij
        rw [hj] at h2; cases h2; rw [hs] at h3; cases h3
        exact ⟨v, ha'.at_ d v (by rw [h5]; simp [putL, lk, Nat.beq_refl]), hsv⟩
      · have hDi : D i := h4.resolve_left hij
        obtain ⟨u, hu1, hu2⟩ := hi.done i o' s' d h2 h3 hDi h5
        refine ⟨u, ?_, hUk i o' s' j o s h2 h3 hj hs (fun e => hij e.symm) (fun hp' => hnD (hi.closed i o' h2 hDi j hp')) u v w w' hu2 hst hsv⟩
        have hdlt : d < a.tmps.size := (Array.getElem?_eq_some_iff.1 hu1).1
        obtain ⟨u', hu'⟩ := hsome d hdlt
        have e1 := hall d u' hu'
        rw [hu1] at e1; cases e1
        refine ha'.at_ d u ?_
        cases hod : o.dst with
        | none => simpa [putL] using hu'
        | some d' =>
          have hne : d' ≠ d := fun e => lexOk_dst hlex i j o' o d h2 hj hij h5 (by rw [hod, e])
          have hb : Nat.beq d' d = false := by
            cases hb : Nat.beq d' d with
            | false => rfl
            | true => exact absurd (Nat.eq_of_beq_eq_true hb) hne
          simp only [putL, lk, hb]; exact hu'
    · intro t u ht hnt
      have hno : o.dst ≠ some t := hnt j o hj (.inl rfl)
      have e1 := hi.base t u ht fun i o' h2 h3 => hnt i o' h2 (.inr h3)
      have hdlt : t < a.tmps.size := (Array.getElem?_eq_some_iff.1 e1).1
      obtain ⟨u', hu'⟩ := hsome t hdlt
      have e2 := hall t u' hu'
      rw [e1] at e2; cases e2
      refine ha'.at_ t u ?_
      cases hod : o.dst with
      | none => simpa [putL] using hu'
      | some d' =>
        have hne : d' ≠ t := fun e => hno (by rw [hod, e])
        have hb : Nat.beq d' t = false := by
          cases hb : Nat.beq d' t with
          | false => rfl
          | true => exact absurd (Nat.eq_of_beq_eq_true hb) hne
        simp only [putL, lk, hb]; exact hu'
    · intro i o' h2 h3 k hk'
      rcases h3 with rfl | h3
      · rw [hj] at h2; cases h2; exact .inr (hp k hk')
      · exact .inr (hi.closed i o' h2 h3 k hk')
  clear hk ho hUk
  simp only [wpListIn] at h1 ⊢
  split
  · rename_i hw
    rw [if_pos hw] at h1
    obtain ⟨h3, h4⟩ := h1
    refine ⟨h3, ?_⟩
    generalize (o.semAt (FW r).round a.eval).run P w = res at h4 ⊢
    cases res with
    | ok nx w' =>
      cases nx with
      | value v => exact ⟨trivial, (key _ _ _ h4).2⟩
      | skip => exact ⟨trivial, (key _ _ _ h4).2⟩
      | defer d => exact ⟨trivial, (key _ _ _ h4).2⟩
      | enter f args => exact ⟨h4.1, h4.2.mono fun e w'' he => by
          cases e with
          | returned v => exact ⟨trivial, (key _ _ _ he).2⟩
          | panicked c => exact key _ _ _ he
          | outgrown => obtain ⟨a, w, h⟩ := he; exact ⟨a, w, key _ _ _ h⟩⟩
      | row row args => exact ⟨h4.1, h4.2.mono fun _ _ he => ⟨trivial, (key _ _ _ he).2⟩⟩
      | round l f tmps asn body => exact ⟨h4.1, h4.2.mono fun e w'' he => by
          cases e with
          | returned v => exact ⟨trivial, (key _ _ _ he).2⟩
          | panicked c => exact key _ _ _ he
          | outgrown => obtain ⟨a, w, h⟩ := he; exact ⟨a, w, key _ _ _ h⟩⟩
      | _ => exact h4.elim
    | halt x w' =>
      cases x with
      | panic v => exact key _ _ _ h4
      | _ => exact h4.elim
  · rename_i hw
    rw [if_neg hw] at h1
    exact ⟨h1.1, trivial, (key _ _ _ h1.2).2⟩

theorem falses_zero : ∀ {bs : List Bool}, bs.countP (!·) = 0 → ∀ i, i < bs.length → bs[i]? = some true
  | [], _, i, h => by simp at h
  | b :: bs, h, 0, _ => by
    cases b with
    | true => rfl
    | false => simp at h
  | b :: bs, h, i + 1, hi => by
    cases b with
    | true => simpa using falses_zero (bs := bs) (by simpa using h) i (by simpa using hi)
    | false => simp at h
theorem falses_set : ∀ {bs : List Bool} {i : Nat}, bs[i]? = some false → (bs.set i true).countP (!·) + 1 = bs.countP (!·)
  | [], i, h => by simp at h
  | b :: bs, 0, h => by simp at h; subst h; simp
  | b :: bs, i + 1, h => by
    have := falses_set (bs := bs) (i := i) (by simpa using h)
    rw [List.set_cons_succ, List.countP_cons, List.countP_cons]; omega
theorem falses_pos {bs : List Bool} (h : 0 < bs.countP (!·)) : ∃ i : Nat, bs[i]? = some false ∧ ∀ k : Nat, k < i → bs[k]? = some true := by
  induction bs with
  | nil => simp at h
  | cons b bs ih =>
    cases b with
    | false => exact ⟨0, rfl, fun k hk => by omega⟩
    | true =>
      obtain ⟨i, h1, h2⟩ := ih (by simpa using h)
      exact ⟨i + 1, by simpa using h1, fun k hk => by
        cases k with
        | zero => rfl
        | succ k => simpa using h2 k (by omega)⟩

theorem go_orders {w0 : World} {l : List Oper} {S : List (Asr M)} (hlex : lexOk l 0 = true) (hob : Obls P r n F w0 l S ds L l S 0) (hUk : StOk F l S) (hEM : ∀ p ∈ F, ∀ b, p.2 b → M b) {Q : Exit → Act → World → Prop}
    (hend : ∀ a w, Inv F S l w0 L ds n (fun i => i < l.length) a w → Q .normal a w) : ∀ (fuel t : Nat) (listed : Array Bool) (a : Act) (w : World), listed.size = l.length → listed.toList.countP (!·) = fuel →
    Inv F S l w0 L ds n (fun i => listed[i]? = some true) a w → wpOpsIn (FW r) 0 P l.toArray Q (Region.linearise.go .any l.toArray fuel t listed []) a w := by
  intro fuel
  induction fuel with
  | zero =>
    intro t listed a w hsz hc hi
    simp only [Region.linearise.go, List.reverse_nil, wpOpsIn]
    refine hend a w ⟨hi.step.widen (fun b ⟨p, hp, hD, hb⟩ => ⟨p, hp, by have := (Array.getElem?_eq_some_iff.1 hD).1; omega, hb⟩) (fun b ⟨p, hp, _, hb⟩ => hEM p hp b hb), fun i o s h1 h2 h3 => hi.fin i o s h1 h2 (by simpa using falses_zero hc i (by simp [hsz]; exact h3)), hi.size, hi.defers, fun i o s d h1 h2 h3 => hi.done i o s d h1 h2 ?_, fun t v h1 h2 => hi.base t v h1 fun i o h3 h4 => h2 i o h3 ?_, fun i o h1 h2 k hk => ?_⟩
    · simpa using falses_zero hc i (by simp [hsz]; exact h3)
    · exact (List.getElem?_eq_some_iff.1 h3).1
    · have := lexOk_preds hlex i o h1 k hk
      omega
  | succ fuel ih =>
    intro t listed a w hsz hc hi
    have hready : ∀ j, j ∈ Region.ready .any l.toArray listed → ∃ o, l[j]? = some o ∧ listed[j]? = some false ∧ ∀ k ∈ preds o, listed[k]? = some true := by
      intro j hj
      simp only [Region.ready, List.mem_filter, List.mem_range, Bool.and_eq_true] at hj
      obtain ⟨h1, h2, h3⟩ := hj
      have hlt : j < l.length := by simpa using h1
      refine ⟨l[j], List.getElem?_eq_getElem hlt, ?_, ?_⟩
      · rw [Array.getElem?_eq_getElem (by omega)]
        simp only [Array.getD_eq_getD_getElem?, Array.getElem?_eq_getElem (show j < listed.size by omega), Option.getD_some, Bool.not_eq_true'] at h2
        rw [h2]
      · intro k hk
        simp only [preds, List.mem_map, List.mem_filter] at hk
        obtain ⟨e, ⟨he1, he2⟩, rfl⟩ := hk
        have h4 : l.toArray[j]? = some l[j] := by simp [hlt]
        rw [h4] at h3
        simp only [Option.map_some, Option.getD_some, Array.all_eq_true_iff_forall_mem] at h3
        have h5 := h3 e (by simpa using he1)
        rw [he2] at h5
        simp only [Bool.not_true, Bool.false_or, Array.getD_eq_getD_getElem?] at h5
        cases hx : listed[e.on]? with
        | none => simp [hx] at h5
        | some b => simp [hx] at h5; rw [h5]
    have hne : Region.ready .any l.toArray listed ≠ [] := by
      obtain ⟨i, h1, h2⟩ := falses_pos (bs := listed.toList) (by omega)
      have hlt : i < l.length := by
        have := (List.getElem?_eq_some_iff.1 h1).1
        simp at this; omega
      intro hnil
      have hmem : i ∈ Region.ready .any l.toArray listed := by
        simp only [Region.ready, List.mem_filter, List.mem_range, Bool.and_eq_true]
        refine ⟨by simpa using hlt, ?_, ?_⟩
        · have : listed[i]? = some false := by simpa using h1
          simp [Array.getD_eq_getD_getElem?, this]
        · have h4 : l.toArray[i]? = some l[i] := by simp [hlt]
          rw [h4]
          simp only [Option.map_some, Option.getD_some, Array.all_eq_true_iff_forall_mem]
          intro e he
          cases hb : Region.binds .any e with
          | false => rfl
          | true =>
            have hk : e.on ∈ preds l[i] := by
              simp only [preds, List.mem_map, List.mem_filter]; exact ⟨e, ⟨by simpa using he, hb⟩, rfl⟩
            have hlt' := lexOk_preds hlex i l[i] (List.getElem?_eq_getElem hlt) _ hk
            have : listed[e.on]? = some true := by simpa using h2 e.on (by omega)
            simp [Array.getD_eq_getD_getElem?, this]
      rw [hnil] at hmem; cases hmem
    simp only [Region.linearise.go]
    change wpOpsIn (FW r) 0 P l.toArray Q (match (Region.ready .any l.toArray listed)[t % (Region.ready .any l.toArray listed).length]? with
      | some i => Region.linearise.go .any l.toArray fuel (t / (Region.ready .any l.toArray listed).length) (listed.setIfInBounds i true) [i]
      | none => [].reverse) a w
    have hlt : t % (Region.ready .any l.toArray listed).length < (Region.ready .any l.toArray listed).length := Nat.mod_lt _ (List.length_pos_iff.2 hne)
    rw [List.getElem?_eq_getElem hlt]
    have hmem := List.getElem_mem hlt
    generalize (Region.ready .any l.toArray listed)[t % (Region.ready .any l.toArray listed).length] = j at hmem
    obtain ⟨o, h1, h2, h3⟩ := hready j hmem
    simp only []
    rw [linearise_go_acc, List.reverse_singleton, List.singleton_append]
    refine hi.next hlex hUk hEM (by have := hob.get j o h1; rwa [Nat.zero_add] at this) h1 (by rw [h2]; simp) h3 fun a' w' hi' => ?_
    have h2' : listed.toList[j]? = some false := by simpa using h2
    refine ih _ _ _ _ (by simpa using hsz) ?_ ?_
    · have := falses_set h2'
      simp only [Array.toList_setIfInBounds]; omega
    · have hjlt : j < listed.size := (Array.getElem?_eq_some_iff.1 h2).1
      have hiff : ∀ i, ((listed.setIfInBounds j true)[i]? = some true) ↔ (i = j ∨ listed[i]? = some true) := by
        intro i
        rw [Array.getElem?_setIfInBounds]
        by_cases hij : j = i
        · subst hij; simp [hjlt]
        · rw [if_neg hij]; exact ⟨.inr, fun h => h.resolve_left (fun e => hij e.symm)⟩
      exact ⟨hi'.step.widen (fun b ⟨p, hp, hD, hb⟩ => ⟨p, hp, (hiff p.1).2 hD, hb⟩) (fun b ⟨p, hp, _, hb⟩ => hEM p hp b hb), fun i o s h1 h2 h3 => hi'.fin i o s h1 h2 ((hiff i).1 h3), hi'.size, hi'.defers, fun i o s d h1 h2 h3 => hi'.done i o s d h1 h2 ((hiff i).1 h3), fun t v h1 h2 => hi'.base t v h1 fun i o h3 h4 => h2 i o h3 ((hiff i).2 h4), fun i o h1 h2 k hk => (hiff k).2 (hi'.closed i o h1 ((hiff i).1 h2) k hk)⟩

/-- the same, where one operation stands behind all others -/
theorem go_last {w0 : World} {l : List Oper} {o₁ : Oper} {S : List (Asr M)} (hlex : lexOk (l ++ [o₁]) 0 = true) (hlast : (List.range l.length).all (fun i => (preds o₁).contains i || (preds o₁).any (fun k => (((l ++ [o₁])[k]?.map preds).getD []).contains i)) = true) (hSl : S.length = l.length) (hob : Obls P r n F w0 (l ++ [o₁]) S ds L l S 0) (hUk : StOk F (l ++ [o₁]) S) (hEM : ∀ p ∈ F, ∀ b, p.2 b → M b) {Q : Exit → Act → World → Prop}
    (hend : ∀ a w, Inv F S (l ++ [o₁]) w0 L ds n (fun i => i < l.length) a w → wpListIn (FW r) 0 P (l ++ [o₁]).toArray (fun e a' w' => e = .normal ∧ Q .normal a' w') [o₁] a w) : ∀ (fuel t : Nat) (listed : Array Bool) (a : Act) (w : World), listed.size = (l ++ [o₁]).length → listed.toList.countP (!·) = fuel → listed[l.length]? = some false →
    Inv F S (l ++ [o₁]) w0 L ds n (fun i => listed[i]? = some true) a w → wpOpsIn (FW r) 0 P (l ++ [o₁]).toArray Q (Region.linearise.go .any (l ++ [o₁]).toArray fuel t listed []) a w := by
  intro fuel
  induction fuel with
  | zero =>
    intro t listed a w hsz hc hlm hi
    have := falses_zero hc l.length (by simp [hsz])
    have h2 : listed.toList[l.length]? = some false := by simpa using hlm
    rw [h2] at this; cases this
  | succ fuel ih =>
    intro t listed a w hsz hc hlm hi
    have hll : (l ++ [o₁]).length = l.length + 1 := by simp
    have hready : ∀ j, j ∈ Region.ready .any (l ++ [o₁]).toArray listed → ∃ o, (l ++ [o₁])[j]? = some o ∧ listed[j]? = some false ∧ ∀ k ∈ preds o, listed[k]? = some true := by
      intro j hj
      simp only [Region.ready, List.mem_filter, List.mem_range, Bool.and_eq_true] at hj
      obtain ⟨h1, h2, h3⟩ := hj
      have hlt : j < (l ++ [o₁]).length := by simpa using h1
      refine ⟨(l ++ [o₁])[j], List.getElem?_eq_getElem hlt, ?_, ?_⟩
      · rw [Array.getElem?_eq_getElem (by omega)]
        simp only [Array.getD_eq_getD_getElem?, Array.getElem?_eq_getElem (show j < listed.size by omega), Option.getD_some, Bool.not_eq_true'] at h2
        rw [h2]
      · intro k hk
        simp only [preds, List.mem_map, List.mem_filter] at hk
        obtain ⟨e, ⟨he1, he2⟩, rfl⟩ := hk
        have h4 : (l ++ [o₁]).toArray[j]? = some (l ++ [o₁])[j] := by rw [List.getElem?_toArray]; exact List.getElem?_eq_getElem hlt
        rw [h4] at h3
        simp only [Option.map_some, Option.getD_some, Array.all_eq_true_iff_forall_mem] at h3
        have h5 := h3 e (by simpa using he1)
        rw [he2] at h5
        simp only [Bool.not_true, Bool.false_or, Array.getD_eq_getD_getElem?] at h5
        cases hx : listed[e.on]? with
        | none => simp [hx] at h5
        | some b => simp [hx] at h5; rw [h5]
    have hne : Region.ready .any (l ++ [o₁]).toArray listed ≠ [] := by
      obtain ⟨i, h1, h2⟩ := falses_pos (bs := listed.toList) (by omega)
      have hlt : i < (l ++ [o₁]).length := by
        have := (List.getElem?_eq_some_iff.1 h1).1
        simp only [Array.length_toList] at this; omega
      intro hnil
      have hmem : i ∈ Region.ready .any (l ++ [o₁]).toArray listed := by
        simp only [Region.ready, List.mem_filter, List.mem_range, Bool.and_eq_true]
        refine ⟨by simpa using hlt, ?_, ?_⟩
        · have : listed[i]? = some false := by simpa using h1
          simp [Array.getD_eq_getD_getElem?, this]
        · have h4 : (l ++ [o₁]).toArray[i]? = some (l ++ [o₁])[i] := by rw [List.getElem?_toArray]; exact List.getElem?_eq_getElem hlt
          rw [h4]
          simp only [Option.map_some, Option.getD_some, Array.all_eq_true_iff_forall_mem]
          intro e he
          cases hb : Region.binds .any e with
          | false => rfl
          | true =>
            have hk : e.on ∈ preds (l ++ [o₁])[i] := by
              simp only [preds, List.mem_map, List.mem_filter]; exact ⟨e, ⟨by simpa using he, hb⟩, rfl⟩
            have hlt' := lexOk_preds hlex i (l ++ [o₁])[i] (List.getElem?_eq_getElem hlt) _ hk
            have : listed[e.on]? = some true := by simpa using h2 e.on (by omega)
            simp [Array.getD_eq_getD_getElem?, this]
      rw [hnil] at hmem; cases hmem
    simp only [Region.linearise.go]
    change wpOpsIn (FW r) 0 P (l ++ [o₁]).toArray Q (match (Region.ready .any (l ++ [o₁]).toArray listed)[t % (Region.ready .any (l ++ [o₁]).toArray listed).length]? with
      | some i => Region.linearise.go .any (l ++ [o₁]).toArray fuel (t / (Region.ready .any (l ++ [o₁]).toArray listed).length) (listed.setIfInBounds i true) [i]
      | none => [].reverse) a w
    have hlt : t % (Region.ready .any (l ++ [o₁]).toArray listed).length < (Region.ready .any (l ++ [o₁]).toArray listed).length := Nat.mod_lt _ (List.length_pos_iff.2 hne)
    rw [List.getElem?_eq_getElem hlt]
    have hmem := List.getElem_mem hlt
    generalize (Region.ready .any (l ++ [o₁]).toArray listed)[t % (Region.ready .any (l ++ [o₁]).toArray listed).length] = j at hmem
    obtain ⟨o, h1, h2, h3⟩ := hready j hmem
    simp only []
    rw [linearise_go_acc, List.reverse_singleton, List.singleton_append]
    have hjl : j < l.length + 1 := by have := (List.getElem?_eq_some_iff.1 h1).1; omega
    have h2' : listed.toList[j]? = some false := by simpa using h2
    have hcnt := falses_set h2'
    by_cases hjm : j = l.length
    · subst hjm
      have ho : o = o₁ := by simpa using h1.symm
      subst ho
      have hallD : ∀ i, i < l.length → listed[i]? = some true := fun i hi' => by
        have := List.all_eq_true.1 hlast i (List.mem_range.2 hi')
        simp only [Bool.or_eq_true, List.contains_iff_mem, List.any_eq_true] at this
        rcases this with h | ⟨k, hk1, hk2⟩
        · exact h3 i h
        · cases hlk : (l ++ [o])[k]? with
          | none => rw [hlk] at hk2; simp at hk2
          | some ok => rw [hlk] at hk2; exact hi.closed k ok hlk (h3 k hk1) i (by simpa using hk2)
      have hf0 : fuel = 0 := by
        have hz : (listed.toList.set l.length true).countP (!·) = 0 := by
          rw [List.countP_eq_zero]
          intro b hb
          obtain ⟨i, hi'⟩ := List.mem_iff_getElem?.1 hb
          rw [List.getElem?_set] at hi'
          split at hi'
          · split at hi'
            · cases hi'; simp
            · cases hi'
          · have hil := (List.getElem?_eq_some_iff.1 hi').1
            simp only [Array.length_toList] at hil
            have := hallD i (by omega)
            have h9 : listed.toList[i]? = some true := by simpa using this
            rw [hi'] at h9; cases h9; simp
        omega
      subst hf0
      simp only [Region.linearise.go, List.reverse_nil]
      refine wpOpsIn_cons_list (o := o) (by simp) ?_
      refine hend a w ⟨hi.step.widen (fun b ⟨p, hp, hD, hb⟩ => ⟨p, hp, ?_, hb⟩) (fun b ⟨p, hp, _, hb⟩ => hEM p hp b hb), fun i o s h1 h2 h3 => hi.fin i o s h1 h2 (hallD i h3), hi.size, hi.defers, fun i o s d h1 h2 h3 => hi.done i o s d h1 h2 (hallD i h3), fun t v h4 h5 => hi.base t v h4 fun i o' h6 h7 => h5 i o' h6 ?_, fun i o' h4 h5 k hk => ?_⟩
      · have hil := (Array.getElem?_eq_some_iff.1 hD).1
        rcases Nat.lt_or_ge p.1 l.length with h | h
        · exact h
        · have : p.1 = l.length := by omega
          rw [this, hlm] at hD; cases hD
      · rcases Nat.lt_or_ge i l.length with h | h
        · exact h
        · have hil := (List.getElem?_eq_some_iff.1 h6).1
          have : i = l.length := by omega
          rw [this, hlm] at h7; cases h7
      · have := lexOk_preds hlex i o' h4 k hk
        omega
    · have hlj : l[j]? = some o := by rwa [List.getElem?_append_left (by omega)] at h1
      refine hi.next hlex hUk hEM (by have := hob.get j o hlj; rwa [Nat.zero_add] at this) h1 (by rw [h2]; simp) h3 fun a' w' hi' => ?_
      refine ih _ _ _ _ (by simpa using hsz) ?_ ?_ ?_
      · simp only [Array.toList_setIfInBounds]; omega
      · rw [Array.getElem?_setIfInBounds, if_neg hjm]; exact hlm
      · have hjlt : j < listed.size := (Array.getElem?_eq_some_iff.1 h2).1
        have hiff : ∀ i, ((listed.setIfInBounds j true)[i]? = some true) ↔ (i = j ∨ listed[i]? = some true) := by
          intro i
          rw [Array.getElem?_setIfInBounds]
          by_cases hij : j = i
          · subst hij; simp [hjlt]
          · rw [if_neg hij]; exact ⟨.inr, fun h => h.resolve_left (fun e => hij e.symm)⟩
        exact ⟨hi'.step.widen (fun b ⟨p, hp, hD, hb⟩ => ⟨p, hp, (hiff p.1).2 hD, hb⟩) (fun b ⟨p, hp, _, hb⟩ => hEM p hp b hb), fun i o s h1 h2 h3 => hi'.fin i o s h1 h2 ((hiff i).1 h3), hi'.size, hi'.defers, fun i o s d h1 h2 h3 => hi'.done i o s d h1 h2 ((hiff i).1 h3), fun t v h1 h2 => hi'.base t v h1 fun i o h3 h4 => h2 i o h3 ((hiff i).2 h4), fun i o h1 h2 k hk => (hiff k).2 (hi'.closed i o h1 ((hiff i).1 h2) k hk)⟩

/-- A region that draws its order, but for one operation that stands behind all others; F: what the others write. -/
theorem T.drawLast {id : Nat} {l : List Oper} {o₁ : Oper} (hm : P.follows .mixedOrders = true) (F : List (Nat × PSet)) (S : List (Asr M)) (hlex : lexOk (l ++ [o₁]) 0 = true) (hlast : (List.range l.length).all (fun i => (preds o₁).contains i || (preds o₁).any (fun k => (((l ++ [o₁])[k]?.map preds).getD []).contains i)) = true) (hSl : S.length = l.length) (hEM : ∀ p ∈ F, ∀ b, p.2 b → M b) (hUk : UOk F (l ++ [o₁]) S 0) (hob : Obls P r n F w (l ++ [o₁]) S ds L l S 0)
    (hend : ∀ w', Step M w M w' (unions (F.map (·.2))) → EndP w' (fun acc => Rg P r n (l ++ [o₁]).toArray [o₁] (acc ++ baseL (l ++ [o₁]) (l.length + 1) L) ds w' (fun e L ds w => e = .normal ∧ K .normal L ds w)) l S []) : T P r n (.region id (l ++ [o₁]).toArray true) L ds w K := by
  refine ⟨fun a ha => wpIn_region_draw fun t => ?_⟩
  simp only [Region.schedule, hm, Bool.true_or, if_true, Region.linearise]
  have hd : Step M w M { w with drawn := w.drawn + 1 } none' := step_drew M w
  refine go_last (w0 := w) (S := S) hlex hlast hSl hob hUk.st hEM (Q := up n K) ?_ _ t _ a _ (by simp) (by simp [List.countP_replicate]) (by simp [Array.getElem?_replicate]) ⟨hd.widen (fun _ h => h.elim) (fun b ⟨p, hp, _, hb⟩ => hEM p hp b hb), ?_, ha.size, ha.defers, ?_, ?_, ?_⟩
  · intro a' w' hi
    have hget : ∀ {i : Nat} {o : Oper}, l[i]? = some o → (l ++ [o₁])[i]? = some o ∧ i < l.length := fun {i o} h => by
      have h1 := (List.getElem?_eq_some_iff.1 h).1
      exact ⟨by rw [List.getElem?_append_left h1]; exact h, h1⟩
    obtain ⟨acc, h1, h2⟩ := EndP.use (a := a') l S [] (fun i o s h1 h2 h3 => hi.fin i o s (hget h1).1 h2 (hget h1).2 h3) (fun i o s d h1 h2 h3 => hi.done i o s d (hget h1).1 h2 (hget h1).2 h3) (fun t v h => by simp [lk] at h)
      (hend w' (hi.step.widen (fun b ⟨p, hp, _, hb⟩ => unions_iff.2 ⟨p.2, List.mem_map.2 ⟨p, hp, rfl⟩, hb⟩) (fun b hb => by
        obtain ⟨N, hN, hNb⟩ := unions_iff.1 hb
        obtain ⟨p, hp, rfl⟩ := List.mem_map.1 hN
        exact hEM p hp b hNb)))
    have h3 := h1.run a' ⟨hi.size, hi.defers, fun t v h => by
      rcases lk_append h with h | h
      · exact h2 t v h
      · obtain ⟨h3, h4⟩ := lk_filter (f := keepB (l ++ [o₁]) (l.length + 1)) h
        refine hi.base t v h4 fun i o h5 _ h6 => ?_
        simp only [keepB, List.all_eq_true] at h3
        have := h3 o (List.mem_of_getElem? h5)
        simp only [h6, beq_self_eq_true, Bool.not_true, Bool.false_or, List.contains_iff_mem] at this
        have h7 := lexOk_preds hlex i o h5 _ this
        have h8 := (List.getElem?_eq_some_iff.1 h5).1
        simp at h8; omega⟩
    exact wpListIn_mono1 h3 fun e a2 w2 ⟨L2, ds2, ha2, he, hk⟩ => ⟨he, L2, ds2, ha2, hk⟩
  · intro i o s h1 h2 h3
    simp [Array.getElem?_replicate] at h3
  · intro i o s d h1 h2 h3
    simp [Array.getElem?_replicate] at h3
  · intro t v h1 _; exact ha.at_ t v h1
  · intro i o h1 h2
    simp [Array.getElem?_replicate] at h2

/-- each operation from the k-th on stands behind the one ahead of it -/
def chainB (l : List Oper) (k : Nat) : Bool := (List.range' k (l.length - k)).all fun j => ((l[j]?.map preds).getD []).contains (j - 1)
theorem chainB_get {l : List Oper} {k : Nat} (h : chainB l k = true) {j : Nat} {o : Oper} (hj : k ≤ j) (ho : l[j]? = some o) : j - 1 ∈ preds o := by
  have hlt := (List.getElem?_eq_some_iff.1 ho).1
  have := List.all_eq_true.1 h j (List.mem_range'_1.2 ⟨hj, by omega⟩)
  rw [ho] at this
  simpa using this
/-- what is left comes in the text's order -/
theorem go_chain {l : List Oper} (hlex : lexOk l 0 = true) : ∀ (fuel k t : Nat) (listed : Array Bool), listed.size = l.length → k + fuel = l.length → chainB l (k + 1) = true → (∀ i, i < k → listed[i]? = some true) → (∀ i, k ≤ i → i < l.length → listed[i]? = some false) → (∀ i o, l[i]? = some o → i = k → ∀ j ∈ preds o, j < k) →
    Region.linearise.go .any l.toArray fuel t listed [] = List.range' k fuel := by
  intro fuel
  induction fuel with
  | zero => intro k t listed _ _ _ _ _ _; rfl
  | succ fuel ih =>
    intro k t listed hsz hk hch h1 h2 h3
    have hready : Region.ready .any l.toArray listed = [k] := by
      have hmem : ∀ j, j ∈ Region.ready .any l.toArray listed ↔ j = k := by
        intro j
        simp only [Region.ready, List.mem_filter, List.mem_range, Bool.and_eq_true]
        constructor
        · rintro ⟨g1, g2, g3⟩
          have hjl : j < l.length := by simpa using g1
          rcases Nat.lt_trichotomy j k with h | h | h
          · have := h1 j h
            simp [Array.getD_eq_getD_getElem?, this] at g2
          · exact h
          · exfalso
            have hp := chainB_get hch (j := j) (by omega) (List.getElem?_eq_getElem hjl)
            simp only [preds, List.mem_map, List.mem_filter] at hp
            obtain ⟨e, ⟨he1, he2⟩, he3⟩ := hp
            have h4 : l.toArray[j]? = some l[j] := by rw [List.getElem?_toArray]; exact List.getElem?_eq_getElem hjl
            rw [h4] at g3
            simp only [Option.map_some, Option.getD_some, Array.all_eq_true_iff_forall_mem] at g3
            have h5 := g3 e (by simpa using he1)
            rw [he2, he3] at h5
            have := h2 (j - 1) (by omega) (by omega)
            simp [Array.getD_eq_getD_getElem?, this] at h5
        · rintro rfl
          have hjl : j < l.length := by omega
          refine ⟨by simpa using hjl, ?_, ?_⟩
          · have := h2 j (Nat.le_refl _) hjl
            simp [Array.getD_eq_getD_getElem?, this]
          · have h4 : l.toArray[j]? = some l[j] := by rw [List.getElem?_toArray]; exact List.getElem?_eq_getElem hjl
            rw [h4]
            simp only [Option.map_some, Option.getD_some, Array.all_eq_true_iff_forall_mem]
            intro e he
            cases hb : Region.binds .any e with
            | false => rfl
            | true =>
              have hkp : e.on ∈ preds l[j] := by simp only [preds, List.mem_map, List.mem_filter]; exact ⟨e, ⟨by simpa using he, hb⟩, rfl⟩
              have := h1 _ (h3 j l[j] (List.getElem?_eq_getElem hjl) rfl _ hkp)
              simp [Array.getD_eq_getD_getElem?, this]
      have hnd : (Region.ready .any l.toArray listed).Nodup := by unfold Region.ready; exact List.Pairwise.filter _ List.nodup_range
      cases hr : Region.ready .any l.toArray listed with
      | nil => have := (hmem k).2 rfl; rw [hr] at this; cases this
      | cons x xs =>
        have hx : x = k := (hmem x).1 (by rw [hr]; exact List.mem_cons_self ..)
        cases xs with
        | nil => rw [hx]
        | cons y ys =>
          have hy : y = k := (hmem y).1 (by rw [hr]; simp)
          rw [hr] at hnd
          simp [hx, hy] at hnd
    simp only [Region.linearise.go]
    change (match (Region.ready .any l.toArray listed)[t % (Region.ready .any l.toArray listed).length]? with
      | some i => Region.linearise.go .any l.toArray fuel (t / (Region.ready .any l.toArray listed).length) (listed.setIfInBounds i true) [i]
      | none => [].reverse) = _
    rw [hready]
    simp only [List.length_singleton, Nat.mod_one, List.getElem?_cons_zero]
    rw [linearise_go_acc, List.reverse_singleton, List.singleton_append]
    have hkl : k < listed.size := by omega
    rw [ih (k + 1) _ _ (by simpa using hsz) (by omega) (by
      simp only [chainB, List.all_eq_true] at hch ⊢
      intro j hj
      exact hch j (by rw [List.mem_range'_1] at hj ⊢; omega)) ?_ ?_ ?_]
    · rfl
    · intro i hi
      rw [Array.getElem?_setIfInBounds]
      by_cases e : k = i
      · subst e; simp [hkl]
      · rw [if_neg e]; exact h1 i (by omega)
    · intro i hi hil
      rw [Array.getElem?_setIfInBounds, if_neg (by omega)]
      exact h2 i (by omega) hil
    · intro i o ho hi j hj
      have := lexOk_preds hlex i o ho j hj
      omega

/-- all operations ahead of the j-th one are among acc, or are what one of these stands behind, or .. -/
def behindB (l : List Oper) : Nat → List Nat → Bool
  | 0, _ => true
  | j + 1, acc => acc.contains j && behindB l j (acc ++ (l[j]?.map preds).getD [])
theorem behind_all {l : List Oper} {D : Nat → Prop} (hcl : ∀ k o, l[k]? = some o → D k → ∀ i ∈ preds o, D i) : ∀ (j : Nat) (acc : List Nat), behindB l j acc = true → (∀ k ∈ acc, D k) → ∀ i, i < j → D i
  | 0, _, _, _, i, hi => by omega
  | j + 1, acc, h, ha, i, hi => by
    simp only [behindB, Bool.and_eq_true, List.contains_iff_mem] at h
    have hj := ha j h.1
    rcases Nat.lt_or_ge i j with hlt | hge
    · refine behind_all hcl j _ h.2 (fun k hk => ?_) i hlt
      rcases List.mem_append.1 hk with hk | hk
      · exact ha k hk
      · cases ho : l[j]? with
        | none => rw [ho] at hk; simp at hk
        | some o => rw [ho] at hk; exact hcl j o ho hj k (by simpa using hk)
    · rw [show i = j from by omega]; exact hj
/-- the same, where from one operation on each stands behind all that come ahead of it -/
theorem go_tailed {w0 : World} {l : List Oper} {o₁ : Oper} {tl : List Oper} {S : List (Asr M)} (hlex : lexOk (l ++ o₁ :: tl) 0 = true) (hlast : behindB (l ++ o₁ :: tl) l.length (preds o₁) = true) (hch : chainB (l ++ o₁ :: tl) (l.length + 1) = true) (hSl : S.length = l.length) (hob : Obls P r n F w0 (l ++ o₁ :: tl) S ds L l S 0) (hUk : StOk F (l ++ o₁ :: tl) S) (hEM : ∀ p ∈ F, ∀ b, p.2 b → M b) {Q : Exit → Act → World → Prop}
    (hend : ∀ a w, Inv F S (l ++ o₁ :: tl) w0 L ds n (fun i => i < l.length) a w → wpListIn (FW r) 0 P (l ++ o₁ :: tl).toArray Q (o₁ :: tl) a w) : ∀ (fuel t : Nat) (listed : Array Bool) (a : Act) (w : World), listed.size = (l ++ o₁ :: tl).length → listed.toList.countP (!·) = fuel → (∀ i, l.length ≤ i → i < (l ++ o₁ :: tl).length → listed[i]? = some false) →
    Inv F S (l ++ o₁ :: tl) w0 L ds n (fun i => listed[i]? = some true) a w → wpOpsIn (FW r) 0 P (l ++ o₁ :: tl).toArray Q (Region.linearise.go .any (l ++ o₁ :: tl).toArray fuel t listed []) a w := by
  intro fuel
  induction fuel with
  | zero =>
    intro t listed a w hsz hc hlm hi
    have := falses_zero hc l.length (by simp [hsz])
    have h2 : listed.toList[l.length]? = some false := by simpa using hlm l.length (Nat.le_refl _) (by simp)
    rw [h2] at this; cases this
  | succ fuel ih =>
    intro t listed a w hsz hc hlm hi
    have hll : (l ++ o₁ :: tl).length = l.length + 1 + tl.length := by simp; omega
    have hlm0 : listed[l.length]? = some false := hlm l.length (Nat.le_refl _) (by omega)
    have hready : ∀ j, j ∈ Region.ready .any (l ++ o₁ :: tl).toArray listed → ∃ o, (l ++ o₁ :: tl)[j]? = some o ∧ listed[j]? = some false ∧ ∀ k ∈ preds o, listed[k]? = some true := by
      intro j hj
      simp only [Region.ready, List.mem_filter, List.mem_range, Bool.and_eq_true] at hj
      obtain ⟨h1, h2, h3⟩ := hj
      have hlt : j < (l ++ o₁ :: tl).length := by simpa using h1
      refine ⟨(l ++ o₁ :: tl)[j], List.getElem?_eq_getElem hlt, ?_, ?_⟩
      · rw [Array.getElem?_eq_getElem (by omega)]
        simp only [Array.getD_eq_getD_getElem?, Array.getElem?_eq_getElem (show j < listed.size by omega), Option.getD_some, Bool.not_eq_true'] at h2
        rw [h2]
      · intro k hk
        simp only [preds, List.mem_map, List.mem_filter] at hk
        obtain ⟨e, ⟨he1, he2⟩, rfl⟩ := hk
        have h4 : (l ++ o₁ :: tl).toArray[j]? = some (l ++ o₁ :: tl)[j] := by rw [List.getElem?_toArray]; exact List.getElem?_eq_getElem hlt
        rw [h4] at h3
        simp only [Option.map_some, Option.getD_some, Array.all_eq_true_iff_forall_mem] at h3
        have h5 := h3 e (by simpa using he1)
        rw [he2] at h5
        simp only [Bool.not_true, Bool.false_or, Array.getD_eq_getD_getElem?] at h5
        cases hx : listed[e.on]? with
        | none => simp [hx] at h5
        | some b => simp [hx] at h5; rw [h5]
    have hne : Region.ready .any (l ++ o₁ :: tl).toArray listed ≠ [] := by
      obtain ⟨i, h1, h2⟩ := falses_pos (bs := listed.toList) (by omega)
      have hlt : i < (l ++ o₁ :: tl).length := by
        have := (List.getElem?_eq_some_iff.1 h1).1
        simp only [Array.length_toList] at this; omega
      intro hnil
      have hmem : i ∈ Region.ready .any (l ++ o₁ :: tl).toArray listed := by
        simp only [Region.ready, List.mem_filter, List.mem_range, Bool.and_eq_true]
        refine ⟨by simpa using hlt, ?_, ?_⟩
        · have : listed[i]? = some false := by simpa using h1
          simp [Array.getD_eq_getD_getElem?, this]
        · have h4 : (l ++ o₁ :: tl).toArray[i]? = some (l ++ o₁ :: tl)[i] := by rw [List.getElem?_toArray]; exact List.getElem?_eq_getElem hlt
          rw [h4]
          simp only [Option.map_some, Option.getD_some, Array.all_eq_true_iff_forall_mem]
          intro e he
          cases hb : Region.binds .any e with
          | false => rfl
          | true =>
            have hk : e.on ∈ preds (l ++ o₁ :: tl)[i] := by
              simp only [preds, List.mem_map, List.mem_filter]; exact ⟨e, ⟨by simpa using he, hb⟩, rfl⟩
            have hlt' := lexOk_preds hlex i (l ++ o₁ :: tl)[i] (List.getElem?_eq_getElem hlt) _ hk
            have : listed[e.on]? = some true := by simpa using h2 e.on (by omega)
            simp [Array.getD_eq_getD_getElem?, this]
      rw [hnil] at hmem; cases hmem
    simp only [Region.linearise.go]
    change wpOpsIn (FW r) 0 P (l ++ o₁ :: tl).toArray Q (match (Region.ready .any (l ++ o₁ :: tl).toArray listed)[t % (Region.ready .any (l ++ o₁ :: tl).toArray listed).length]? with
      | some i => Region.linearise.go .any (l ++ o₁ :: tl).toArray fuel (t / (Region.ready .any (l ++ o₁ :: tl).toArray listed).length) (listed.setIfInBounds i true) [i]
      | none => [].reverse) a w
    have hlt : t % (Region.ready .any (l ++ o₁ :: tl).toArray listed).length < (Region.ready .any (l ++ o₁ :: tl).toArray listed).length := Nat.mod_lt _ (List.length_pos_iff.2 hne)
    rw [List.getElem?_eq_getElem hlt]
    have hmem := List.getElem_mem hlt
    generalize (Region.ready .any (l ++ o₁ :: tl).toArray listed)[t % (Region.ready .any (l ++ o₁ :: tl).toArray listed).length] = j at hmem
    obtain ⟨o, h1, h2, h3⟩ := hready j hmem
    simp only []
    rw [linearise_go_acc, List.reverse_singleton, List.singleton_append]
    have hjl : j < l.length + 1 + tl.length := by have := (List.getElem?_eq_some_iff.1 h1).1; omega
    have h2' : listed.toList[j]? = some false := by simpa using h2
    have hcnt := falses_set h2'
    by_cases hjm : j = l.length
    · subst hjm
      have ho : o = o₁ := by simpa using h1.symm
      subst ho
      have hallD : ∀ i, i < l.length → listed[i]? = some true := fun i hi' => behind_all (D := fun i => listed[i]? = some true) hi.closed l.length (preds o) hlast (fun k hk => h3 k hk) i hi'
      have hfu : fuel = tl.length := by
        have hz : ((listed.toList.set l.length true).drop (l.length + 1)).countP (!·) = tl.length := by
          rw [List.drop_set_of_lt (by omega)]
          have hall : ∀ b ∈ listed.toList.drop (l.length + 1), (!b) = true := by
            intro b hb
            obtain ⟨i, hi'⟩ := List.mem_iff_getElem?.1 hb
            rw [List.getElem?_drop] at hi'
            have hil := (List.getElem?_eq_some_iff.1 hi').1
            simp only [Array.length_toList] at hil
            have := hlm (l.length + 1 + i) (by omega) (by omega)
            have h9 : listed.toList[l.length + 1 + i]? = some false := by simpa using this
            rw [hi'] at h9; cases h9; rfl
          rw [List.countP_eq_length.2 hall, List.length_drop, Array.length_toList]; omega
        have hy : ((listed.toList.set l.length true).take (l.length + 1)).countP (!·) = 0 := by
          rw [List.countP_eq_zero]
          intro b hb
          obtain ⟨i, hi'⟩ := List.mem_iff_getElem?.1 hb
          rw [List.getElem?_take] at hi'
          split at hi'
          · rw [List.getElem?_set] at hi'
            split at hi'
            · split at hi'
              · cases hi'; simp
              · cases hi'
            · have := hallD i (by omega)
              have h9 : listed.toList[i]? = some true := by simpa using this
              rw [hi'] at h9; cases h9; simp
          · cases hi'
        have := List.take_append_drop (l.length + 1) (listed.toList.set l.length true)
        have h8 : (listed.toList.set l.length true).countP (!·) = 0 + tl.length := by
          rw [← hy, ← hz, ← List.countP_append, this]
        omega
      subst hfu
      have hml : l.length < listed.size := by omega
      rw [go_chain hlex tl.length (l.length + 1) _ _ (by simpa using hsz) (by omega) (by
        simp only [chainB, List.all_eq_true] at hch ⊢
        intro j hj
        exact hch j (by rw [List.mem_range'_1] at hj ⊢; omega)) (fun i hi' => by
          rw [Array.getElem?_setIfInBounds]
          by_cases e : l.length = i
          · subst e; simp [hml]
          · rw [if_neg e]; exact hallD i (by omega)) (fun i h5 h6 => by
          rw [Array.getElem?_setIfInBounds, if_neg (by omega)]
          exact hlm i (by omega) h6) (fun i o' ho' he j hj => by have := lexOk_preds hlex i o' ho' j hj; omega)]
      have hrg : l.length :: List.range' (l.length + 1) tl.length = List.range' l.length (o :: tl).length := by simp [List.range'_succ]
      rw [hrg, wpOpsIn_eq_wpListIn (o :: tl) l.length (fun j => by rw [List.getElem?_toArray, List.getElem?_append_right (by omega)]; congr 1; omega)]
      refine hend a w ⟨hi.step.widen (fun b ⟨p, hp, hD, hb⟩ => ⟨p, hp, ?_, hb⟩) (fun b ⟨p, hp, _, hb⟩ => hEM p hp b hb), fun i o s h1 h2 h3 => hi.fin i o s h1 h2 (hallD i h3), hi.size, hi.defers, fun i o s d h1 h2 h3 => hi.done i o s d h1 h2 (hallD i h3), fun t v h4 h5 => hi.base t v h4 fun i o' h6 h7 => h5 i o' h6 ?_, fun i o' h4 h5 k hk => ?_⟩
      · have hil := (Array.getElem?_eq_some_iff.1 hD).1
        rcases Nat.lt_or_ge p.1 l.length with h | h
        · exact h
        · have hD' : listed[p.1]? = some true := hD
          rw [hlm p.1 h (by omega)] at hD'; cases hD'
      · rcases Nat.lt_or_ge i l.length with h | h
        · exact h
        · have hil := (List.getElem?_eq_some_iff.1 h6).1
          rw [hlm i h hil] at h7; cases h7
      · have := lexOk_preds hlex i o' h4 k hk
        omega
    · have hjlt0 : j < l.length := by
        rcases Nat.lt_or_ge j l.length with h | h
        · exact h
        · exfalso
          have hp := h3 _ (chainB_get hch (j := j) (by omega) h1)
          rw [hlm (j - 1) (by omega) (by omega)] at hp; cases hp
      have hlj : l[j]? = some o := by rwa [List.getElem?_append_left (by omega)] at h1
      refine hi.next hlex hUk hEM (by have := hob.get j o hlj; rwa [Nat.zero_add] at this) h1 (by rw [h2]; simp) h3 fun a' w' hi' => ?_
      refine ih _ _ _ _ (by simpa using hsz) ?_ ?_ ?_
      · simp only [Array.toList_setIfInBounds]; omega
      · intro i h5 h6; rw [Array.getElem?_setIfInBounds, if_neg (by omega)]; exact hlm i h5 h6
      · have hjlt : j < listed.size := (Array.getElem?_eq_some_iff.1 h2).1
        have hiff : ∀ i, ((listed.setIfInBounds j true)[i]? = some true) ↔ (i = j ∨ listed[i]? = some true) := by
          intro i
          rw [Array.getElem?_setIfInBounds]
          by_cases hij : j = i
          · subst hij; simp [hjlt]
          · rw [if_neg hij]; exact ⟨.inr, fun h => h.resolve_left (fun e => hij e.symm)⟩
        exact ⟨hi'.step.widen (fun b ⟨p, hp, hD, hb⟩ => ⟨p, hp, (hiff p.1).2 hD, hb⟩) (fun b ⟨p, hp, _, hb⟩ => hEM p hp b hb), fun i o s h1 h2 h3 => hi'.fin i o s h1 h2 ((hiff i).1 h3), hi'.size, hi'.defers, fun i o s d h1 h2 h3 => hi'.done i o s d h1 h2 ((hiff i).1 h3), fun t v h1 h2 => hi'.base t v h1 fun i o h3 h4 => h2 i o h3 ((hiff i).2 h4), fun i o h1 h2 k hk => (hiff k).2 (hi'.closed i o h1 ((hiff i).1 h2) k hk)⟩

/-- A region that draws its order, but for its last operations; F: what the others write. -/
theorem T.drawTailed {id : Nat} {l : List Oper} {o₁ : Oper} {tl : List Oper} (hm : P.follows .mixedOrders = true) (F : List (Nat × PSet)) (S : List (Asr M)) (hlex : lexOk (l ++ o₁ :: tl) 0 = true) (hlast : behindB (l ++ o₁ :: tl) l.length (preds o₁) = true) (hch : chainB (l ++ o₁ :: tl) (l.length + 1) = true) (hSl : S.length = l.length) (hEM : ∀ p ∈ F, ∀ b, p.2 b → M b) (hUk : UOk F (l ++ o₁ :: tl) S 0) (hob : Obls P r n F w (l ++ o₁ :: tl) S ds L l S 0)
    (hend : ∀ w', Step M w M w' (unions (F.map (·.2))) → EndP w' (fun acc => Rg P r n (l ++ o₁ :: tl).toArray (o₁ :: tl) (acc ++ baseL (l ++ o₁ :: tl) (l.length + 1 + tl.length) L) ds w' K) l S []) : T P r n (.region id (l ++ o₁ :: tl).toArray true) L ds w K := by
  refine ⟨fun a ha => wpIn_region_draw fun t => ?_⟩
  simp only [Region.schedule, hm, Bool.true_or, if_true, Region.linearise]
  have hd : Step M w M { w with drawn := w.drawn + 1 } none' := step_drew M w
  refine go_tailed (w0 := w) (S := S) hlex hlast hch hSl hob hUk.st hEM (Q := up n K) ?_ _ t _ a _ (by simp) (by simp [List.countP_replicate]) (by intro i _ h; simp [Array.getElem?_replicate]; simpa using h) ⟨hd.widen (fun _ h => h.elim) (fun b ⟨p, hp, _, hb⟩ => hEM p hp b hb), ?_, ha.size, ha.defers, ?_, ?_, ?_⟩
  · intro a' w' hi
    have hget : ∀ {i : Nat} {o : Oper}, l[i]? = some o → (l ++ o₁ :: tl)[i]? = some o ∧ i < l.length := fun {i o} h => by
      have h1 := (List.getElem?_eq_some_iff.1 h).1
      exact ⟨by rw [List.getElem?_append_left h1]; exact h, h1⟩
    obtain ⟨acc, h1, h2⟩ := EndP.use (a := a') l S [] (fun i o s h1 h2 h3 => hi.fin i o s (hget h1).1 h2 (hget h1).2 h3) (fun i o s d h1 h2 h3 => hi.done i o s d (hget h1).1 h2 (hget h1).2 h3) (fun t v h => by simp [lk] at h)
      (hend w' (hi.step.widen (fun b ⟨p, hp, _, hb⟩ => unions_iff.2 ⟨p.2, List.mem_map.2 ⟨p, hp, rfl⟩, hb⟩) (fun b hb => by
        obtain ⟨N, hN, hNb⟩ := unions_iff.1 hb
        obtain ⟨p, hp, rfl⟩ := List.mem_map.1 hN
        exact hEM p hp b hNb)))
    have h3 := h1.run a' ⟨hi.size, hi.defers, fun t v h => by
      rcases lk_append h with h | h
      · exact h2 t v h
      · obtain ⟨h3, h4⟩ := lk_filter (f := keepB (l ++ o₁ :: tl) (l.length + 1 + tl.length)) h
        refine hi.base t v h4 fun i o h5 _ h6 => ?_
        simp only [keepB, List.all_eq_true] at h3
        have := h3 o (List.mem_of_getElem? h5)
        simp only [h6, beq_self_eq_true, Bool.not_true, Bool.false_or, List.contains_iff_mem] at this
        have h7 := lexOk_preds hlex i o h5 _ this
        have h8 := (List.getElem?_eq_some_iff.1 h5).1
        simp at h8; omega⟩
    exact h3
  · intro i o s h1 h2 h3
    simp [Array.getElem?_replicate] at h3
  · intro i o s d h1 h2 h3
    simp [Array.getElem?_replicate] at h3
  · intro t v h1 _; exact ha.at_ t v h1
  · intro i o h1 h2
    simp [Array.getElem?_replicate] at h2

/-- A region that draws its order; F: what its operations write. -/
theorem T.drawW {id : Nat} {l : List Oper} (hm : P.follows .mixedOrders = true) (F : List (Nat × PSet)) (S : List (Asr M)) (hlex : lexOk l 0 = true) (hEM : ∀ p ∈ F, ∀ b, p.2 b → M b) (hUk : StOk F l S) (hob : Obls P r n F w l S ds L l S 0)
    (hend : ∀ w', Step M w M w' (unions (F.map (·.2))) → EndP w' (fun acc => K .normal (acc ++ baseL l l.length L) ds w') l S []) : T P r n (.region id l.toArray true) L ds w K := by
  refine ⟨fun a ha => wpIn_region_draw fun t => ?_⟩
  simp only [Region.schedule, hm, Bool.true_or, if_true, Region.linearise]
  have hd : Step M w M { w with drawn := w.drawn + 1 } none' := step_drew M w
  refine go_orders (w0 := w) (S := S) hlex hob hUk hEM (Q := up n K) ?_ _ t _ a _ (by simp) (by simp [List.countP_replicate]) ⟨hd.widen (fun _ h => h.elim) (fun b ⟨p, hp, _, hb⟩ => hEM p hp b hb), ?_, ha.size, ha.defers, ?_, ?_, ?_⟩
  · intro a' w' hi
    obtain ⟨acc, h1, h2⟩ := EndP.use (a := a') l S [] (fun i o s h1 h2 h3 => hi.fin i o s h1 h2 ((List.getElem?_eq_some_iff.1 h1).1) h3) (fun i o s d h1 h2 h3 => hi.done i o s d h1 h2 ((List.getElem?_eq_some_iff.1 h1).1) h3) (fun t v h => by simp [lk] at h)
      (hend w' (hi.step.widen (fun b ⟨p, hp, _, hb⟩ => unions_iff.2 ⟨p.2, List.mem_map.2 ⟨p, hp, rfl⟩, hb⟩) (fun b hb => by
        obtain ⟨N, hN, hNb⟩ := unions_iff.1 hb
        obtain ⟨p, hp, rfl⟩ := List.mem_map.1 hN
        exact hEM p hp b hNb)))
    refine ⟨_, _, ⟨hi.size, hi.defers, fun t v h => ?_⟩, h1⟩
    rcases lk_append h with h | h
    · exact h2 t v h
    · obtain ⟨h3, h4⟩ := lk_filter (f := keepB l l.length) h
      refine hi.base t v h4 fun i o h5 _ h6 => ?_
      simp only [keepB, List.all_eq_true] at h3
      have := h3 o (List.mem_of_getElem? h5)
      simp only [h6, beq_self_eq_true, Bool.not_true, Bool.false_or, List.contains_iff_mem] at this
      have h7 := lexOk_preds hlex i o h5 _ this
      have h8 := (List.getElem?_eq_some_iff.1 h5).1
      omega
  · intro i o s h1 h2 h3
    simp [Array.getElem?_replicate] at h3
  · intro i o s d h1 h2 h3
    simp [Array.getElem?_replicate] at h3
  · intro t v h1 _; exact ha.at_ t v h1
  · intro i o h1 h2
    simp [Array.getElem?_replicate] at h2

theorem T.drawE {id : Nat} {l : List Oper} (hm : P.follows .mixedOrders = true) (F : List (Nat × PSet)) (S : List (Asr M)) (hlex : lexOk l 0 = true) (hEM : ∀ p ∈ F, ∀ b, p.2 b → M b) (hUk : UOk F l S 0) (hob : Obls P r n F w l S ds L l S 0)
    (hend : ∀ w', Step M w M w' (unions (F.map (·.2))) → EndP w' (fun acc => K .normal (acc ++ baseL l l.length L) ds w') l S []) : T P r n (.region id l.toArray true) L ds w K := .drawW hm F S hlex hEM hUk.st hob hend

theorem UOk.none : ∀ {l : List Oper} {S : List (Asr M)} {k : Nat}, UOk [] l S k
  | [], _, _ => by simp [UOk]
  | _ :: _, [], _ => by simp [UOk]
  | _ :: _, _ :: _, _ => ⟨fun p hp => by simp at hp, UOk.none⟩
/-- A region that draws its order, and writes nothing that was there. -/
theorem T.draw {id : Nat} {l : List Oper} (hm : P.follows .mixedOrders = true) (S : List (Asr M)) (hlex : lexOk l 0 = true) (hob : Obls P r n [] w l S ds L l S 0)
    (hend : ∀ w', Step M w M w' none' → EndP w' (fun acc => K .normal (acc ++ baseL l l.length L) ds w') l S []) : T P r n (.region id l.toArray true) L ds w K :=
  .drawE hm [] S hlex (fun p hp => by cases hp) UOk.none hob hend

/-- the obligations of the first operations, as many as S has assertions -/
def OblsS (P : Program) (r : Option Nat) (n : Nat) {M : PSet} (F : List (Nat × PSet)) (w : World) (l : List Oper) (S : List (Asr M)) (ds : List Deferred) (L : Sl) : List Oper → List (Asr M) → Nat → Prop
  | o :: os, s :: ss, j => Obl P r n F w l S ds L j o s ∧ OblsS P r n F w l S ds L os ss (j + 1)
  | [], [], _ => True
  | _ :: _, [], _ => True
  | [], _ :: _, _ => False
theorem OblsS.cons {l : List Oper} {S : List (Asr M)} {o : Oper} {os : List Oper} {s : Asr M} {ss : List (Asr M)} {j : Nat}
    (h : Obl P r n F w l S ds L j o s) (h' : OblsS P r n F w l S ds L os ss (j + 1)) : OblsS P r n F w l S ds L (o :: os) (s :: ss) j := ⟨h, h'⟩
theorem OblsS.nil {l : List Oper} {S : List (Asr M)} {o : Oper} {os : List Oper} {j : Nat} : OblsS P r n F w l S ds L (o :: os) [] j := by unfold OblsS; trivial
theorem OblsS.take {l : List Oper} {S : List (Asr M)} : ∀ {os : List Oper} {ss : List (Asr M)} {j : Nat}, OblsS P r n F w l S ds L os ss j → Obls P r n F w l S ds L (os.take ss.length) ss j
  | [], [], _, _ => by simp [Obls]
  | _ :: _, [], _, _ => by simp [Obls]
  | [], _ :: _, _, h => by simp [OblsS] at h
  | _ :: os, _ :: ss, _, h => ⟨h.1, OblsS.take h.2⟩
theorem EndP.take {w : World} {k : Sl → Prop} : ∀ {os : List Oper} {ss : List (Asr M)} {acc : Sl}, EndP w k os ss acc → EndP w k (os.take ss.length) ss acc
  | [], [], _, h => by simpa [EndP] using h
  | _ :: _, [], _, h => by simpa [EndP] using h
  | [], _ :: _, _, h => by simpa [EndP] using h
  | o :: os, s :: ss, acc, h => by
    simp only [List.length_cons, List.take_succ_cons, EndP] at h ⊢
    split
    · rename_i d hd
      rw [hd] at h
      exact fun v hv => EndP.take (h v hv)
    · rename_i hd
      rw [hd] at h
      exact fun v hv => EndP.take (h v hv)
theorem T.drawL {id : Nat} {l : List Oper} (o₁ : Oper) (hm : P.follows .mixedOrders = true) (F : List (Nat × PSet)) (S : List (Asr M)) (ho : l[S.length]? = some o₁) (hSl : l.length = S.length + 1) (hlex : lexOk l 0 = true) (hlast : (List.range S.length).all (fun i => (preds o₁).contains i || (preds o₁).any (fun k => ((l[k]?.map preds).getD []).contains i)) = true) (hEM : ∀ p ∈ F, ∀ b, p.2 b → M b) (hUk : UOk F l S 0) (hob : OblsS P r n F w l S ds L l S 0)
    (hend : ∀ w', Step M w M w' (unions (F.map (·.2))) → EndP w' (fun acc => Rg P r n l.toArray [o₁] (acc ++ baseL l l.length L) ds w' (fun e L ds w => e = .normal ∧ K .normal L ds w)) l S []) : T P r n (.region id l.toArray true) L ds w K := by
  have hl : l = l.take S.length ++ [o₁] := by
    obtain ⟨h1, h2⟩ := List.getElem?_eq_some_iff.1 ho
    rw [← h2, ← List.take_succ_eq_append_getElem h1, ← hSl, List.take_length]
  have hm' : (l.take S.length).length = S.length := by simp; omega
  have := T.drawLast (id := id) (l := l.take S.length) (o₁ := o₁) (w := w) (K := K) hm F S (by rw [← hl]; exact hlex) (by rw [hm', ← hl]; exact hlast) hm'.symm hEM (by rw [← hl]; exact hUk) (by rw [← hl]; exact hob.take) (fun w' s => by rw [← hl, hm', ← hSl]; exact (hend w' s).take)
  rwa [← hl] at this
theorem T.drawT {id : Nat} {l : List Oper} (hm : P.follows .mixedOrders = true) (F : List (Nat × PSet)) (S : List (Asr M)) (m : Nat) (hSm : S.length = m) (hml : Nat.blt m l.length = true) (hlex : lexOk l 0 = true) (hlast : behindB l m ((l[m]?.map preds).getD []) = true) (hch : chainB l (m + 1) = true) (hEM : ∀ p ∈ F, ∀ b, p.2 b → M b) (hUk : UOk F l S 0) (hob : OblsS P r n F w l S ds L l S 0)
    (hend : ∀ w', Step M w M w' (unions (F.map (·.2))) → EndP w' (fun acc => Rg P r n l.toArray (l.drop m) (acc ++ baseL l l.length L) ds w' K) l S []) : T P r n (.region id l.toArray true) L ds w K := by
  subst hSm
  have hSl : S.length < l.length := by simpa [Nat.blt_eq] using hml
  have hl : l = l.take S.length ++ l[S.length] :: l.drop (S.length + 1) := by
    rw [← List.drop_eq_getElem_cons hSl, List.take_append_drop]
  have hm' : (l.take S.length).length = S.length := by simp; omega
  have hg : l[S.length]? = some l[S.length] := List.getElem?_eq_getElem hSl
  have hln : S.length + 1 + (l.drop (S.length + 1)).length = l.length := by rw [List.length_drop]; omega
  have := T.drawTailed (id := id) (l := l.take S.length) (o₁ := l[S.length]) (tl := l.drop (S.length + 1)) (w := w) (K := K) hm F S (by rw [← hl]; exact hlex) (by rw [hm', ← hl]; rw [hg] at hlast; exact hlast) (by rw [hm', ← hl]; exact hch) hm'.symm hEM (by rw [← hl]; exact hUk) (by rw [← hl]; exact hob.take) (fun w' s => by rw [← hl, hm', hln, ← List.drop_eq_getElem_cons hSl]; exact (hend w' s).take)
  rwa [← hl] at this
end
end Go.K

/- Maps: a block that holds one, and the operations' rules; in plain Lean: a map of whole numbers to blocks. No program is named here. -/
import Derived.Test.YtohfoenhmkfjkaaGreatDoorKFloat
import Derived.Test.YtohfoenhmkfjkaaGreatDoorKArr
import Derived.Maps.OwnSet
namespace Go.K
set_option linter.unusedVariables false
set_option linter.unusedSimpArgs false
open Go.RowKit (Below)
open Go.Maps (Keyed)
open Go.ChangeMaps (putKey delKey notKey)
abbrev DU := DataW Unit
theorem maps_size {P : Program} {k : TypeId} {R : Value → Option (DU × List MemPlace)} {w : World} {b n : Nat} {m : List (Lit × DU)} (h : w.ownsMap P k R b n (.map m)) : w.ownsMap P k R b m.length (.map m) := by
  obtain ⟨es, clock, h1, h2, h3, h4⟩ := h
  refine ⟨es, clock, h1, h2, ?_, h4⟩
  have : m = (es.toList.map (Go.WideElems.rg P k R)).foldr DataW.insert [] := by injection h4
  rw [this, length_sorted, List.length_map, Array.length_toList]; exact Nat.le_refl _
/-- a map that may be written, in a block -/
structure MapO (P : Program) (k : TypeId) (R : Value → Option (DU × List MemPlace)) (M : PSet) (w : World) (b : Nat) (m : List (Lit × DU)) : Prop where
  mut_ : M b
  own : w.ownsMap P k R b m.length (.map m)
section
variable {P : Program} {r : Option Nat} {n : Nat} {L : Sl} {ds : List Deferred} {w : World} {K : Kt} {ops : Array Oper} {rest : List Oper} {d : Nat} {x y z : Operand} {ty : TypeId} {pos : String} {af : Array Edge}
variable {kt : TypeId} {R : Value → Option (DU × List MemPlace)} {M : PSet} {b : Nat} {m : List (Lit × DU)}
theorem MapO.lt (h : MapO P kt R M w b m) : b < w.heap.size := h.own.lt
theorem MapO.step {M' N : PSet} {w' : World} (h : MapO P kt R M w b m) (s : Step M w M' w' N) (hn : ¬ N b) : MapO P kt R M' w' b m := by
  obtain ⟨hm, es, clock, h1, h2, h3, h4⟩ := h
  exact ⟨(s.mem b (lt_of_get h1)).2 hm, es, clock, s.keep h1 hn, h2, h3, h4⟩
theorem MapO.step0 {M' : PSet} {w' : World} (h : MapO P kt R M w b m) (s : Step M w M' w' none') : MapO P kt R M' w' b m := h.step s fun h => h
/-- a map is no row of cells -/
theorem MapO.ne {cs : Array Value} {e : TypeId} {fr : Nat × Nat} {c : Nat} (h : MapO P kt R M w b m) (hc : w.heap[c]? = some (.cells cs e fr)) : b ≠ c := fun e => by
  subst e
  obtain ⟨_, es, clock, h1, _⟩ := h
  rw [h1] at hc; cases hc
theorem Step.below' {w w' : World} (h : Below w.heap.size w w') (M : PSet) : Step M w M w' none' :=
  ⟨fun h0 b hb => Nat.lt_of_lt_of_le (h0 b hb) h.size, h.os, h.tape, h.output, h.size, fun _ _ => Iff.rfl, fun b hb _ => h.block b hb, fun _ h => h.elim⟩
theorem Step.grownBy {w w' : World} {b : Nat} (h : w.grownBy w' (some b)) (hm : M b) : Step M w M w' (fun k => k = b) :=
  ⟨fun h0 b hb => Nat.lt_of_lt_of_le (h0 b hb) h.size, h.os, h.tape, h.output, h.size, fun _ _ => Iff.rfl, fun k hk hn => h.block k hk (fun e => hn (Option.some.inj e)), fun k hk => by rw [hk]; exact hm⟩
theorem Rg.makeMap {t e : TypeId} (M : PSet) (ht : P.underlying t = some (.map kt e)) (hd : Nat.blt d n = true) (R : Value → Option (DU × List MemPlace))
    (k : ∀ b w', w.heap.size ≤ b → b < w'.heap.size → MapO P kt R (ins M b) w' b [] → Step M w (ins M b) w' none' → Rg P r n ops rest ((d, .map (some b)) :: L) ds w' K) :
    Rg P r n ops ({ dst := some d, op := .makeMap t none, type := ty, pos, after := af, guard := none } :: rest) L ds w K := by
  refine .op (fun _ h => by cases h) rfl rfl hd (.map (some w.heap.size)) (w.alloc (.map #[] 0)) (fun ρ hρ => ?_) (k w.heap.size _ (Nat.le_refl _) (by simp) ⟨.inl rfl, World.ownsMap_made w P kt R⟩ ((step_alloc M w _).own (Nat.le_refl _) (by simp)))
  simp only [execOp]
  simp [Instr.makeMap, newObj, Sem.run, run_underlying ht]
theorem Rg.mapget {t e : TypeId} {zv key : Value} {size bytes : Nat} {zd : DU} {zp : List MemPlace} {kl : Lit} (ht : P.underlying t = some (.map kt e)) (Kk : Keyed P kt) (hi : TI P e zv size bytes) (hzd : R zv = some (zd, zp)) (hx : ev L x = some (.map (some b))) (hy : ev L y = some key) (hd : Nat.blt d n = true) (hkey : keyOf P kt key = some kl) (h : MapO P kt R M w b m)
    (k : ∀ v ps, R v = some ((DataW.map m).atKey kl zd, ps) → Rg P r n ops rest ((d, v) :: L) ds w K) :
    Rg P r n ops ({ dst := some d, op := .lookup t x y false, type := ty, pos, after := af, guard := none } :: rest) L ds w K := by
  obtain ⟨inf, i1, i2, _, _⟩ := hi.get
  obtain ⟨v, ps, hrun, hv⟩ := h.own.lookup Kk ht (z := zv) (by simp [zeroValue, typeInfo, i1, i2]) hzd hkey
  refine .op (fun _ h => by cases h) rfl rfl hd v w (fun ρ hρ => ?_) (k v ps hv)
  simp only [execOp, hρ x _ hx, hρ y _ hy]
  simp [Sem.run_bind, hrun]
theorem Rg.mapset {t e : TypeId} {key val : Value} {kl : Lit} {dv : DU} {ps : List MemPlace} (ht : P.underlying t = some (.map kt e)) (Kk : Keyed P kt) (hx : ev L x = some (.map (some b))) (hy : ev L y = some key) (hz : ev L z = some val) (hkey : keyOf P kt key = some kl) (hv : R val = some (dv, ps)) (h : MapO P kt R M w b m) (hlen : m.length < maxLen)
    (k : ∀ w', MapO P kt R M w' b (putKey kl dv m) → Step M w M w' (fun k => k = b) → Rg P r n ops rest L ds w' K) :
    Rg P r n ops ({ dst := none, op := .mapUpdate t x y z, type := ty, pos, after := af, guard := none } :: rest) L ds w K := by
  obtain ⟨w', hrun, ho, hg⟩ := h.own.update Kk ht hlen hkey hv
  rw [DataW.put_eq] at ho
  refine .opu (fun _ h => by cases h) rfl rfl w' (fun ρ hρ => ?_) (k w' ⟨h.mut_, maps_size ho⟩ (.grownBy hg h.mut_))
  simp only [execOp, hρ x _ hx, hρ y _ hy, hρ z _ hz]
  simp [Sem.run_bind, hrun]
theorem Rg.mapdel {t e : TypeId} {key : Value} {kl : Lit} (ht : P.underlying t = some (.map kt e)) (Kk : Keyed P kt) (hx : ev L x = some (.map (some b))) (hy : ev L y = some key) (hkey : keyOf P kt key = some kl) (h : MapO P kt R M w b m)
    (k : ∀ w', MapO P kt R M w' b (delKey kl m) → Step M w M w' (fun k => k = b) → Rg P r n ops rest L ds w' K) :
    Rg P r n ops ({ dst := none, op := .call { callee := .builtin .delete, args := #[x, y], argTypes := #[t, kt] }, type := ty, pos, after := af, guard := none } :: rest) L ds w K := by
  obtain ⟨w', hrun, ho, hg⟩ := h.own.drop Kk ht hkey ty
  rw [DataW.del_eq] at ho
  refine .opv (fun _ h => by cases h) rfl rfl (.tuple #[]) w' (fun ρ hρ => ?_) (k w' ⟨h.mut_, maps_size ho⟩ (.grownBy hg.grown h.mut_))
  simp only [execOp, resolve, List.map_toArray, List.map_cons, List.map_nil, hρ x _ hx, hρ y _ hy]
  simp [Go.invoke, builtin, hrun]
end

/-! ### A map of whole numbers to blocks -/
/-- a pointer reads as its block -/
def ptrR : Value → Option (DU × List MemPlace)
  | .pointer (some ⟨b, 0, none⟩) => some (.lit (.int .i64 (b : Int)), [])
  | .pointer none => some (.lit (.int .i64 (-1)), [])
  | _ => none
theorem ptrR_some {v : Value} {b : Nat} {ps : List MemPlace} (h : ptrR v = some (.lit (.int .i64 (b : Int)), ps)) : v = .pointer (some ⟨b, 0, none⟩) := by
  unfold ptrR at h
  split at h
  · simp only [Option.some.injEq, Prod.mk.injEq, DataW.lit.injEq, Lit.int.injEq, true_and] at h
    rename_i b'
    obtain ⟨h, _⟩ := h
    obtain rfl : b' = b := by omega
    rfl
  · simp only [Option.some.injEq, Prod.mk.injEq, DataW.lit.injEq, Lit.int.injEq, true_and] at h
    obtain ⟨h, _⟩ := h; omega
  · cases h
theorem ptrR_none {v : Value} {ps : List MemPlace} (h : ptrR v = some (.lit (.int .i64 (-1)), ps)) : v = .pointer none := by
  unfold ptrR at h
  split at h
  · simp only [Option.some.injEq, Prod.mk.injEq, DataW.lit.injEq, Lit.int.injEq, true_and] at h
    obtain ⟨h, _⟩ := h; omega
  · rfl
  · cases h
def encE (p : Int × Nat) : Lit × DU := (.int .i64 p.1, .lit (.int .i64 (p.2 : Int)))
def insI (p : Int × Nat) : List (Int × Nat) → List (Int × Nat)
  | [] => [p]
  | q :: l => if p.1 < q.1 then p :: q :: l else q :: insI p l
theorem insI_enc (p : Int × Nat) : ∀ l, DataW.insert (encE p) (l.map encE) = (insI p l).map encE
  | [] => rfl
  | q :: l => by
    simp only [List.map_cons, DataW.insert, insI, encE, Lit.before]
    by_cases h : p.1 < q.1
    · simp [h, encE]
    · simp only [h, decide_false, Bool.false_eq_true, if_false, List.map_cons]
      have := insI_enc p l
      simp only [encE] at this
      rw [this]; rfl
theorem insI_len (p : Int × Nat) : ∀ l, (insI p l).length = l.length + 1
  | [] => rfl
  | q :: l => by
    simp only [insI]; split
    · rfl
    · simp [insI_len p l]
theorem insI_mem (p : Int × Nat) : ∀ l x, x ∈ insI p l ↔ x = p ∨ x ∈ l
  | [], x => by simp [insI]
  | q :: l, x => by
    simp only [insI]; split
    · simp
    · rw [List.mem_cons, insI_mem p l x, List.mem_cons]
      constructor
      · rintro (h | h | h); exact .inr (.inl h); exact .inl h; exact .inr (.inr h)
      · rintro (h | h | h); exact .inr (.inl h); exact .inl h; exact .inr (.inr h)
theorem notKey_enc (i : Int) (p : Int × Nat) : notKey (.int .i64 i) (encE p) = !decide (p.1 = i) := by simp [notKey, encE, Lit.sameKey]
theorem delKey_enc (i : Int) (l : List (Int × Nat)) : delKey (.int .i64 i) (l.map encE) = (l.filter fun p => !decide (p.1 = i)).map encE := by
  unfold delKey
  rw [List.filter_map]
  congr 1
  refine List.filter_congr fun q _ => ?_
  exact notKey_enc i q
theorem putKey_enc (i : Int) (b : Nat) (l : List (Int × Nat)) : putKey (.int .i64 i) (.lit (.int .i64 (b : Int))) (l.map encE) = (insI (i, b) (l.filter fun p => !decide (p.1 = i))).map encE := by
  have := delKey_enc i l
  unfold delKey at this
  unfold putKey
  rw [this]
  exact insI_enc (i, b) _
/-- no two entries of one number -/
def DisK (l : List (Int × Nat)) : Prop := l.Pairwise fun p q => p.1 ≠ q.1
theorem insI_perm (p : Int × Nat) : ∀ l, (insI p l).Perm (p :: l)
  | [] => List.Perm.refl _
  | q :: l => by
    simp only [insI]; split
    · exact List.Perm.refl _
    · exact ((insI_perm p l).cons q).trans (List.Perm.swap p q l)
theorem DisK.ins {p : Int × Nat} {l : List (Int × Nat)} (h : DisK l) (hp : ∀ q ∈ l, q.1 ≠ p.1) : DisK (insI p l) :=
  ((insI_perm p l).symm.pairwise (List.pairwise_cons.2 ⟨fun q hq e => hp q hq e.symm, h⟩) (fun {_ _} hne => Ne.symm hne))
theorem filter_none {l : List (Int × Nat)} {i : Int} (h : ∀ q ∈ l, q.1 ≠ i) : (l.filter fun p => !decide (p.1 = i)) = l := List.filter_eq_self.2 fun q hq => by simp [h q hq]
theorem filter_len {l : List (Int × Nat)} {i : Int} {b : Nat} (h : DisK l) (hm : (i, b) ∈ l) : (l.filter fun p => !decide (p.1 = i)).length + 1 = l.length := by
  induction l with
  | nil => cases hm
  | cons q l ih =>
    obtain ⟨h1, h2⟩ := List.pairwise_cons.1 h
    rcases List.mem_cons.1 hm with e | hm
    · subst e
      rw [List.filter_cons_of_neg (by simp), filter_none (fun q hq e => h1 q hq e.symm)]; rfl
    · have hne : q.1 ≠ i := fun e => h1 _ hm e
      rw [List.filter_cons_of_pos (by simp [hne]), List.length_cons, List.length_cons, ih h2 hm]
theorem DisK.filter {l : List (Int × Nat)} (h : DisK l) (i : Int) : DisK (l.filter fun p => !decide (p.1 = i)) := List.Pairwise.filter _ h
theorem atKey_mem {l : List (Int × Nat)} {i : Int} {b : Nat} {z : DU} (h : DisK l) (hm : (i, b) ∈ l) : (DataW.map (l.map encE)).atKey (.int .i64 i) z = .lit (.int .i64 (b : Int)) := by
  induction l with
  | nil => cases hm
  | cons q l ih =>
    obtain ⟨h1, h2⟩ := List.pairwise_cons.1 h
    simp only [DataW.atKey, List.map_cons]
    rcases List.mem_cons.1 hm with e | hm
    · subst e
      rw [List.find?_cons_of_pos (by simp [encE, Lit.sameKey])]; rfl
    · have hne : q.1 ≠ i := fun e => h1 _ hm e
      rw [List.find?_cons_of_neg (by simp [encE, Lit.sameKey, hne])]
      exact ih h2 hm
theorem atKey_none {l : List (Int × Nat)} {i : Int} {z : DU} (h : ∀ q ∈ l, q.1 ≠ i) : (DataW.map (l.map encE)).atKey (.int .i64 i) z = z := by
  have : (l.map encE).find? (fun p => p.1.sameKey (.int .i64 i)) = none := by
    rw [List.find?_eq_none]
    intro x hx
    obtain ⟨q, hq, rfl⟩ := List.mem_map.1 hx
    simp [encE, Lit.sameKey, h q hq]
  simp only [DataW.atKey, this]
end Go.K

/- Methods of interface values; elements of own slices, written in place; copy and clear. No program is named here. -/
import Derived.Test.YtohfoenhmkfjkaaGreatDoorKCell2
import Derived.Laws.IdiomCopy
import Derived.Lib.SliceRun
namespace Go.K
set_option linter.unusedVariables false
set_option linter.unusedSimpArgs false
section
variable {P : Program} {r : Option Nat} {n : Nat} {L : Sl} {ds : List Deferred} {w : World} {K : Kt} {ops : Array Oper} {rest : List Oper} {d : Nat} {ty : TypeId} {pos : String} {af : Array Edge} {x y i : Operand} {α : Type} {A : RT α}

/-- an operation whose value is let go -/
theorem Rg.opv {o : Oper} (hnd : ∀ c, o.op ≠ .defer c) (hg : o.guard = none) (hd : o.dst = none) (v : Value) (w' : World)
    (hrun : ∀ ρ : Operand → Value, (∀ x u, ev L x = some u → ρ x = u) → (execOp ρ o).run P w = .ok (.value v) w')
    (h : Rg P r n ops rest L ds w' K) : Rg P r n ops (o :: rest) L ds w K := by
  refine ⟨fun a ha => wpListIn_plain hg fun K' hK' => op_wp hnd ?_⟩
  rw [hrun a.eval (fun x u hx => ha.eval hx), Oper.uponIn_value, hd]
  exact hK' _ _ (h.run _ ha)

/-! ### Methods -/
/-- a method of a type's, by its name: its function; is the receiver the pointer itself? -/
def Meth (P : Program) (t : TypeId) (name : String) (f : FuncId) (ptr : Bool) : Prop :=
  (P.info? t).bind (fun i => (i.methods.find? (fun m => m.name == name)).map fun m => (m.path.toList.length, m.func)) = some (0, some (f, ptr))
theorem Meth.get {t : TypeId} {name : String} {f : FuncId} {ptr : Bool} (h : Meth P t name f ptr) : ∃ inf m, P.info? t = some inf ∧ inf.methods.find? (fun m => m.name == name) = some m ∧ m.path = #[] ∧ m.func = some (f, ptr) := by
  unfold Meth at h
  cases hi : P.info? t with
  | none => rw [hi] at h; cases h
  | some inf =>
    rw [hi] at h
    cases hm : inf.methods.find? (fun m => m.name == name) with
    | none => simp [hm] at h
    | some m =>
      simp [hm] at h
      exact ⟨inf, m, rfl, hm, h.1, h.2⟩
/-- what a method's name comes to, at a receiver -/
def MethAt (P : Program) (w : World) (t : TypeId) (v : Value) (name : String) (f : FuncId) (u : Value) : Prop := ∀ fuel : Nat, (method (fuel + 1) t v name).run P w = .ok (f, u) w
theorem Meth.ptr {t e : TypeId} {name : String} {f : FuncId} (h : Meth P t name f true) (ht : P.underlying t = some (.pointer e)) (v : Value) : MethAt P w t v name f v := fun fuel => by
  obtain ⟨inf, m, h1, h2, h3, h4⟩ := h.get
  simp [method, typeInfo, h1, h2, h3, h4, follow, receiverAt, run_underlying ht, Place.get]
theorem run_wrapnil (ats : Array TypeId) (ty : TypeId) (a : Addr) (s m : String) : (Builtin.ssaWrapNilChk_ ats ty #[.pointer (some a), strVal s, strVal m]).run P w = .ok (.pointer (some a)) w := rfl
theorem Meth.load {t e : TypeId} {u : TypeDesc} {name : String} {f : FuncId} {b : Nat} {cs : Array Value} {te : TypeId} {fr : Nat × Nat} {v : Value} (h : Meth P t name f false) (ht : P.underlying t = some (.pointer e)) (hu : P.underlying e = some u) (hf : flat u = true)
    (hb : w.heap[b]? = some (.cells cs te fr)) (hv : cs[0]? = some v) : MethAt P w t (.pointer (some ⟨b, 0, none⟩)) name f v := fun fuel => by
  obtain ⟨inf, m, h1, h2, h3, h4⟩ := h.get
  have hagg : (isAgg e).run P w = .ok false w := by
    unfold isAgg
    rw [Sem.run_bind, run_underlying hu w]
    cases u <;> simp_all [flat, Result.andThen]
  have hl : (loadVar e ⟨b, 0, none⟩).run P w = .ok v w := by simp [loadVar, hagg, Go.load, Sem.run, cell_at hb hv]
  simp [method, typeInfo, h1, h2, h3, h4, follow, receiverAt, run_underlying ht, Place.get, run_wrapnil, asAddr, hl]
theorem Rg.invoke {t : TypeId} {v u : Value} {name : String} {f : FuncId} {xs : List Operand} {vs : List Value} {ats : Array TypeId} {Q : Value → World → Prop} (hx : ev L x = some (.iface t v)) (hvs : evs L xs = some vs) (hd : Nat.blt d n = true) (hm : MethAt P w t v name f u) (he : Enters P f)
    (hs : Spec P f (u :: vs).toArray w Q) (k : ∀ v w', Q v w' → Rg P r n ops rest ((d, v) :: L) ds w' K) :
    Rg P r n ops ({ dst := some d, op := .call { callee := .invoke x name, args := xs.toArray, argTypes := ats }, type := ty, pos, after := af, guard := none } :: rest) L ds w K :=
  .opcall (w1 := w) (fun _ h => by cases h) rfl rfl hd (fun ρ h => by
    have h1 := evs_map h hvs
    have h2 := hm (P.types.size + 99)
    rw [show P.types.size + 99 + 1 = P.types.size + Made.depth from rfl] at h2
    simp only [execOp, resolve, List.map_toArray, h1, h x _ hx]
    have h3 := he (u :: vs).toArray w
    simp [Go.invoke, callMethod, h2] at h3 ⊢
    exact h3) hs k
def isI : TypeDesc → Bool
  | .interface _ => true
  | _ => false
theorem Rg.mkIface {t : TypeId} {u : TypeDesc} {v : Value} (hu : P.underlying t = some u) (hn : isI u = false) (hx : ev L x = some v) (hd : Nat.blt d n = true) (k : Rg P r n ops rest ((d, .iface t v) :: L) ds w K) :
    Rg P r n ops ({ dst := some d, op := .makeInterface t x, type := ty, pos, after := af, guard := none } :: rest) L ds w K :=
  .op (fun _ h => by cases h) rfl rfl hd _ w (fun ρ h => by
    simp only [execOp, h x _ hx]
    cases u <;> simp_all [Instr.makeInterface, run_underlying hu, isI]) k
theorem Rg.assertT {t xt : TypeId} {u : TypeDesc} {v : Value} (hu : P.underlying t = some u) (hn : isI u = false) (hx : ev L x = some (.iface t v)) (hd : Nat.blt d n = true) (k : Rg P r n ops rest ((d, v) :: L) ds w K) :
    Rg P r n ops ({ dst := some d, op := .typeAssert x xt t false, type := ty, pos, after := af, guard := none } :: rest) L ds w K :=
  .op (fun _ h => by cases h) rfl rfl hd _ w (fun ρ h => by
    simp only [execOp, h x _ hx]
    cases u <;> simp_all [Instr.typeAssert, run_underlying hu, isI]) k

/-! ### Own slices, in place -/
theorem AllR.set {M : PSet} {x : α} {vs : List Value} (hx : A.R M w x vs) : ∀ {xs : List α} {C : List Value}, AllR A M w xs C → ∀ {j : Nat}, j < xs.length → AllR A M w (xs.set j x) (C.take (j * A.n) ++ vs ++ C.drop (j * A.n + A.n))
  | [], _, _, j, hj => by simp at hj
  | y :: xs, _, ⟨us, rest, h1, h2, h3⟩, 0, _ => by
    subst h1
    have hl := A.len h2
    refine ⟨vs, rest, ?_, hx, h3⟩
    rw [Nat.zero_mul, List.take_zero, List.nil_append, Nat.zero_add, ← hl, List.drop_left]
  | y :: xs, _, ⟨us, rest, h1, h2, h3⟩, j + 1, hj => by
    subst h1
    have hl := A.len h2
    refine ⟨us, _, ?_, h2, AllR.set hx h3 (j := j) (by simpa using hj)⟩
    have e1 : (j + 1) * A.n = us.length + j * A.n := by rw [Nat.add_mul, hl]; omega
    rw [e1, List.take_length_add_append, show us.length + j * A.n + A.n = us.length + (j * A.n + A.n) from by omega, List.drop_length_add_append]
    simp
theorem AllR.take {M : PSet} : ∀ {xs : List α} {C : List Value}, AllR A M w xs C → ∀ m, AllR A M w (xs.take m) (C.take (m * A.n))
  | xs, C, h, 0 => by simp; exact (rfl : ([] : List Value) = [])
  | [], C, h, m + 1 => by cases h; simp; exact (rfl : ([] : List Value) = [])
  | y :: xs, _, ⟨us, rest, h1, h2, h3⟩, m + 1 => by
    subst h1
    have hl := A.len h2
    refine ⟨us, rest.take (m * A.n), ?_, h2, AllR.take h3 m⟩
    rw [show (m + 1) * A.n = us.length + m * A.n from by rw [Nat.add_mul, hl]; omega, List.take_length_add_append]
theorem seg_get {l vs : List Value} {o : Nat} (h : o + vs.length ≤ l.length) (t : Nat) : (l.take o ++ vs ++ l.drop (o + vs.length))[t]? = if o ≤ t ∧ t < o + vs.length then vs[t - o]? else l[t]? := by
  have h1 : (l.take o).length = o := by rw [List.length_take]; omega
  rcases Nat.lt_or_ge t o with h2 | h2
  · rw [if_neg (by omega), List.append_assoc, List.getElem?_append_left (by omega), List.getElem?_take, if_pos h2]
  · rcases Nat.lt_or_ge t (o + vs.length) with h3 | h3
    · rw [if_pos ⟨h2, h3⟩, List.getElem?_append_left (by rw [List.length_append]; omega), List.getElem?_append_right (by omega), h1]
    · rw [if_neg (by omega), List.getElem?_append_right (by rw [List.length_append]; omega), List.getElem?_drop, List.length_append, h1]
      congr 1; omega
/-- the value of an own slice that is not nil -/
theorem Own.ofSome {e : TypeId} {M : PSet} {base : Nat} {v : Value} {xs : List α} (h : Own A e M w base v xs) (hv : v ≠ .slice none 0 0) : ∃ g cap cur, v = .slice (some ⟨g, 0, none⟩) xs.length cap ∧ base ≤ g ∧ M g ∧ w.heap[g]? = some (.cells cur e (0, 0)) := by
  obtain ⟨⟨C, hr, _⟩, hm⟩ := h
  rcases hr.2 with ⟨h1, _⟩ | ⟨g, cap, cur, h1, h2, h3, _⟩
  · exact absurd h1 hv
  · exact ⟨g, cap, cur, h1, h2, hm g (by rw [h1]; rfl), h3⟩
theorem Own.setCells {e : TypeId} {M : PSet} {base g len cap j : Nat} {xs : List α} {x : α} {vs : List Value} (h : Own A e M w base (.slice (some ⟨g, 0, none⟩) len cap) xs) (hj : j < xs.length) (hx : A.R M w x vs) :
    ∃ w', w' = w.setCells g (j * A.n) vs ∧ Own A e M w' base (.slice (some ⟨g, 0, none⟩) len cap) (xs.set j x) ∧ Step M w M w' (fun k => k = g) := by
  obtain ⟨⟨C, hr, ha⟩, hm⟩ := h
  have hmg := hm g rfl
  have hl := A.len hx
  rcases hr.2 with ⟨h1, _⟩ | ⟨g', cap', cur, h1, h2, h3, h4, h5, h6, h7⟩
  · cases h1
  · simp only [Value.slice.injEq, Option.some.injEq, Addr.mk.injEq] at h1
    obtain ⟨⟨rfl, _⟩, rfl, rfl⟩ := h1
    obtain ⟨cs', c1, c2, c3, c4⟩ := setCells_go vs w g (j * A.n) cur e (0, 0) h3
    have hs := c4 M hmg
    have hjn : j * A.n + A.n ≤ xs.length * A.n := by have := Nat.mul_le_mul_right A.n (show j + 1 ≤ xs.length from hj); rw [Nat.add_mul] at this; omega
    have hcl : xs.length * A.n ≤ cap * A.n := Nat.mul_le_mul_right _ h4
    have hCl : C.length = xs.length * A.n := hr.1
    refine ⟨_, rfl, ⟨⟨C.take (j * A.n) ++ vs ++ C.drop (j * A.n + A.n), ⟨?_, .inr ⟨g, cap, cs', by rw [List.length_set], h2, c1, by rw [List.length_set]; exact h4, h5, by rw [c2]; exact h6, ?_⟩⟩, AllR.set (A.le hs.le hx) (ha.le hs.le) hj⟩, fun b hb => hm b hb⟩, hs⟩
    · rw [List.length_append, List.length_append, List.length_take, List.length_drop, hCl, List.length_set]; omega
    · rw [List.length_set]
      refine List.ext_getElem? fun t => ?_
      have hseg := seg_get (l := C) (vs := vs) (o := j * A.n) (by rw [hl, hCl]; exact hjn) t
      rw [hl] at hseg
      rw [hseg, List.getElem?_take]
      have hct : ∀ t, t < xs.length * A.n → C[t]? = cur[t]? := fun t ht => by rw [← h7, List.getElem?_take, if_pos ht]; simp
      split
      · rename_i ht
        have e0 : cs'.toList[t]? = cs'[t]? := by simp
        rw [e0, c3 t, hl]
        by_cases h8 : j * A.n ≤ t ∧ t < j * A.n + A.n
        · rw [if_pos ⟨h8.1, h8.2, by omega⟩, if_pos h8]
        · rw [if_neg (fun h => h8 ⟨h.1, h.2.1⟩), if_neg h8, hct t ht]
      · rename_i ht
        rw [if_neg (by omega), List.getElem?_eq_none (by rw [hCl]; omega)]
/-- an element's address, of an own slice -/
theorem Rg.idxo {t e : TypeId} {κ : IntKind} {j : Int} {b o len cap bytes size : Nat} {zv : Value} (ht : P.underlying t = some (.slice e)) (hi : TI P e zv size bytes) (hx : ev L x = some (.slice (some ⟨b, o, none⟩) len cap)) (hix : ev L i = some (.int κ j)) (hd : Nat.blt d n = true) (hj : 0 ≤ j ∧ j < len) {q : Nat} (hq : o + j.toNat * size = q)
    (k : Rg P r n ops rest ((d, .pointer (some ⟨b, q, none⟩)) :: L) ds w K) :
    Rg P r n ops ({ dst := some d, op := .indexAddr t x i, type := ty, pos, after := af, guard := none } :: rest) L ds w K :=
  .op (fun _ h => by cases h) rfl rfl hd _ w (fun ρ h => by
    simp only [execOp, h x _ hx, h i _ hix]
    simp [Instr.indexAt, run_underlying ht, asIntOf, hj, hi.sizeOf, Addr.add_mid, hq]) k
/-- an element of an own slice, read where the block is left alone -/
theorem Own.ptr {e : TypeId} {M : PSet} {base g len cap j : Nat} {xs : List α} {x : α} (h : Own A e M w base (.slice (some ⟨g, 0, none⟩) len cap) xs) (hx : xs[j]? = some x) : PtrTo A (fun k => M k ∧ k ≠ g) w (.pointer (some ⟨g, j * A.n, none⟩)) x := by
  obtain ⟨⟨C, hr, ha⟩, hm⟩ := h
  rcases hr.2 with ⟨h1, _⟩ | ⟨g', cap', cur, h1, h2, h3, h4, h5, h6, h7⟩
  · cases h1
  · simp only [Value.slice.injEq, Option.some.injEq, Addr.mk.injEq] at h1
    obtain ⟨⟨rfl, _⟩, rfl, rfl⟩ := h1
    obtain ⟨vs, hv, hj⟩ := ha.at_ j x hx
    refine ⟨g, _, vs, rfl, fun h => h.2 rfl, A.le (fun b _ hm => ⟨fun h => hm h.1, rfl⟩) hv, fun t u hu => ?_⟩
    have h8 := hj t u hu
    rw [← h7, List.getElem?_take] at h8
    split at h8
    · exact cell_at h3 (by simpa using h8)
    · cases h8
/-- an own slice, cut short -/
theorem Own.cut {e : TypeId} {M : PSet} {base g len cap m : Nat} {xs : List α} (h : Own A e M w base (.slice (some ⟨g, 0, none⟩) len cap) xs) (hm : m ≤ xs.length) : Own A e M w base (.slice (some ⟨g, 0, none⟩) m cap) (xs.take m) := by
  obtain ⟨⟨C, hr, ha⟩, hmm⟩ := h
  have hl : (xs.take m).length = m := by rw [List.length_take]; omega
  rcases hr.2 with ⟨h1, _⟩ | ⟨g', cap', cur, h1, h2, h3, h4, h5, h6, h7⟩
  · cases h1
  · simp only [Value.slice.injEq, Option.some.injEq, Addr.mk.injEq] at h1
    obtain ⟨⟨rfl, _⟩, rfl, rfl⟩ := h1
    have hmn := Nat.mul_le_mul_right A.n hm
    refine ⟨⟨C.take (m * A.n), ⟨by rw [List.length_take, hr.1, hl]; omega, .inr ⟨g, cap, cur, by rw [hl], h2, h3, by omega, h5, h6, ?_⟩⟩, ha.take m⟩, fun b hb => hmm b hb⟩
    rw [hl, ← h7, List.take_take, Nat.min_eq_left hmn]
theorem Rg.cuto {t e : TypeId} {h : Operand} {κ : IntKind} {hi : Int} {g len cap bytes size : Nat} {zv : Value} (ht : P.underlying t = some (.slice e)) (hti : TI P e zv size bytes) (hx : ev L x = some (.slice (some ⟨g, 0, none⟩) len cap)) (hh : ev L h = some (.int κ hi)) (hd : Nat.blt d n = true) (hb : 0 ≤ hi ∧ hi ≤ cap)
    (k : Rg P r n ops rest ((d, .slice (some ⟨g, 0, none⟩) hi.toNat cap) :: L) ds w K) :
    Rg P r n ops ({ dst := some d, op := .slice t x none (some h) none, type := ty, pos, after := af, guard := none } :: rest) L ds w K := by
  refine .op (fun _ h => by cases h) rfl rfl hd _ w (fun ρ hρ => ?_) k
  simp only [execOp, hρ x _ hx, Option.map_some, Option.map_none, hρ h _ hh]
  rw [Sem.run_bind, run_sliceAt_slice _ _ _ _ _ _ (elem_of ht), run_slice_h _ _ _ _ _ (elem_of ht) _ _ hb.1 hb.2, elem_eq ht, hti.sizeOf]
  simp [sliced, Addr.add_mid]
theorem Rg.dropo {t e : TypeId} {l : Operand} {κ : IntKind} {lo : Int} {g len cap bytes size : Nat} {zv : Value} (ht : P.underlying t = some (.slice e)) (hti : TI P e zv size bytes) (hx : ev L x = some (.slice (some ⟨g, 0, none⟩) len cap)) (hl : ev L l = some (.int κ lo)) (hd : Nat.blt d n = true) (hb : 0 ≤ lo ∧ lo ≤ len ∧ lo < cap)
    (k : Rg P r n ops rest ((d, .slice (some ⟨g, lo.toNat * size, none⟩) (len - lo.toNat) (cap - lo.toNat)) :: L) ds w K) :
    Rg P r n ops ({ dst := some d, op := .slice t x (some l) none none, type := ty, pos, after := af, guard := none } :: rest) L ds w K := by
  refine .op (fun _ h => by cases h) rfl rfl hd _ w (fun ρ hρ => ?_) k
  simp only [execOp, hρ x _ hx, Option.map_some, Option.map_none, hρ l _ hl]
  rw [Sem.run_bind, run_sliceAt_slice _ _ _ _ _ _ (elem_of ht), run_slice_l _ _ _ _ _ (elem_of ht) _ _ hb.1 hb.2.1, elem_eq ht, hti.sizeOf]
  have hne : ¬ cap = lo.toNat := by omega
  simp [sliced, Addr.add_mid, hne]
/-- a struct is written over an element of an own slice -/
theorem Rg.storeo {t e : TypeId} {zv : Value} {bytes : Nat} {M : PSet} {base g len cap j : Nat} {xs : List α} {a : α} {v : Value} (hi : TI P t zv A.n bytes) (hg : A.agg = true) (hx : ev L x = some (.pointer (some ⟨g, j * A.n, none⟩))) (hy : ev L y = some v) (h : Own A e M w base (.slice (some ⟨g, 0, none⟩) len cap) xs) (hj : j < xs.length) (hv : A.V M w a v)
    (k : ∀ w', Own A e M w' base (.slice (some ⟨g, 0, none⟩) len cap) (xs.set j a) → Step M w M w' (fun k => k = g) → Rg P r n ops rest L ds w' K) :
    Rg P r n ops ({ dst := none, op := .store t x y, type := ty, pos, after := af, guard := none } :: rest) L ds w K := by
  obtain ⟨vs, hvs, rfl⟩ := hv
  obtain ⟨w', hw', ho, hs⟩ := h.setCells hj hvs
  obtain ⟨⟨C, hr, ha⟩, hm⟩ := h
  have hl := A.len hvs
  have h1 := A.one hvs
  rcases hr.2 with ⟨h2, _⟩ | ⟨g', cap', cur, h2, _, h3, h4, h5, h6, h7⟩
  · cases h2
  · simp only [Value.slice.injEq, Option.some.injEq, Addr.mk.injEq] at h2
    obtain ⟨⟨rfl, _⟩, rfl, rfl⟩ := h2
    have hjn : j * A.n + A.n ≤ xs.length * A.n := by have := Nat.mul_le_mul_right A.n (show j + 1 ≤ xs.length from hj); rw [Nat.add_mul] at this; omega
    have hcl : xs.length * A.n ≤ cap * A.n := Nat.mul_le_mul_right _ h4
    refine .opu (fun _ h => by cases h) rfl rfl w' (fun ρ hρ => ?_) (k w' ho hs)
    subst hw'
    simp only [execOp, hρ x _ hx, hρ y _ hy]
    obtain ⟨inf, hi1, _, hi2, _⟩ := hi.get
    have := run_storeAt_mid (P := P) w g (j * A.n) t vs.toArray (fun q hq => by
      have hq' : j * A.n + q < cur.size := by simp at hq; omega
      exact ⟨by rw [cell_at h3 (v := cur[j * A.n + q]) (by simp [hq'])]; rfl, by simp [World.frozen?, h3]⟩) (by simp [hi1, hi2, hl]) (by simpa [Array.all_eq_true_iff_forall_mem] using h1)
    simp [RT.val, hg, this]
/-- a number is written over an element of an own slice -/
theorem Rg.storei {t e : TypeId} {zv : Value} {bytes : Nat} {M : PSet} {base g len cap j : Nat} {κ : IntKind} {xs : List Int} {a : Int} (hi : TI P t zv 1 bytes) (hx : ev L x = some (.pointer (some ⟨g, j, none⟩))) (hy : ev L y = some (.int κ a)) (h : Own (RT.int κ) e M w base (.slice (some ⟨g, 0, none⟩) len cap) xs) (hj : j < xs.length) (ha : κ.min ≤ a ∧ a ≤ κ.max)
    (k : ∀ w', Own (RT.int κ) e M w' base (.slice (some ⟨g, 0, none⟩) len cap) (xs.set j a) → Step M w M w' (fun k => k = g) → Rg P r n ops rest L ds w' K) :
    Rg P r n ops ({ dst := none, op := .store t x y, type := ty, pos, after := af, guard := none } :: rest) L ds w K := by
  have hR : (RT.int κ).R M w a [.int κ a] := ⟨rfl, ha.1, ha.2⟩
  obtain ⟨w', hw', ho, hs⟩ := h.setCells hj hR
  obtain ⟨⟨C, hr, _⟩, hm⟩ := h
  rcases hr.2 with ⟨h2, _⟩ | ⟨g', cap', cur, h2, _, h3, h4, h5, h6, h7⟩
  · cases h2
  · simp only [Value.slice.injEq, Option.some.injEq, Addr.mk.injEq] at h2
    obtain ⟨⟨rfl, _⟩, rfl, rfl⟩ := h2
    have e1 : (RT.int κ).n = 1 := rfl
    rw [e1] at h6 hw'
    refine .opu (fun _ h => by cases h) rfl rfl w' (fun ρ hρ => ?_) (k w' ho hs)
    subst hw'
    simp only [execOp, hρ x _ hx, hρ y _ hy]
    have := run_storeFlat (P := P) hi (w := w) (b := g) (o := j) (v := .int κ a) rfl (by rw [cell_at h3 (v := cur[j]'(by omega)) (by simp)]; rfl) (by simp [World.frozen?, h3])
    simp [this, World.setCells]
/-- a slice of nothing that is not nil: its block is the function's own -/
theorem Rg.sl0o {t e : TypeId} {zv : Value} {bytes size : Nat} (ht : P.underlying t = some (.slice e)) (hi : TI P e zv size bytes) (M : PSet) (hd : Nat.blt d n = true)
    (k : ∀ g w', w.heap.size ≤ g → g < w'.heap.size → w'.heap[g]? = some (.cells #[] e (0, 0)) → Step M w (ins M g) w' none' → Rg P r n ops rest ((d, .slice (some ⟨g, 0, none⟩) 0 0) :: L) ds w' K) :
    Rg P r n ops ({ dst := some d, op := .buildSlice t 0 #[], type := ty, pos, after := af, guard := none } :: rest) L ds w K := by
  refine .op (fun _ h => by cases h) rfl rfl hd (.slice (some ⟨w.heap.size, 0, none⟩) 0 0) (w.alloc (.cells #[] e)) (fun ρ hρ => ?_) (k w.heap.size _ (Nat.le_refl _) (by simp) (heap_alloc_at w _) ((step_alloc M w _).own (Nat.le_refl _) (by simp)))
  simp only [execOp, Instr.buildSlice, Sem.run_bind, run_underlying ht, Result.andThen_ok, hi.sizeOf]
  simp [newRow, newObj, Sem.run, Instr.fill]
  have h0 : Array.range 0 = #[] := by apply Array.ext <;> simp
  simp [h0]
end
theorem Own.empty {α : Type} {A : RT α} {e : TypeId} {M : PSet} {w : World} {base g : Nat} (h : w.heap[g]? = some (.cells #[] e (0, 0))) (hb : base ≤ g) (hm : M g) : Own A e M w base (.slice (some ⟨g, 0, none⟩) 0 0) [] :=
  ⟨⟨[], ⟨by simp, .inr ⟨g, 0, #[], rfl, hb, h, Nat.le_refl _, Nat.zero_le _, by simp, by simp⟩⟩, rfl⟩, fun b hb => by cases hb; exact hm⟩
theorem Own.ptri {e : TypeId} {M : PSet} {w : World} {base g len cap j : Nat} {κ : IntKind} {xs : List Int} {x : Int} (h : Own (RT.int κ) e M w base (.slice (some ⟨g, 0, none⟩) len cap) xs) (hx : xs[j]? = some x) : PtrTo (RT.int κ) (fun k => M k ∧ k ≠ g) w (.pointer (some ⟨g, j, none⟩)) x := by
  have := h.ptr hx
  rwa [show j * (RT.int κ).n = j from Nat.mul_one j] at this
end Go.K

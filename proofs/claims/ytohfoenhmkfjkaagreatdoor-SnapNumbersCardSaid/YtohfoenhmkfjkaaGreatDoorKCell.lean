/- Blocks that a function holds as its own, cell by cell; structs that are made; checks of pointers. No program is named here. -/
import Derived.Test.YtohfoenhmkfjkaaGreatDoorKDraw
import Derived.Test.YtohfoenhmkfjkaaGreatDoorKRange
import Derived.Deep.MidRow
import Derived.Laws.Cover3
import Derived.Laws.Pointers
namespace Go.K
set_option linter.unusedVariables false
set_option linter.unusedSimpArgs false
section
variable {P : Program} {r : Option Nat} {n : Nat} {L : Sl} {ds : List Deferred} {w : World} {K : Kt} {ops : Array Oper} {rest : List Oper} {d : Nat} {ty : TypeId} {pos : String} {af : Array Edge} {x y : Operand} {α : Type} {A : RT α}

theorem PtrTo.isPtr {M : PSet} {v : Value} {a : α} (h : PtrTo A M w v a) : ∃ p, v = .pointer (some p) := by
  obtain ⟨b, o, vs, h1, _⟩ := h; exact ⟨_, h1⟩
theorem Rg.nilCheck {v : Value} (hx : ev L x = some v) (hv : ∃ p, v = .pointer (some p)) (hd : Nat.blt d n = true) (k : Rg P r n ops rest ((d, v) :: L) ds w K) :
    Rg P r n ops ({ dst := some d, op := .nilCheck x, type := ty, pos, after := af, guard := none } :: rest) L ds w K := by
  obtain ⟨p, rfl⟩ := hv
  exact .op (fun _ h => by cases h) rfl rfl hd _ w (fun ρ h => by simp only [execOp, h x _ hx]; simp) k
/-- the address of a field, of a block that is the function's own -/
theorem Rg.fieldc {s : TypeId} {fs : Array Field} {fd : Field} {j size o o' b : Nat} {zv : Value} {bytes : Nat} (hu : P.underlying s = some (.struct fs)) (hfd : fs[j]? = some fd) (ho : o + fd.offset = o') (hi : TI P fd.type zv size bytes) (hs : size ≠ 0)
    (hx : ev L x = some (.pointer (some ⟨b, o, none⟩))) (hd : Nat.blt d n = true) (k : Rg P r n ops rest ((d, .pointer (some ⟨b, o', none⟩)) :: L) ds w K) :
    Rg P r n ops ({ dst := some d, op := .fieldAddr s x j, type := ty, pos, after := af, guard := none } :: rest) L ds w K :=
  .op (fun _ h => by cases h) rfl rfl hd _ w (fun ρ h => by
    simp only [execOp, h x _ hx]
    simp [Instr.fieldAt, run_underlying hu, hfd, Instr.sureAddr, fieldPlace, hi.sizeOf, hs, ← ho, Addr.add_mid]) k
/-- a struct that a block holds -/
theorem Rg.loadaggc {t : TypeId} {fs : TypeDesc} {zv : Value} {bytes size b : Nat} {vs : List Value} {e : TypeId} {fr : Nat × Nat} (hu : P.underlying t = some fs) (hf : fs.isRow = true) (hi : TI P t zv size bytes) (hl : vs.length = size)
    (hx : ev L x = some (.pointer (some ⟨b, 0, none⟩))) (hd : Nat.blt d n = true) (hb : w.heap[b]? = some (.cells vs.toArray e fr)) (k : Rg P r n ops rest ((d, .agg vs.toArray) :: L) ds w K) :
    Rg P r n ops ({ dst := some d, op := .load t x, type := ty, pos, after := af, guard := none } :: rest) L ds w K := by
  refine .op (fun _ h => by cases h) rfl rfl hd (.agg vs.toArray) w (fun ρ h => ?_) k
  simp only [execOp, h x _ hx]
  obtain ⟨i, hi1, _, hi2, _⟩ := hi.get
  have hr : w.rangeAt b 0 vs := fun j v hj => cell_at hb (by simpa using hj)
  have := run_loadAt_mid (P := P) w b 0 t vs fs hr hu hf (by simp [hi1, hi2, hl])
  simp [this]

theorem setCells_go : ∀ (vs : List Value) (w : World) (b o : Nat) (cs : Array Value) (e : TypeId) (fr : Nat × Nat), w.heap[b]? = some (.cells cs e fr) →
    ∃ cs' : Array Value, (w.setCells b o vs).heap[b]? = some (.cells cs' e fr) ∧ cs'.size = cs.size ∧ (∀ j, cs'[j]? = if o ≤ j ∧ j < o + vs.length ∧ j < cs.size then vs[j - o]? else cs[j]?) ∧ ∀ M : PSet, M b → Step M w M (w.setCells b o vs) (fun k => k = b)
  | [], w, b, o, cs, e, fr, h => ⟨cs, by simpa [World.setCells] using h, rfl, fun j => by rw [if_neg (by simp; omega)], fun M hM => (Step.refl M w).widen (fun _ h => h.elim) (fun k hk => by subst hk; exact hM)⟩
  | v :: vs, w, b, o, cs, e, fr, h => by
    have h1 := setCell_at (o := o) (v := v) h
    obtain ⟨cs', h2, h3, h4, h5⟩ := setCells_go vs (w.setCell ⟨b, o, none⟩ v) b (o + 1) _ e fr h1
    refine ⟨cs', h2, by rw [h3]; simp, fun j => ?_, fun M hM => (step_setCell M hM).trans (h5 M hM) fun _ _ h => h⟩
    rw [h4 j, Array.getElem?_setIfInBounds]
    simp only [Array.size_setIfInBounds, List.length_cons]
    by_cases hj : o = j
    · subst hj
      rw [if_neg (by omega), if_pos rfl]
      by_cases hlt : o < cs.size
      · rw [if_pos hlt, if_pos ⟨Nat.le_refl _, by omega, hlt⟩]; simp
      · rw [if_neg hlt, if_neg (by omega), Array.getElem?_eq_none (by omega)]
    · rw [if_neg hj]
      by_cases h6 : o + 1 ≤ j ∧ j < o + 1 + vs.length ∧ j < cs.size
      · rw [if_pos h6, if_pos (by omega), show j - o = (j - (o + 1)) + 1 from by omega]; simp
      · rw [if_neg h6, if_neg (by omega)]

/-- a struct into a block -/
theorem Rg.storeaggc {t : TypeId} {zv : Value} {bytes size b : Nat} {cs : Array Value} {vs : List Value} {e : TypeId} {M : PSet} (hi : TI P t zv size bytes) (hl : vs.length = size) (hcs : cs.size = size) (h1 : ∀ u ∈ vs, u.oneCell' = true)
    (hx : ev L x = some (.pointer (some ⟨b, 0, none⟩))) (hy : ev L y = some (.agg vs.toArray)) (hb : w.heap[b]? = some (.cells cs e (0, 0))) (hm : M b)
    (k : ∀ w', w'.heap[b]? = some (.cells vs.toArray e (0, 0)) → Step M w M w' (fun k => k = b) → Rg P r n ops rest L ds w' K) :
    Rg P r n ops ({ dst := none, op := .store t x y, type := ty, pos, after := af, guard := none } :: rest) L ds w K := by
  obtain ⟨cs', h2, h3, h4, h5⟩ := setCells_go vs w b 0 cs e (0, 0) hb
  have hcs' : cs' = vs.toArray := Array.ext_getElem? fun j => by
    rw [h4 j]
    by_cases hj : j < cs.size
    · rw [if_pos (by omega)]; simp
    · rw [if_neg (by omega), Array.getElem?_eq_none (by omega)]; simp; omega
  subst hcs'
  refine .opu (fun _ h => by cases h) rfl rfl (w.setCells b 0 vs) (fun ρ hρ => ?_) (k _ h2 (h5 M hm))
  simp only [execOp, hρ x _ hx, hρ y _ hy]
  obtain ⟨i, hi1, _, hi2, _⟩ := hi.get
  have := run_storeAt_mid (P := P) w b 0 t vs.toArray (fun j hj => by
    have hj' : j < cs.size := by simp at hj; omega
    exact ⟨by rw [cell_at hb (v := cs[j]) (by simp [hj'])]; rfl, by simp [World.frozen?, hb]⟩) (by simp [hi1, hi2, hl]) (by simpa [Array.all_eq_true_iff_forall_mem] using h1)
  simp [this]

/-- a variable that is laid in a block, and written just once -/
theorem Rg.newagg {t e : TypeId} {zv v : Value} {bytes : Nat} {M M1 : PSet} {w1 : World} {a : α} {ty2 : TypeId} {pos2 : String} {af2 : Array Edge} (hi : TI P e zv A.n bytes) (hz : zv.cells.size = A.n) (hg : A.agg = true) (hd : Nat.blt d n = true) (hte : t = e) (hdy : ev ((d, .pointer (some ⟨w.heap.size, 0, none⟩)) :: L) y = some v)
    (hv : A.V M1 w1 a v) (hle : Le M1 w1 M w) (hm : Lt M w) (k : ∀ u w', PtrTo A M w' u a → Step M w M w' none' → w.heap.size < w'.heap.size → Rg P r n ops rest ((d, u) :: L) ds w' K) :
    Rg P r n ops ({ dst := some d, op := .alloc e, type := ty, pos, after := af, guard := none } :: { dst := none, op := .store t (.tmp d) y, type := ty2, pos := pos2, after := af2, guard := none } :: rest) L ds w K := by
  subst hte
  obtain ⟨vs, h1, rfl⟩ := hv.le hle
  have hdd : lk ((d, .pointer (some ⟨w.heap.size, 0, none⟩)) :: L) d = some (.pointer (some ⟨w.heap.size, 0, none⟩)) := by simp [lk, Nat.beq_refl]
  obtain ⟨i, i1, i2, i3, i4⟩ := hi.get
  refine .op (fun _ h => by cases h) rfl rfl hd (.pointer (some ⟨w.heap.size, 0, none⟩)) (w.alloc (.cells zv.cells t)) (fun ρ hρ => ?_) ?_
  · simp only [execOp]
    simp [Instr.alloc, zeroValue, typeInfo, i1, i2, newVar, newRow, newObj, Sem.run]
  · have s1 := (step_alloc M w (.cells zv.cells t)).own (Nat.le_refl _) (by simp)
    refine .storeaggc (M := ins M w.heap.size) hi (A.len h1) hz (A.one h1) hdd (by simpa [RT.val, hg] using hdy) (heap_alloc_at w _) (.inl rfl) (fun w' h2 s2 => ?_)
    have hs2 := s2.size
    have hst : Step M w M w' none' := ⟨fun h b hb => Nat.lt_of_lt_of_le (h b hb) (Nat.le_trans s1.size hs2), s2.os.trans s1.os, s2.tape.trans s1.tape, s2.output.trans s1.output, Nat.le_trans s1.size hs2, fun _ _ => Iff.rfl, fun k hk _ => (s2.same k (Nat.lt_of_lt_of_le hk s1.size) (fun e => by subst e; omega)).trans (s1.same k hk fun h => h.elim), fun _ h => h.elim⟩
    refine k _ w' ⟨w.heap.size, 0, vs, rfl, fun h => by have := hm _ h; omega, A.le hst.le h1, fun j u hj => cell_at h2 (by simpa using hj)⟩ hst (by simp at hs2; omega)

/-! ### Structs that are made -/
def Filled (place : Nat → Option (Nat × Nat)) : List Value → List (Nat × Value) → List Value → Prop
  | zs, [], out => out = zs
  | zs, (i, v) :: rest, out => ∃ off vs, place i = some (off, vs.length) ∧ v.cells = vs.toArray ∧ off + vs.length ≤ zs.length ∧ Filled place (zs.take off ++ vs ++ zs.drop (off + vs.length)) rest out
theorem fill_filled {place : Nat → Option (Nat × Nat)} : ∀ (ps : List (Nat × Value)) (zs out : List Value), Filled place zs ps out → Instr.fill place zs.toArray ps = some out.toArray
  | [], zs, out, h => by cases h; rfl
  | (i, v) :: rest, zs, out, ⟨off, vs, h1, h2, h3, h4⟩ => by
    rw [← fill_filled rest _ out h4]
    have key : ∀ (l : List Value) (k : Nat) (cs : Array Value), off + k + l.length ≤ cs.size → ((l.zipIdx k).foldl (fun (cs : Array Value) (x : Value × Nat) => cs.setIfInBounds (off + x.2) x.1) cs).size = cs.size ∧
        ∀ j : Nat, ((l.zipIdx k).foldl (fun (cs : Array Value) (x : Value × Nat) => cs.setIfInBounds (off + x.2) x.1) cs)[j]? = if off + k ≤ j ∧ j < off + k + l.length then l[j - (off + k)]? else cs[j]? := by
      intro l
      induction l with
      | nil =>
        intro k cs hk
        refine ⟨rfl, fun j => ?_⟩
        simp
        intro h1 h2; omega
      | cons a l ih =>
        intro k cs hk
        simp only [List.zipIdx_cons, List.foldl_cons]
        simp only [List.length_cons] at hk
        obtain ⟨h1, h2⟩ := ih (k + 1) (cs.setIfInBounds (off + k) a) (by simp; omega)
        refine ⟨by rw [h1]; simp, fun j => ?_⟩
        rw [h2 j, Array.getElem?_setIfInBounds, List.length_cons]
        by_cases h3 : off + (k + 1) ≤ j ∧ j < off + (k + 1) + l.length
        · rw [if_pos h3, if_pos (by omega), show j - (off + k) = (j - (off + (k + 1))) + 1 from by omega]; simp
        · rw [if_neg h3]
          by_cases h4 : off + k = j
          · subst h4; rw [if_pos rfl, if_pos (by omega), if_pos (by omega)]; simp
          · rw [if_neg h4, if_neg (by omega)]
    obtain ⟨k1, k2⟩ := key vs 0 zs.toArray (by simpa using h3)
    conv => lhs; rw [Instr.fill]
    simp only [h1, h2]
    simp [show ¬ (zs.length < off + vs.length) by omega]
    congr 1
    refine Array.ext_getElem? fun j => ?_
    rw [k2 j, Nat.add_zero, List.getElem?_toArray, List.getElem?_toArray]
    by_cases hj : j < off
    · rw [if_neg (by omega), List.getElem?_append_left (by simp; omega), List.getElem?_take, if_pos hj]
    · have ht : (zs.take off).length = off := by simp; omega
      rw [List.getElem?_append_right (by omega), ht]
      by_cases hj2 : j < off + vs.length
      · rw [if_pos (by omega), List.getElem?_append_left (by omega)]
      · rw [if_neg (by omega), List.getElem?_append_right (by omega), List.getElem?_drop]
        congr 1; omega

def placesOf (P : Program) (t : TypeId) : List (Option (Nat × Nat)) := match P.underlying t with
  | some (.struct fs) => fs.toList.map fun f => (P.info? f.type).map fun i => (f.offset, i.size)
  | _ => []
def PVals (L : Sl) : List (Nat × Operand) → List (Nat × Value) → Prop
  | [], vs => vs = []
  | p :: ps, vs => ∃ v r, vs = (p.1, v) :: r ∧ ev L p.2 = some v ∧ PVals L ps r
theorem PVals.use {ρ : Operand → Value} (h : ∀ x v, ev L x = some v → ρ x = v) : ∀ {ps : List (Nat × Operand)} {vs : List (Nat × Value)}, PVals L ps vs → ps.map (fun p => (p.1, ρ p.2)) = vs
  | [], _, hp => by cases hp; rfl
  | p :: ps, _, ⟨v, r, h1, h2, h3⟩ => by rw [List.map_cons, h p.2 v h2, PVals.use h h3, h1]
theorem Rg.build {t : TypeId} {fs : Array Field} {zv : Value} {bytes size : Nat} {ps : List (Nat × Operand)} {vals : List (Nat × Value)} {out : List Value} {places : List (Nat × Nat)} (hu : P.underlying t = some (.struct fs)) (hi : TI P t zv size bytes)
    (hpl0 : placesOf P t = places.map some) (hd : Nat.blt d n = true)
    (hvs : PVals L ps vals) (hf : Filled (fun i => places[i]?) zv.cells.toList vals out) (k : Rg P r n ops rest ((d, .agg out.toArray) :: L) ds w K) :
    Rg P r n ops ({ dst := some d, op := .build t ps.toArray, type := ty, pos, after := af, guard := none } :: rest) L ds w K := by
  have hpl : fs.toList.map (fun f => (P.info? f.type).map fun i => (f.offset, i.size)) = places.map some := by
    unfold placesOf at hpl0; rw [hu] at hpl0; exact hpl0
  obtain ⟨i, i1, i2, i3, i4⟩ := hi.get
  refine .op (fun _ h => by cases h) rfl rfl hd (.agg out.toArray) w (fun ρ hρ => ?_) k
  have hm : (Array.map (fun (i, x) => (i, ρ x)) ps.toArray).toList = vals := by rw [Array.toList_map]; exact hvs.use hρ
  have hp : ∀ (l : List Field) (acc : List (Nat × Nat)), l.map (fun f => (P.info? f.type).map fun i => (f.offset, i.size)) = acc.map some → (l.mapM (fun f => do let s ← Go.sizeOf f.type; pure (f.offset, s) : Field → Sem (Nat × Nat))).run P w = .ok acc w := by
    intro l
    induction l with
    | nil => intro acc h; cases acc with
      | nil => rfl
      | cons a acc => simp at h
    | cons f l ih =>
      intro acc h
      cases acc with
      | nil => simp at h
      | cons a acc =>
        simp only [List.map_cons, List.cons.injEq] at h
        obtain ⟨h1, h2⟩ := h
        have := ih acc h2
        cases hq : P.info? f.type with
        | none => rw [hq] at h1; simp at h1
        | some i =>
          rw [hq] at h1; simp at h1; subst h1
          have hs : (Go.sizeOf f.type).run P w = .ok i.size w := by simp [Go.sizeOf, typeInfo, program, Sem.run, hq]
          simp only [List.mapM_cons, Sem.run_bind, hs, Result.andThen_ok, Sem.run_pure, this]
  have hp2 : (fs.mapM (fun f => do let s ← Go.sizeOf f.type; pure (f.offset, s) : Field → Sem (Nat × Nat))).run P w = .ok places.toArray w := by
    have h3 : fs.mapM (fun f => do let s ← Go.sizeOf f.type; pure (f.offset, s) : Field → Sem (Nat × Nat)) = List.toArray <$> fs.toList.mapM (fun f => do let s ← Go.sizeOf f.type; pure (f.offset, s) : Field → Sem (Nat × Nat)) := by
      exact Array.mapM_eq_mapM_toList
    rw [h3]
    simp only [map_eq_pure_bind, Sem.run_bind, hp _ _ hpl, Result.andThen_ok, Sem.run_pure]
  have hf2 := fill_filled vals _ out hf
  have hz : (zeroValue t).run P w = .ok zv w := by simp [zeroValue, typeInfo, program, Sem.run, i1, i2]
  have hf3 : Instr.fill (fun x => places.toArray[x]?) zv.cells vals = some out.toArray := by simpa using hf2
  simp only [execOp, Instr.build, Sem.run_bind, hz, Result.andThen_ok, run_underlying hu, hp2, hm, hf3, Sem.run_pure]

/-! ### A cut with a capacity; nil -/
theorem Rg.slice_lhm {t e : TypeId} {l h m : Operand} {κ κ' κ'' : IntKind} {lo hi mx : Int} {hn : 0 < A.n} {M : PSet} {w1 : World} {xs : List α} {v zv : Value} {bytes : Nat} (ht : P.underlying t = some (.slice e)) (hti : TI P e zv A.n bytes)
    (hx : ev L x = some v) (hl : ev L l = some (.int κ lo)) (hh : ev L h = some (.int κ' hi)) (hm : ev L m = some (.int κ'' mx)) (hd : Nat.blt d n = true) (hv : (A.sl hn).V M w1 xs v) (hb : 0 ≤ lo ∧ lo ≤ hi ∧ hi = mx ∧ hi ≤ xs.length)
    (k : ∀ u, (A.sl hn).V M w1 ((xs.take hi.toNat).drop lo.toNat) u → Rg P r n ops rest ((d, u) :: L) ds w K) :
    Rg P r n ops ({ dst := some d, op := .slice t x (some l) (some h) (some m), type := ty, pos, after := af, guard := none } :: rest) L ds w K := by
  obtain ⟨a, cap, rfl, hc, hlen, hs⟩ := V_sl.1 hv
  obtain ⟨h1, h2, rfl, h3⟩ := hb
  have hlen2 : ((xs.take hi.toNat).drop lo.toNat).length = hi.toNat - lo.toNat := by rw [List.length_drop, List.length_take]; omega
  refine .op (fun _ h => by cases h) rfl rfl hd (sliced a lo.toNat hi.toNat hi.toNat A.n) w (fun ρ hρ => ?_) (k _ (V_sl.2 ⟨_, hi.toNat - lo.toNat, ?_, by omega, by omega, hs.slice lo.toNat hi.toNat cap hi.toNat (by omega) (by omega) (by omega)⟩))
  · simp only [execOp, hρ x _ hx, Option.map_some, hρ l _ hl, hρ h _ hh, hρ m _ hm]
    rw [Sem.run_bind, run_sliceAt_slice _ _ _ _ _ _ (elem_of ht), run_slice_lhm _ _ _ _ _ (elem_of ht) _ _ _ _ _ _ h1 h2 (Int.le_refl _) (by omega), elem_eq ht, hti.sizeOf]
    simp
  · rw [hlen2]; rfl

/-- a slice, held to nil -/
theorem Rg.sleqnil {t t' e : TypeId} {a : Option Addr} {l c : Nat} (ht : P.underlying t = some (.slice e)) (hx : ev L x = some (.slice a l c)) (hy : ev L y = some (.slice none 0 0)) (hd : Nat.blt d n = true)
    (k : Rg P r n ops rest ((d, .bool (decide (a = none))) :: L) ds w K) :
    Rg P r n ops ({ dst := some d, op := .binOp .eql t x y t', type := ty, pos, after := af, guard := none } :: rest) L ds w K :=
  .op (fun _ h => by cases h) rfl rfl hd _ w (fun ρ h => by
    have he := run_equal_slice_nil (P := P) w t e a l c ht
    simp only [execOp]; rw [h x _ hx, h y _ hy]
    cases a <;> simp [eqGuard, binOp, run_underlying ht] <;> simp [he]) k
/-- a pointer, held to nil -/
theorem Rg.ptreqnil {t t' e : TypeId} {v : Value} (ht : P.underlying t = some (.pointer e)) (hx : ev L x = some v) (hv : ∃ p, v = .pointer (some p)) (hy : ev L y = some (.pointer none)) (hd : Nat.blt d n = true)
    (k : Rg P r n ops rest ((d, .bool false) :: L) ds w K) :
    Rg P r n ops ({ dst := some d, op := .binOp .eql t x y t', type := ty, pos, after := af, guard := none } :: rest) L ds w K := by
  obtain ⟨p, rfl⟩ := hv
  exact .op (fun _ h => by cases h) rfl rfl hd _ w (fun ρ h => by
    have hpe : P.underlying t = some (.pointer (P.pointee t)) := by simp [Program.pointee, ht]
    have he := run_equal_pointer_nil (P := P) w t (some p) hpe
    simp only [execOp]; rw [h x _ hx, h y _ hy]
    simp [eqGuard, binOp, run_underlying ht, he]) k
/-- a slice of nothing that is not nil -/
theorem Rg.sl0 {t e : TypeId} {zv : Value} {bytes size : Nat} (ht : P.underlying t = some (.slice e)) (hi : TI P e zv size bytes) (M : PSet) (hd : Nat.blt d n = true)
    (k : ∀ a w', Step M w M w' none' → Rg P r n ops rest ((d, .slice (some a) 0 0) :: L) ds w' K) :
    Rg P r n ops ({ dst := some d, op := .buildSlice t 0 #[], type := ty, pos, after := af, guard := none } :: rest) L ds w K := by
  refine .op (fun _ h => by cases h) rfl rfl hd (.slice (some ⟨w.heap.size, 0, none⟩) 0 0) (w.alloc (.cells #[] e)) (fun ρ hρ => ?_) (k _ _ (step_alloc M w _))
  simp only [execOp, Instr.buildSlice, Sem.run_bind, run_underlying ht, Result.andThen_ok, hi.sizeOf]
  simp [newRow, newObj, Sem.run, Instr.fill]
  have h0 : Array.range 0 = #[] := by apply Array.ext <;> simp
  simp [h0]
/-- three results, the first one read off a block -/
theorem KretC3 {fn : Func} {Q : Value → World → Prop} {c t u s b : Nat} {vs : List Value} {fs : TypeDesc} {e : TypeId} {fr : Nat × Nat} {y z zv : Value} {size bytes : Nat} (hr : fn.results = #[.cell c t, .tmp u, .tmp s]) (hc : lk L c = some (.pointer (some ⟨b, 0, none⟩))) (hu : P.underlying t = some fs) (hf : fs.isRow = true) (hi : TI P t zv size bytes) (hl : vs.length = size)
    (hb : w.heap[b]? = some (.cells vs.toArray e fr)) (hy : lk L u = some y) (hz : lk L s = some z) (h : Q (.tuple #[.agg vs.toArray, y, z]) w) : Kret P fn Q .ret L [] w :=
  ⟨rfl, fun a ha => ⟨_, by
    obtain ⟨i, hi1, _, hi2, _⟩ := hi.get
    have hrng : w.rangeAt b 0 vs := fun j v hj => cell_at hb (by simpa using hj)
    have := run_loadVar_mid (P := P) w b 0 t vs fs hrng hu hf (by simp [hi1, hi2, hl])
    simp [results, hr, ha _ _ hc, ha _ _ hy, ha _ _ hz, asAddr, this, Sem.run_bind], h⟩⟩

/-- append to a slice of nothing -/
theorem Rg.appendnew {t e : TypeId} {zv : Value} {bytes : Nat} {hn : 0 < A.n} {M M2 : PSet} {w2 : World} {a : Option Addr} {u : Value} {ys : List α} (ht : P.underlying t = some (.slice e)) (hi : TI P e zv A.n bytes) (hz : zv.cells.size = A.n)
    (hx : ev L x = some (.slice a 0 0)) (hy : ev L y = some u) (hd : Nat.blt d n = true) (hu : (A.sl hn).V M2 w2 ys u) (hle : Le M2 w2 M w) (hm : Lt M w) (hb : ys.length * bytes ≤ 140737488355328)
    (k : ∀ v' w', (A.sl hn).V M w' ys v' → Step M w M w' none' → Rg P r n ops rest ((d, v') :: L) ds w' K) :
    Rg P r n ops ({ dst := some d, op := .call { callee := .builtin .append, args := #[x, y], argTypes := #[t, t] }, type := ty, pos, after := af, guard := none } :: rest) L ds w K := by
  have hyl := V_sl_len hu
  by_cases hne : ys = []
  · subst hne
    obtain ⟨b, c, rfl, _⟩ := V_sl.1 hu
    refine .op (fun _ h => by cases h) rfl rfl hd (.slice a 0 0) w (fun ρ hρ => ?_) (k _ w (V_sl.2 ⟨a, 0, rfl, Nat.le_refl _, by simp, .inl rfl⟩) (Step.refl _ _))
    simp only [execOp, resolve, List.map_toArray, List.map_cons, List.map_nil, hρ x _ hx, hρ y _ hy]
    have := run_append_none (P := P) (w := w) (ty := ty) ht hi a 0 0 c b (Nat.le_refl 0)
    simp only [List.length_nil] at this ⊢
    simp [invoke, builtin, this]
  · have hp : 0 < ys.length := List.length_pos_iff.2 hne
    refine .appendclip (xs := []) (a := a) ht hi hz hx hy hd (V_sl.2 ⟨a, 0, rfl, Nat.le_refl _, by simp, .inl rfl⟩) (fun _ => rfl) hu hle hp (by simpa using hyl) (by simpa using hb) fun v' M' w' ho s => ?_
    rw [List.nil_append] at ho
    exact k v' w' (Own.close hm s ho hyl) s.back

theorem V_one {M : PSet} {a : α} {v : Value} (h : A.V M w a v) (hg : A.agg = false) (h1 : A.n = 1) : v.oneCell' = true := by
  obtain ⟨vs, hR, rfl⟩ := h
  have hl := A.len hR
  match vs, hl with
  | [u], _ => simpa [RT.val, hg] using A.one hR u (by simp)
  | [], hl => simp at hl; omega
  | _ :: _ :: _, hl => simp at hl; omega
theorem V_cell {M : PSet} {a : α} {v : Value} (h : A.V M w a v) (hg : A.agg = false) (h1 : A.n = 1) : A.R M w a [v] := by
  obtain ⟨vs, hR, rfl⟩ := h
  have hl := A.len hR
  match vs, hl, hR with
  | [u], _, hR => simpa [RT.val, hg] using hR
  | [], hl, _ => simp at hl; omega
  | _ :: _ :: _, hl, _ => simp at hl; omega
/-- a struct of two cells -/
theorem V_pair_mk {β : Type} {B : RT β} {M : PSet} {a : α} {b : β} {u v : Value} (h : A.V M w a u) (h' : B.V M w b v) (hg : A.agg = false) (h1 : A.n = 1) (hg' : B.agg = false) (h1' : B.n = 1) : (A.pair B).V M w (a, b) (.agg [u, v].toArray) :=
  ⟨[u, v], ⟨[u], [v], rfl, V_cell h hg h1, V_cell h' hg' h1'⟩, rfl⟩
theorem wrap_rng {x : Int} : -9223372036854775808 ≤ IntKind.i64.wrap x ∧ IntKind.i64.wrap x ≤ 9223372036854775807 := by
  rw [IntKind.wrap_i64]; omega
end
end Go.K

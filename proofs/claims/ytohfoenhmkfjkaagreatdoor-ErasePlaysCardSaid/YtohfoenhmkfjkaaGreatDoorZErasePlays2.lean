/- What the law 'ErasePlays' needs of walks and plain Lean, part 2: nothing is assumed beyond the texts that it imports. -/
import Derived.ChangeKeysEq
import Derived.Deep.Draws
import Derived.Deep.MidRow
import Derived.DeepKeys4
import Derived.Ground.Names2Prog
import Derived.Ground.SlsfProg
import Derived.KernelRfl
import Derived.Laws.Cover3
import Derived.Laws.IdiomCopy
import Derived.Laws.MakeOwn
import Derived.Laws.Pointers
import Derived.Laws.StructEq
import Derived.Lib.Bytealg
import Derived.Lib.RuneBytes
import Derived.Lib.SliceRun
import Derived.Maps.OwnSet
import Derived.Shelf.SlGeneric
import Derived.Shelf.SlSortCmp.NoneTotal
import Derived.Shelf.Slices.SearchI
import Derived.Shelf.Small.Strs
import Derived.Shelf.Small.Utf8
import Derived.Shelf.Strings.Builder1
import Derived.Shelf.Strings.BuilderRune
import Derived.Shelf.Strings.SlTrimAscii
import Derived.Sort.Grow
import Derived.Test.YtohfoenhmkfjkaaGreatDoorProg
import Derived.Test.YtohfoenhmkfjkaaGreatDoorZErasePlays1
namespace Go.K
set_option linter.unusedVariables false
set_option linter.unusedSimpArgs false
section
variable {P : Program} {r : Option Nat} {n : Nat} {L : Sl} {ds : List Deferred} {w : World} {K : Kt} {ops : Array Oper} {rest : List Oper} {d : Nat} {ty : TypeId} {pos : String} {af : Array Edge} {x y : Operand} {α : Type} {A : RT α}
theorem PtrTo.isPtr {M : PSet} {v : Value} {a : α} (h : PtrTo A M w v a) : ∃ p, v = .pointer (some p) := by
 obtain ⟨b, o, vs, h1, _⟩ := h; exact ⟨_, h1⟩
theorem Rg.nilCheck {v : Value} (hx : ev L x = some v) (hv : ∃ p, v = .pointer (some p)) (hd : Nat.blt d n = true) (k : Rg P r n ops rest ((d, v) :: L) ds w K) :
  Rg P r n ops ({ dst := some d, op := .nilCheck x, type := ty, pos, after := af, guard := none } :: rest) L ds w K := by
 obtain ⟨p, rfl⟩ := hv
 exact .op (fun _ h => by cases h) rfl rfl hd _ w (fun ρ h => by simp only [execOp, h x _ hx]; simp) k
theorem Rg.fieldc {s : TypeId} {fs : Array Field} {fd : Field} {j size o o' b : Nat} {zv : Value} {bytes : Nat} (hu : P.underlying s = some (.struct fs)) (hfd : fs[j]? = some fd) (ho : o + fd.offset = o') (hi : TI P fd.type zv size bytes) (hs : size ≠ 0)
  (hx : ev L x = some (.pointer (some ⟨b, o, none⟩))) (hd : Nat.blt d n = true) (k : Rg P r n ops rest ((d, .pointer (some ⟨b, o', none⟩)) :: L) ds w K) :
  Rg P r n ops ({ dst := some d, op := .fieldAddr s x j, type := ty, pos, after := af, guard := none } :: rest) L ds w K :=
 .op (fun _ h => by cases h) rfl rfl hd _ w (fun ρ h => by
  simp only [execOp, h x _ hx]
  simp [Instr.fieldAt, run_underlying hu, hfd, Instr.sureAddr, fieldPlace, hi.sizeOf, hs, ← ho, Addr.add_mid]) k
theorem Rg.loadaggc {t : TypeId} {fs : TypeDesc} {zv : Value} {bytes size b : Nat} {vs : List Value} {e : TypeId} {fr : Nat × Nat} (hu : P.underlying t = some fs) (hf : fs.isRow = true) (hi : TI P t zv size bytes) (hl : vs.length = size)
  (hx : ev L x = some (.pointer (some ⟨b, 0, none⟩))) (hd : Nat.blt d n = true) (hb : w.heap[b]? = some (.cells vs.toArray e fr)) (k : Rg P r n ops rest ((d, .agg vs.toArray) :: L) ds w K) :
  Rg P r n ops ({ dst := some d, op := .load t x, type := ty, pos, after := af, guard := none } :: rest) L ds w K := by
 refine .op (fun _ h => by cases h) rfl rfl hd (.agg vs.toArray) w (fun ρ h => ?_) k
 simp only [execOp, h x _ hx]
 obtain ⟨i, hi1, _, hi2, _⟩ := hi.get
 have hr : w.rangeAt b 0 vs := fun j v hj => cell_at hb (by simpa using hj)
 have := run_loadAt_mid (P := P) w b 0 t vs fs hr hu hf (by simp [hi1, hi2, hl])
 simp [this]
theorem setCells_go : ∀ (vs : List Value) (w : World) (b o : Nat) (cs : Array Value) (e : TypeId) (fr : Nat × Nat), w.heap[b]? = some (.cells cs e fr) →
  ∃ cs' : Array Value, (w.setCells b o vs).heap[b]? = some (.cells cs' e fr) ∧ cs'.size = cs.size ∧ (∀ j, cs'[j]? = if o ≤ j ∧ j < o + vs.length ∧ j < cs.size then vs[j - o]? else cs[j]?) ∧ ∀ M : PSet, M b → Step M w M (w.setCells b o vs) (fun k => k = b)
 |[], w, b, o, cs, e, fr, h => ⟨cs, by simpa [World.setCells] using h, rfl, fun j => by rw [if_neg (by simp; omega)], fun M hM => (Step.refl M w).widen (fun _ h => h.elim) (fun k hk => by subst hk; exact hM)⟩
 |v :: vs, w, b, o, cs, e, fr, h => by
  have h1 := setCell_at (o := o) (v := v) h
  obtain ⟨cs', h2, h3, h4, h5⟩ := setCells_go vs (w.setCell ⟨b, o, none⟩ v) b (o + 1) _ e fr h1
  refine ⟨cs', h2, by rw [h3]; simp, fun j => ?_, fun M hM => (step_setCell M hM).trans (h5 M hM) fun _ _ h => h⟩
  rw [h4 j, Array.getElem?_setIfInBounds]
  simp only [Array.size_setIfInBounds, List.length_cons]
  by_cases hj : o = j
  ·subst hj
   rw [if_neg (by omega), if_pos rfl]
   by_cases hlt : o < cs.size
   ·rw [if_pos hlt, if_pos ⟨Nat.le_refl _, by omega, hlt⟩]; simp
   ·rw [if_neg hlt, if_neg (by omega), Array.getElem?_eq_none (by omega)]
  ·rw [if_neg hj]
   by_cases h6 : o + 1 ≤ j ∧ j < o + 1 + vs.length ∧ j < cs.size
   ·rw [if_pos h6, if_pos (by omega), show j - o = (j - (o + 1)) + 1 from by omega]; simp
   ·rw [if_neg h6, if_neg (by omega)]
theorem Rg.storeaggc {t : TypeId} {zv : Value} {bytes size b : Nat} {cs : Array Value} {vs : List Value} {e : TypeId} {M : PSet} (hi : TI P t zv size bytes) (hl : vs.length = size) (hcs : cs.size = size) (h1 : ∀ u ∈ vs, u.oneCell' = true)
  (hx : ev L x = some (.pointer (some ⟨b, 0, none⟩))) (hy : ev L y = some (.agg vs.toArray)) (hb : w.heap[b]? = some (.cells cs e (0, 0))) (hm : M b)
  (k : ∀ w', w'.heap[b]? = some (.cells vs.toArray e (0, 0)) → Step M w M w' (fun k => k = b) → Rg P r n ops rest L ds w' K) :
  Rg P r n ops ({ dst := none, op := .store t x y, type := ty, pos, after := af, guard := none } :: rest) L ds w K := by
 obtain ⟨cs', h2, h3, h4, h5⟩ := setCells_go vs w b 0 cs e (0, 0) hb
 have hcs' : cs' = vs.toArray := Array.ext_getElem? fun j => by
  rw [h4 j]
  by_cases hj : j < cs.size
  ·rw [if_pos (by omega)]; simp
  ·rw [if_neg (by omega), Array.getElem?_eq_none (by omega)]; simp; omega
 subst hcs'
 refine .opu (fun _ h => by cases h) rfl rfl (w.setCells b 0 vs) (fun ρ hρ => ?_) (k _ h2 (h5 M hm))
 simp only [execOp, hρ x _ hx, hρ y _ hy]
 obtain ⟨i, hi1, _, hi2, _⟩ := hi.get
 have := run_storeAt_mid (P := P) w b 0 t vs.toArray (fun j hj => by
  have hj' : j < cs.size := by simp at hj; omega
  exact ⟨by rw [cell_at hb (v := cs[j]) (by simp [hj'])]; rfl, by simp [World.frozen?, hb]⟩) (by simp [hi1, hi2, hl]) (by simpa [Array.all_eq_true_iff_forall_mem] using h1)
 simp [this]
theorem Rg.newagg {t e : TypeId} {zv v : Value} {bytes : Nat} {M M1 : PSet} {w1 : World} {a : α} {ty2 : TypeId} {pos2 : String} {af2 : Array Edge} (hi : TI P e zv A.n bytes) (hz : zv.cells.size = A.n) (hg : A.agg = true) (hd : Nat.blt d n = true) (hte : t = e) (hdy : ev ((d, .pointer (some ⟨w.heap.size, 0, none⟩)) :: L) y = some v)
  (hv : A.V M1 w1 a v) (hle : Le M1 w1 M w) (hm : Lt M w) (k : ∀ u w', PtrTo A M w' u a → Step M w M w' none' → w.heap.size < w'.heap.size → Rg P r n ops rest ((d, u) :: L) ds w' K) :
  Rg P r n ops ({ dst := some d, op := .alloc e, type := ty, pos, after := af, guard := none } :: { dst := none, op := .store t (.tmp d) y, type := ty2, pos := pos2, after := af2, guard := none } :: rest) L ds w K := by
 subst hte
 obtain ⟨vs, h1, rfl⟩ := hv.le hle
 have hdd : lk ((d, .pointer (some ⟨w.heap.size, 0, none⟩)) :: L) d = some (.pointer (some ⟨w.heap.size, 0, none⟩)) := by simp [lk, Nat.beq_refl]
 obtain ⟨i, i1, i2, i3, i4⟩ := hi.get
 refine .op (fun _ h => by cases h) rfl rfl hd (.pointer (some ⟨w.heap.size, 0, none⟩)) (w.alloc (.cells zv.cells t)) (fun ρ hρ => ?_) ?_
 ·simp only [execOp]
  simp [Instr.alloc, zeroValue, typeInfo, i1, i2, newVar, newRow, newObj, Sem.run]
 ·have s1 := (step_alloc M w (.cells zv.cells t)).own (Nat.le_refl _) (by simp)
  refine .storeaggc (M := ins M w.heap.size) hi (A.len h1) hz (A.one h1) hdd (by simpa [RT.val, hg] using hdy) (heap_alloc_at w _) (.inl rfl) (fun w' h2 s2 => ?_)
  have hs2 := s2.size
  have hst : Step M w M w' none' := ⟨fun h b hb => Nat.lt_of_lt_of_le (h b hb) (Nat.le_trans s1.size hs2), s2.os.trans s1.os, s2.tape.trans s1.tape, s2.output.trans s1.output, Nat.le_trans s1.size hs2, fun _ _ => Iff.rfl, fun k hk _ => (s2.same k (Nat.lt_of_lt_of_le hk s1.size) (fun e => by subst e; omega)).trans (s1.same k hk fun h => h.elim), fun _ h => h.elim⟩
  refine k _ w' ⟨w.heap.size, 0, vs, rfl, fun h => by have := hm _ h; omega, A.le hst.le h1, fun j u hj => cell_at h2 (by simpa using hj)⟩ hst (by simp at hs2; omega)
def Filled (place : Nat → Option (Nat × Nat)) : List Value → List (Nat × Value) → List Value → Prop
 |zs, [], out => out = zs
 |zs, (i, v) :: rest, out => ∃ off vs, place i = some (off, vs.length) ∧ v.cells = vs.toArray ∧ off + vs.length ≤ zs.length ∧ Filled place (zs.take off ++ vs ++ zs.drop (off + vs.length)) rest out
theorem fill_filled {place : Nat → Option (Nat × Nat)} : ∀ (ps : List (Nat × Value)) (zs out : List Value), Filled place zs ps out → Instr.fill place zs.toArray ps = some out.toArray
 |[], zs, out, h => by cases h; rfl
 |(i, v) :: rest, zs, out, ⟨off, vs, h1, h2, h3, h4⟩ => by
  rw [← fill_filled rest _ out h4]
  have key : ∀ (l : List Value) (k : Nat) (cs : Array Value), off + k + l.length ≤ cs.size → ((l.zipIdx k).foldl (fun (cs : Array Value) (x : Value × Nat) => cs.setIfInBounds (off + x.2) x.1) cs).size = cs.size ∧
    ∀ j : Nat, ((l.zipIdx k).foldl (fun (cs : Array Value) (x : Value × Nat) => cs.setIfInBounds (off + x.2) x.1) cs)[j]? = if off + k ≤ j ∧ j < off + k + l.length then l[j - (off + k)]? else cs[j]? := by
   intro l
   induction l with
   |nil =>
    intro k cs hk
    refine ⟨rfl, fun j => ?_⟩
    simp
    intro h1 h2; omega
   |cons a l ih =>
    intro k cs hk
    simp only [List.zipIdx_cons, List.foldl_cons]
    simp only [List.length_cons] at hk
    obtain ⟨h1, h2⟩ := ih (k + 1) (cs.setIfInBounds (off + k) a) (by simp; omega)
    refine ⟨by rw [h1]; simp, fun j => ?_⟩
    rw [h2 j, Array.getElem?_setIfInBounds, List.length_cons]
    by_cases h3 : off + (k + 1) ≤ j ∧ j < off + (k + 1) + l.length
    ·rw [if_pos h3, if_pos (by omega), show j - (off + k) = (j - (off + (k + 1))) + 1 from by omega]; simp
    ·rw [if_neg h3]
     by_cases h4 : off + k = j
     ·subst h4; rw [if_pos rfl, if_pos (by omega), if_pos (by omega)]; simp
     ·rw [if_neg h4, if_neg (by omega)]
  obtain ⟨k1, k2⟩ := key vs 0 zs.toArray (by simpa using h3)
  conv => lhs; rw [Instr.fill]
  simp only [h1, h2]
  simp [show ¬ (zs.length < off + vs.length) by omega]
  congr 1
  refine Array.ext_getElem? fun j => ?_
  rw [k2 j, Nat.add_zero, List.getElem?_toArray, List.getElem?_toArray]
  by_cases hj : j < off
  ·rw [if_neg (by omega), List.getElem?_append_left (by simp; omega), List.getElem?_take, if_pos hj]
  ·have ht : (zs.take off).length = off := by simp; omega
   rw [List.getElem?_append_right (by omega), ht]
   by_cases hj2 : j < off + vs.length
   ·rw [if_pos (by omega), List.getElem?_append_left (by omega)]
   ·rw [if_neg (by omega), List.getElem?_append_right (by omega), List.getElem?_drop]
    congr 1; omega
def placesOf (P : Program) (t : TypeId) : List (Option (Nat × Nat)) := match P.underlying t with
 |some (.struct fs) => fs.toList.map fun f => (P.info? f.type).map fun i => (f.offset, i.size)
 |_ => []
def PVals (L : Sl) : List (Nat × Operand) → List (Nat × Value) → Prop
 |[], vs => vs = []
 |p :: ps, vs => ∃ v r, vs = (p.1, v) :: r ∧ ev L p.2 = some v ∧ PVals L ps r
theorem PVals.use {ρ : Operand → Value} (h : ∀ x v, ev L x = some v → ρ x = v) : ∀ {ps : List (Nat × Operand)} {vs : List (Nat × Value)}, PVals L ps vs → ps.map (fun p => (p.1, ρ p.2)) = vs
 |[], _, hp => by cases hp; rfl
 |p :: ps, _, ⟨v, r, h1, h2, h3⟩ => by rw [List.map_cons, h p.2 v h2, PVals.use h h3, h1]
theorem Rg.build {t : TypeId} {fs : Array Field} {zv : Value} {bytes size : Nat} {ps : List (Nat × Operand)} {vals : List (Nat × Value)} {out : List Value} {places : List (Nat × Nat)} (hu : P.underlying t = some (.struct fs)) (hi : TI P t zv size bytes)
  (hpl0 : placesOf P t = places.map some) (hd : Nat.blt d n = true)
  (hvs : PVals L ps vals) (hf : Filled (fun i => places[i]?) zv.cells.toList vals out) (k : Rg P r n ops rest ((d, .agg out.toArray) :: L) ds w K) :
  Rg P r n ops ({ dst := some d, op := .build t ps.toArray, type := ty, pos, after := af, guard := none } :: rest) L ds w K := by
 have hpl : fs.toList.map (fun f => (P.info? f.type).map fun i => (f.offset, i.size)) = places.map some := by
  unfold placesOf at hpl0; rw [hu] at hpl0; exact hpl0
 obtain ⟨i, i1, i2, i3, i4⟩ := hi.get
 refine .op (fun _ h => by cases h) rfl rfl hd (.agg out.toArray) w (fun ρ hρ => ?_) k
 have hm : (Array.map (fun (i, x) => (i, ρ x)) ps.toArray).toList = vals := by rw [Array.toList_map]; exact hvs.use hρ
 have hp : ∀ (l : List Field) (acc : List (Nat × Nat)), l.map (fun f => (P.info? f.type).map fun i => (f.offset, i.size)) = acc.map some → (l.mapM (fun f => do let s ← Go.sizeOf f.type; pure (f.offset, s) : Field → Sem (Nat × Nat))).run P w = .ok acc w := by
  intro l
  induction l with
  |nil => intro acc h; cases acc with
   |nil => rfl
   |cons a acc => simp at h
  |cons f l ih =>
   intro acc h
   cases acc with
   |nil => simp at h
   |cons a acc =>
    simp only [List.map_cons, List.cons.injEq] at h
    obtain ⟨h1, h2⟩ := h
    have := ih acc h2
    cases hq : P.info? f.type with
    |none => rw [hq] at h1; simp at h1
    |some i =>
     rw [hq] at h1; simp at h1; subst h1
     have hs : (Go.sizeOf f.type).run P w = .ok i.size w := by simp [Go.sizeOf, typeInfo, program, Sem.run, hq]
     simp only [List.mapM_cons, Sem.run_bind, hs, Result.andThen_ok, Sem.run_pure, this]
 have hp2 : (fs.mapM (fun f => do let s ← Go.sizeOf f.type; pure (f.offset, s) : Field → Sem (Nat × Nat))).run P w = .ok places.toArray w := by
  have h3 : fs.mapM (fun f => do let s ← Go.sizeOf f.type; pure (f.offset, s) : Field → Sem (Nat × Nat)) = List.toArray <$> fs.toList.mapM (fun f => do let s ← Go.sizeOf f.type; pure (f.offset, s) : Field → Sem (Nat × Nat)) := by
   exact Array.mapM_eq_mapM_toList
  rw [h3]
  simp only [map_eq_pure_bind, Sem.run_bind, hp _ _ hpl, Result.andThen_ok, Sem.run_pure]
 have hf2 := fill_filled vals _ out hf
 have hz : (zeroValue t).run P w = .ok zv w := by simp [zeroValue, typeInfo, program, Sem.run, i1, i2]
 have hf3 : Instr.fill (fun x => places.toArray[x]?) zv.cells vals = some out.toArray := by simpa using hf2
 simp only [execOp, Instr.build, Sem.run_bind, hz, Result.andThen_ok, run_underlying hu, hp2, hm, hf3, Sem.run_pure]
theorem Rg.slice_lhm {t e : TypeId} {l h m : Operand} {κ κ' κ'' : IntKind} {lo hi mx : Int} {hn : 0 < A.n} {M : PSet} {w1 : World} {xs : List α} {v zv : Value} {bytes : Nat} (ht : P.underlying t = some (.slice e)) (hti : TI P e zv A.n bytes)
  (hx : ev L x = some v) (hl : ev L l = some (.int κ lo)) (hh : ev L h = some (.int κ' hi)) (hm : ev L m = some (.int κ'' mx)) (hd : Nat.blt d n = true) (hv : (A.sl hn).V M w1 xs v) (hb : 0 ≤ lo ∧ lo ≤ hi ∧ hi = mx ∧ hi ≤ xs.length)
  (k : ∀ u, (A.sl hn).V M w1 ((xs.take hi.toNat).drop lo.toNat) u → Rg P r n ops rest ((d, u) :: L) ds w K) :
  Rg P r n ops ({ dst := some d, op := .slice t x (some l) (some h) (some m), type := ty, pos, after := af, guard := none } :: rest) L ds w K := by
 obtain ⟨a, cap, rfl, hc, hlen, hs⟩ := V_sl.1 hv
 obtain ⟨h1, h2, rfl, h3⟩ := hb
 have hlen2 : ((xs.take hi.toNat).drop lo.toNat).length = hi.toNat - lo.toNat := by rw [List.length_drop, List.length_take]; omega
 refine .op (fun _ h => by cases h) rfl rfl hd (sliced a lo.toNat hi.toNat hi.toNat A.n) w (fun ρ hρ => ?_) (k _ (V_sl.2 ⟨_, hi.toNat - lo.toNat, ?_, by omega, by omega, hs.slice lo.toNat hi.toNat cap hi.toNat (by omega) (by omega) (by omega)⟩))
 ·simp only [execOp, hρ x _ hx, Option.map_some, hρ l _ hl, hρ h _ hh, hρ m _ hm]
  rw [Sem.run_bind, run_sliceAt_slice _ _ _ _ _ _ (elem_of ht), run_slice_lhm _ _ _ _ _ (elem_of ht) _ _ _ _ _ _ h1 h2 (Int.le_refl _) (by omega), elem_eq ht, hti.sizeOf]
  simp
 ·rw [hlen2]; rfl
theorem Rg.sleqnil {t t' e : TypeId} {a : Option Addr} {l c : Nat} (ht : P.underlying t = some (.slice e)) (hx : ev L x = some (.slice a l c)) (hy : ev L y = some (.slice none 0 0)) (hd : Nat.blt d n = true)
  (k : Rg P r n ops rest ((d, .bool (decide (a = none))) :: L) ds w K) :
  Rg P r n ops ({ dst := some d, op := .binOp .eql t x y t', type := ty, pos, after := af, guard := none } :: rest) L ds w K :=
 .op (fun _ h => by cases h) rfl rfl hd _ w (fun ρ h => by
  have he := run_equal_slice_nil (P := P) w t e a l c ht
  simp only [execOp]; rw [h x _ hx, h y _ hy]
  cases a <;> simp [eqGuard, binOp, run_underlying ht] <;> simp [he]) k
theorem Rg.ptreqnil {t t' e : TypeId} {v : Value} (ht : P.underlying t = some (.pointer e)) (hx : ev L x = some v) (hv : ∃ p, v = .pointer (some p)) (hy : ev L y = some (.pointer none)) (hd : Nat.blt d n = true)
  (k : Rg P r n ops rest ((d, .bool false) :: L) ds w K) :
  Rg P r n ops ({ dst := some d, op := .binOp .eql t x y t', type := ty, pos, after := af, guard := none } :: rest) L ds w K := by
 obtain ⟨p, rfl⟩ := hv
 exact .op (fun _ h => by cases h) rfl rfl hd _ w (fun ρ h => by
  have hpe : P.underlying t = some (.pointer (P.pointee t)) := by simp [Program.pointee, ht]
  have he := run_equal_pointer_nil (P := P) w t (some p) hpe
  simp only [execOp]; rw [h x _ hx, h y _ hy]
  simp [eqGuard, binOp, run_underlying ht, he]) k
theorem Rg.sl0 {t e : TypeId} {zv : Value} {bytes size : Nat} (ht : P.underlying t = some (.slice e)) (hi : TI P e zv size bytes) (M : PSet) (hd : Nat.blt d n = true)
  (k : ∀ a w', Step M w M w' none' → Rg P r n ops rest ((d, .slice (some a) 0 0) :: L) ds w' K) :
  Rg P r n ops ({ dst := some d, op := .buildSlice t 0 #[], type := ty, pos, after := af, guard := none } :: rest) L ds w K := by
 refine .op (fun _ h => by cases h) rfl rfl hd (.slice (some ⟨w.heap.size, 0, none⟩) 0 0) (w.alloc (.cells #[] e)) (fun ρ hρ => ?_) (k _ _ (step_alloc M w _))
 simp only [execOp, Instr.buildSlice, Sem.run_bind, run_underlying ht, Result.andThen_ok, hi.sizeOf]
 simp [newRow, newObj, Sem.run, Instr.fill]
 have h0 : Array.range 0 = #[] := by apply Array.ext <;> simp
 simp [h0]
theorem KretC3 {fn : Func} {Q : Value → World → Prop} {c t u s b : Nat} {vs : List Value} {fs : TypeDesc} {e : TypeId} {fr : Nat × Nat} {y z zv : Value} {size bytes : Nat} (hr : fn.results = #[.cell c t, .tmp u, .tmp s]) (hc : lk L c = some (.pointer (some ⟨b, 0, none⟩))) (hu : P.underlying t = some fs) (hf : fs.isRow = true) (hi : TI P t zv size bytes) (hl : vs.length = size)
  (hb : w.heap[b]? = some (.cells vs.toArray e fr)) (hy : lk L u = some y) (hz : lk L s = some z) (h : Q (.tuple #[.agg vs.toArray, y, z]) w) : Kret P fn Q .ret L [] w :=
 ⟨rfl, fun a ha => ⟨_, by
  obtain ⟨i, hi1, _, hi2, _⟩ := hi.get
  have hrng : w.rangeAt b 0 vs := fun j v hj => cell_at hb (by simpa using hj)
  have := run_loadVar_mid (P := P) w b 0 t vs fs hrng hu hf (by simp [hi1, hi2, hl])
  simp [results, hr, ha _ _ hc, ha _ _ hy, ha _ _ hz, asAddr, this, Sem.run_bind], h⟩⟩
theorem Rg.appendnew {t e : TypeId} {zv : Value} {bytes : Nat} {hn : 0 < A.n} {M M2 : PSet} {w2 : World} {a : Option Addr} {u : Value} {ys : List α} (ht : P.underlying t = some (.slice e)) (hi : TI P e zv A.n bytes) (hz : zv.cells.size = A.n)
  (hx : ev L x = some (.slice a 0 0)) (hy : ev L y = some u) (hd : Nat.blt d n = true) (hu : (A.sl hn).V M2 w2 ys u) (hle : Le M2 w2 M w) (hm : Lt M w) (hb : ys.length * bytes ≤ 140737488355328)
  (k : ∀ v' w', (A.sl hn).V M w' ys v' → Step M w M w' none' → Rg P r n ops rest ((d, v') :: L) ds w' K) :
  Rg P r n ops ({ dst := some d, op := .call { callee := .builtin .append, args := #[x, y], argTypes := #[t, t] }, type := ty, pos, after := af, guard := none } :: rest) L ds w K := by
 have hyl := V_sl_len hu
 by_cases hne : ys = []
 ·subst hne
  obtain ⟨b, c, rfl, _⟩ := V_sl.1 hu
  refine .op (fun _ h => by cases h) rfl rfl hd (.slice a 0 0) w (fun ρ hρ => ?_) (k _ w (V_sl.2 ⟨a, 0, rfl, Nat.le_refl _, by simp, .inl rfl⟩) (Step.refl _ _))
  simp only [execOp, resolve, List.map_toArray, List.map_cons, List.map_nil, hρ x _ hx, hρ y _ hy]
  have := run_append_none (P := P) (w := w) (ty := ty) ht hi a 0 0 c b (Nat.le_refl 0)
  simp only [List.length_nil] at this ⊢
  simp [invoke, builtin, this]
 ·have hp : 0 < ys.length := List.length_pos_iff.2 hne
  refine .appendclip (xs := []) (a := a) ht hi hz hx hy hd (V_sl.2 ⟨a, 0, rfl, Nat.le_refl _, by simp, .inl rfl⟩) (fun _ => rfl) hu hle hp (by simpa using hyl) (by simpa using hb) fun v' M' w' ho s => ?_
  rw [List.nil_append] at ho
  exact k v' w' (Own.close hm s ho hyl) s.back
theorem V_one {M : PSet} {a : α} {v : Value} (h : A.V M w a v) (hg : A.agg = false) (h1 : A.n = 1) : v.oneCell' = true := by
 obtain ⟨vs, hR, rfl⟩ := h
 have hl := A.len hR
 match vs, hl with
 |[u], _ => simpa [RT.val, hg] using A.one hR u (by simp)
 |[], hl => simp at hl; omega
 |_ :: _ :: _, hl => simp at hl; omega
theorem V_cell {M : PSet} {a : α} {v : Value} (h : A.V M w a v) (hg : A.agg = false) (h1 : A.n = 1) : A.R M w a [v] := by
 obtain ⟨vs, hR, rfl⟩ := h
 have hl := A.len hR
 match vs, hl, hR with
 |[u], _, hR => simpa [RT.val, hg] using hR
 |[], hl, _ => simp at hl; omega
 |_ :: _ :: _, hl, _ => simp at hl; omega
theorem V_pair_mk {β : Type} {B : RT β} {M : PSet} {a : α} {b : β} {u v : Value} (h : A.V M w a u) (h' : B.V M w b v) (hg : A.agg = false) (h1 : A.n = 1) (hg' : B.agg = false) (h1' : B.n = 1) : (A.pair B).V M w (a, b) (.agg [u, v].toArray) :=
 ⟨[u, v], ⟨[u], [v], rfl, V_cell h hg h1, V_cell h' hg' h1'⟩, rfl⟩
theorem wrap_rng {x : Int} : -9223372036854775808 ≤ IntKind.i64.wrap x ∧ IntKind.i64.wrap x ≤ 9223372036854775807 := by
 rw [IntKind.wrap_i64]; omega
end
end Go.K
namespace Go.K
set_option linter.unusedVariables false
set_option linter.unusedSimpArgs false
def put (n : Nat) : List UInt8 := if n < 128 then [UInt8.ofNat n] else UInt8.ofNat (128 + n % 128) :: put (n / 128)
termination_by n
decreasing_by omega
theorem put_lt {n : Nat} (h : n < 128) : put n = [UInt8.ofNat n] := by rw [put, if_pos h]
theorem put_ge {n : Nat} (h : 128 ≤ n) : put n = UInt8.ofNat (128 + n % 128) :: put (n / 128) := by rw [put, if_neg (by omega)]
theorem put_pos (n : Nat) : 0 < (put n).length := by rw [put]; split <;> simp
theorem put_len {k : Nat} : ∀ {n : Nat}, n < 128 ^ (k + 1) → (put n).length ≤ k + 1 := by
 induction k with
 |zero => intro n h; rw [put_lt (by simpa using h)]; simp
 |succ k ih =>
  intro n h
  by_cases h1 : n < 128
  ·rw [put_lt h1]; simp
  ·rw [put_ge (by omega)]
   have := ih (n := n / 128) (by rw [Nat.pow_succ] at h; omega)
   simp; omega
theorem put_len9 {n : Nat} (h : n ≤ 9223372036854775807) : (put n).length ≤ 9 := put_len (k := 8) (by omega)
def getL : List UInt8 → Nat → Nat → Option (Nat × Nat)
 |[], _, _ => none
 |c :: cs, i, n => if c.toNat < 128 then (if c.toNat = 0 ∧ 0 < i then none else some (n + c.toNat % 128 * 128 ^ i, i + 1)) else getL cs (i + 1) (n + c.toNat % 128 * 128 ^ i)
def get (b : List UInt8) (at_ : Int) : Int × Int × Int :=
 if at_ < 0 ∨ (b.length : Int) < at_ then (0, 0, 1)
 else match getL ((b.drop at_.toNat).take 9) 0 0 with
  |some (n, k) => (n, at_ + k, 0)
  |none => (0, 0, 2)
theorem getL_drop {bs : List UInt8} {k : Nat} {c : UInt8} (h : bs[k]? = some c) (n : Nat) : getL (bs.drop k) k n =
  if c.toNat < 128 then (if c.toNat = 0 ∧ 0 < k then none else some (n + c.toNat % 128 * 128 ^ k, k + 1)) else getL (bs.drop (k + 1)) (k + 1) (n + c.toNat % 128 * 128 ^ k) := by
 obtain ⟨hlt, he⟩ := List.getElem?_eq_some_iff.1 h
 rw [List.drop_eq_getElem_cons hlt, getL, he]
theorem window (b : List UInt8) (i : Nat) : (b.take (min b.length (i + 9))).drop i = (b.drop i).take 9 := by
 rw [List.drop_take, List.take_eq_take_iff]; simp; omega
def val : List UInt8 → Nat
 |[] => 0
 |c :: cs => c.toNat % 128 + 128 * val cs
def rises : Int → List Int → Bool
 |_, [] => true
 |last, x :: l => decide (last < x) && rises x l
def putR : Int → List Int → List UInt8
 |_, [] => []
 |last, x :: l => put (x - last - 1).toNat ++ putR x l
def putRising (l : List Int) : List UInt8 := put l.length ++ putR (-1) l
def goodL : Int → List Int → List Int
 |_, [] => []
 |last, x :: l => let m := if x < 0 then -(x + 1) else x; (last + 1 + m % 1000) :: goodL (last + 1 + m % 1000) l
def good (l : List Int) (most : Nat) : List Int := goodL (-1) (l.take most)
theorem get_ok {b : List UInt8} {at_ : Int} (h : (get b at_).2.2 = 0) : 0 ≤ at_ ∧ at_ < (get b at_).2.1 ∧ (get b at_).2.1 ≤ b.length ∧ 0 ≤ (get b at_).1 ∧ (get b at_).1 < 9223372036854775808 := by
 unfold get at h ⊢
 split at h
 ·simp at h
 rename_i hr
 rw [if_neg hr] at *
 have key : ∀ (bs : List UInt8) (i n m k : Nat), getL bs i n = some (m, k) → bs.length + i ≤ 9 → n < 128 ^ i → i < k ∧ k ≤ i + bs.length ∧ m < 128 ^ k := by
  intro bs
  induction bs with
  |nil => intro i n m k h; simp [getL] at h
  |cons c cs ih =>
   intro i n m k h hl hn
   have hd : n + c.toNat % 128 * 128 ^ i < 128 ^ (i + 1) := by
    have := Nat.mul_le_mul_right (128 ^ i) (show c.toNat % 128 ≤ 127 from by omega)
    rw [Nat.pow_succ]; omega
   simp only [getL] at h
   split at h
   ·split at h
    ·cases h
    ·cases h; exact ⟨by omega, by simp, hd⟩
   ·obtain ⟨h1, h2, h3⟩ := ih (i + 1) _ m k h (by simp at hl; omega) hd
    exact ⟨by omega, by simp; omega, h3⟩
 cases hg : getL ((b.drop at_.toNat).take 9) 0 0 with
 |none => simp [hg] at h
 |some p =>
  obtain ⟨m, k⟩ := p
  have hlen : ((b.drop at_.toNat).take 9).length ≤ 9 ∧ ((b.drop at_.toNat).take 9).length ≤ b.length - at_.toNat := by rw [List.length_take, List.length_drop]; omega
  obtain ⟨h1, h2, h3⟩ := key _ 0 0 m k hg (by omega) (by decide)
  have hp : 128 ^ k ≤ 128 ^ 9 := Nat.pow_le_pow_right (by decide) (by omega)
  simp only
  omega
def getRL (b : List UInt8) : Nat → Int → Int → Int × List Int × Int
 |0, at_, _ => (0, [], at_)
 |k + 1, at_, last =>
  if (get b at_).2.2 ≠ 0 then ((get b at_).2.2, [], 0)
  else if 4611686018427387904 - last - 1 < (get b at_).1 then (2, [], 0)
  else if (getRL b k (get b at_).2.1 (last + 1 + (get b at_).1)).1 ≠ 0 then ((getRL b k (get b at_).2.1 (last + 1 + (get b at_).1)).1, [], 0)
  else (0, (last + 1 + (get b at_).1) :: (getRL b k (get b at_).2.1 (last + 1 + (get b at_).1)).2.1, (getRL b k (get b at_).2.1 (last + 1 + (get b at_).1)).2.2)
def getRising (b : List UInt8) (at_ : Int) : Int × List Int × Int :=
 if (get b at_).2.2 ≠ 0 then ((get b at_).2.2, [], 0) else getRL b (get b at_).1.toNat (get b at_).2.1 (-1)
theorem rises_drop {l : List Int} {k : Nat} {x : Int} (h : l[k]? = some x) (last : Int) : rises last (l.drop k) = (decide (last < x) && rises x (l.drop (k + 1))) := by
 obtain ⟨hlt, he⟩ := List.getElem?_eq_some_iff.1 h
 rw [List.drop_eq_getElem_cons hlt, rises, he]
theorem putR_drop {l : List Int} {k : Nat} {x : Int} (h : l[k]? = some x) (last : Int) : putR last (l.drop k) = put (x - last - 1).toNat ++ putR x (l.drop (k + 1)) := by
 obtain ⟨hlt, he⟩ := List.getElem?_eq_some_iff.1 h
 rw [List.drop_eq_getElem_cons hlt, putR, he]
theorem putR_len : ∀ (l : List Int) (last : Int), -1 ≤ last → (∀ x ∈ l, x ≤ 9223372036854775807) → rises last l = true → (putR last l).length ≤ 9 * l.length
 |[], _, _, _, _ => by simp [putR]
 |x :: l, last, h1, h2, h3 => by
  simp only [rises, Bool.and_eq_true, decide_eq_true_eq] at h3
  have hx := h2 x (List.mem_cons_self ..)
  have h4 := putR_len l x (by omega) (fun y hy => h2 y (List.mem_cons_of_mem _ hy)) h3.2
  have h5 := put_len9 (n := (x - last - 1).toNat) (by omega)
  simp only [putR, List.length_append, List.length_cons]; omega
theorem getRL_zero (b : List UInt8) (a last : Int) : getRL b 0 a last = (0, [], a) := rfl
theorem getRL_fail {b : List UInt8} {k : Nat} {a last : Int} (h : (get b a).2.2 ≠ 0) : getRL b (k + 1) a last = ((get b a).2.2, [], 0) := by rw [getRL, if_pos h]
theorem getRL_big {b : List UInt8} {k : Nat} {a last : Int} (h : (get b a).2.2 = 0) (h2 : 4611686018427387904 - last - 1 < (get b a).1) : getRL b (k + 1) a last = (2, [], 0) := by
 rw [getRL, if_neg (by simpa using h), if_pos h2]
theorem getRL_next {b : List UInt8} {k : Nat} {a last : Int} (h : (get b a).2.2 = 0) (h2 : ¬ 4611686018427387904 - last - 1 < (get b a).1) : getRL b (k + 1) a last =
  if (getRL b k (get b a).2.1 (last + 1 + (get b a).1)).1 ≠ 0 then ((getRL b k (get b a).2.1 (last + 1 + (get b a).1)).1, [], 0)
  else (0, (last + 1 + (get b a).1) :: (getRL b k (get b a).2.1 (last + 1 + (get b a).1)).2.1, (getRL b k (get b a).2.1 (last + 1 + (get b a).1)).2.2) := by
 rw [getRL, if_neg (by simpa using h), if_neg h2]
def andThen (acc : List Int) (r : Int × List Int × Int) : Int × List Int × Int := if r.1 ≠ 0 then (r.1, [], 0) else (0, acc ++ r.2.1, r.2.2)
theorem andThen_next {b : List UInt8} {k : Nat} {a last : Int} (acc : List Int) (h : (get b a).2.2 = 0) (h2 : ¬ 4611686018427387904 - last - 1 < (get b a).1) :
  andThen acc (getRL b (k + 1) a last) = andThen (acc ++ [last + 1 + (get b a).1]) (getRL b k (get b a).2.1 (last + 1 + (get b a).1)) := by
 rw [getRL_next h h2]; unfold andThen
 by_cases h3 : (getRL b k (get b a).2.1 (last + 1 + (get b a).1)).1 = 0 <;> simp [h3]
theorem andThen_nil (r : Int × List Int × Int) (h : r.1 ≠ 0 → r.2 = ([], 0)) : andThen [] r = r := by
 unfold andThen
 by_cases h3 : r.1 = 0
 ·rw [if_neg (by simpa using h3)]; ext <;> simp [h3]
 ·rw [if_pos h3, ← h h3]
theorem getRL_err (b : List UInt8) : ∀ (k : Nat) (a last : Int), (getRL b k a last).1 ≠ 0 → (getRL b k a last).2 = ([], 0)
 |0, a, last, h => by simp [getRL] at h
 |k + 1, a, last, h => by
  rw [getRL] at h ⊢
  split
  ·rfl
  ·rename_i h1; rw [if_neg h1] at h
   split
   ·rfl
   ·rename_i h2; rw [if_neg h2] at h
    split
    ·rfl
    ·rename_i h3; rw [if_neg h3] at h; simp at h
theorem get_nonneg (b : List UInt8) (a : Int) : 0 ≤ (get b a).1 ∧ 0 ≤ (get b a).2.2 ∧ (get b a).2.2 ≤ 2 ∧ ((get b a).2.2 ≠ 0 → (get b a).1 = 0 ∧ (get b a).2.1 = 0) := by
 unfold get
 split
 ·simp
 ·split <;> simp <;> omega
theorem get_range (b : List UInt8) (a : Int) : (get b a).1 ≤ 9223372036854775807 := by
 by_cases h : (get b a).2.2 = 0
 ·have := get_ok h; omega
 ·have := (get_nonneg b a).2.2.2 h; omega
theorem getL_put : ∀ (k m i acc : Nat) (post : List UInt8), m < 128 ^ (k + 1) → (0 < i → m ≠ 0) → getL ((put m ++ post).take (k + 1)) i acc = some (acc + m * 128 ^ i, i + (put m).length) := by
 intro k
 induction k with
 |zero =>
  intro m i acc post h h0
  have hm : m < 128 := by simpa using h
  have e : (UInt8.ofNat m).toNat = m := by rw [UInt8.toNat_ofNat']; omega
  rw [put_lt hm]
  simp only [List.cons_append, List.nil_append, List.take_succ_cons, getL, e]
  rw [if_pos hm, if_neg (by omega), Nat.mod_eq_of_lt hm]; rfl
 |succ k ih =>
  intro m i acc post h h0
  by_cases hm : m < 128
  ·have e : (UInt8.ofNat m).toNat = m := by rw [UInt8.toNat_ofNat']; omega
   rw [put_lt hm]
   simp only [List.cons_append, List.nil_append, List.take_succ_cons, getL, e]
   rw [if_pos hm, if_neg (by omega), Nat.mod_eq_of_lt hm]; rfl
  ·have e : (UInt8.ofNat (128 + m % 128)).toNat = 128 + m % 128 := by rw [UInt8.toNat_ofNat']; omega
   rw [put_ge (by omega)]
   simp only [List.cons_append, List.take_succ_cons, getL, e]
   rw [if_neg (by omega), ih (m / 128) (i + 1) _ post (by rw [Nat.pow_succ] at h; omega) (by omega)]
   have h2 : (128 + m % 128) % 128 = m % 128 := by omega
   rw [h2, Nat.pow_succ]
   congr 2
   ·have h3 : m = m % 128 + 128 * (m / 128) := by omega
    have h4 : m * 128 ^ i = (m % 128) * 128 ^ i + (m / 128) * (128 ^ i * 128) := by
     conv => lhs; rw [h3]
     rw [Nat.add_mul, Nat.mul_comm 128 (m / 128), Nat.mul_assoc, Nat.mul_comm 128 (128 ^ i)]
    omega
   ·simp; omega
theorem get_put (pre post : List UInt8) {n : Nat} (hn : n ≤ 9223372036854775807) : get (pre ++ put n ++ post) pre.length = ((n : Int), ((pre.length + (put n).length : Nat) : Int), 0) := by
 unfold get
 rw [if_neg (by simp; omega)]
 have h1 : ((pre ++ put n ++ post).drop (pre.length : Int).toNat).take 9 = (put n ++ post).take (8 + 1) := by
  rw [Int.toNat_natCast, List.append_assoc, List.drop_left]
 rw [h1, getL_put 8 n 0 0 post (by omega) (by omega)]
 simp
theorem getRL_put : ∀ (l : List Int) (pre post : List UInt8) (last : Int), -1 ≤ last → rises last l = true → (∀ x ∈ l, x ≤ 4611686018427387904) →
  getRL (pre ++ putR last l ++ post) l.length pre.length last = (0, l, ((pre.length + (putR last l).length : Nat) : Int))
 |[], pre, post, last, _, _, _ => by simp [putR, getRL]
 |x :: l, pre, post, last, h1, h2, h3 => by
  simp only [rises, Bool.and_eq_true, decide_eq_true_eq] at h2
  have hx := h3 x (List.mem_cons_self ..)
  have e0 : pre ++ putR last (x :: l) ++ post = pre ++ put (x - last - 1).toNat ++ (putR x l ++ post) := by simp [putR]
  have e1 := get_put pre (putR x l ++ post) (n := (x - last - 1).toNat) (by omega)
  have e2 : pre ++ put (x - last - 1).toNat ++ (putR x l ++ post) = (pre ++ put (x - last - 1).toNat) ++ putR x l ++ post := by simp
  have ih := getRL_put l (pre ++ put (x - last - 1).toNat) post x (by omega) h2.2 (fun y hy => h3 y (List.mem_cons_of_mem _ hy))
  rw [e0, List.length_cons, getRL_next (by rw [e1]) (by rw [e1]; simp only; omega), e1]
  simp only
  have e3 : last + 1 + (((x - last - 1).toNat : Nat) : Int) = x := by omega
  rw [e3, e2, show ((pre.length + (put (x - last - 1).toNat).length : Nat) : Int) = ((pre ++ put (x - last - 1).toNat).length : Int) from by simp, ih]
  simp [putR]; omega
theorem getRising_put (pre post : List UInt8) {l : List Int} (hr : rises (-1) l = true) (h3 : ∀ x ∈ l, x ≤ 4611686018427387904) (hl : l.length ≤ 9223372036854775807) :
  getRising (pre ++ putRising l ++ post) pre.length = (0, l, ((pre.length + (putRising l).length : Nat) : Int)) := by
 have e0 : pre ++ putRising l ++ post = pre ++ put l.length ++ (putR (-1) l ++ post) := by simp [putRising]
 have e1 := get_put pre (putR (-1) l ++ post) (n := l.length) hl
 have e2 : pre ++ put l.length ++ (putR (-1) l ++ post) = (pre ++ put l.length) ++ putR (-1) l ++ post := by simp
 unfold getRising
 rw [e0, e1, if_neg (by simp)]
 simp only
 have := getRL_put l (pre ++ put l.length) post (-1) (by omega) hr h3
 rw [e2, show ((pre.length + (put l.length).length : Nat) : Int) = ((pre ++ put l.length).length : Int) from by simp, Int.toNat_natCast, this]
 simp [putRising]; omega
end Go.K
namespace Go.K
set_option linter.unusedVariables false
set_option linter.unusedSimpArgs false
abbrev Po := Int × List Int
abbrev Bl := Int × Int × Int × Int
abbrev Li := List UInt8 × List Bl × Int
abbrev RT.po : RT Po := RT.pair (RT.int .i64) ((RT.int .i64).sl)
abbrev RT.bl : RT Bl := RT.pair (RT.int .i64) (RT.pair (RT.int .i64) (RT.pair (RT.int .i64) (RT.int .i64)))
abbrev RT.li : RT Li := RT.pair (RT.u8.sl) (RT.pair ((RT.bl).sl) (RT.int .i64))
theorem po0 : Part RT.po (RT.int .i64) (fun p => p.1) 0 := Part.fst _ _
theorem po1 : Part RT.po ((RT.int .i64).sl) (fun p => p.2) 1 := Part.snd _ _
theorem bl0 : Part RT.bl (RT.int .i64) (fun b => b.1) 0 := Part.fst _ _
theorem bl1 : Part RT.bl (RT.int .i64) (fun b => b.2.1) 1 := (Part.snd _ _).trans (Part.fst _ _)
theorem bl2 : Part RT.bl (RT.int .i64) (fun b => b.2.2.1) 2 := (Part.snd _ _).trans ((Part.snd _ _).trans (Part.fst _ _))
theorem bl3 : Part RT.bl (RT.int .i64) (fun b => b.2.2.2) 3 := (Part.snd _ _).trans ((Part.snd _ _).trans (Part.snd _ _))
theorem li0 : Part RT.li (RT.u8.sl) (fun x => x.1) 0 := Part.fst _ _
theorem li1 : Part RT.li ((RT.bl).sl) (fun x => x.2.1) 1 := (Part.snd _ _).trans (Part.fst _ _)
def isB (n : Nat) (k : Int) : Bool := decide (0 ≤ k ∧ k < n)
def lastB (bs : List Bl) (k : Int) : Int := if isB bs.length k then (bs.getD k.toNat (0, 0, 0, 0)).2.2.1 else -1
def putPo : Int → List Po → List UInt8
 |_, [] => []
 |last, (d, ps) :: l => put (d - last - 1).toNat ++ putRising ps ++ putPo d l
def lastPo : Int → List Po → Int
 |last, [] => last
 |_, (d, _) :: l => lastPo d l
def totPo (l : List Po) : Int := (l.map fun p => (p.2.length : Int)).sum
theorem putPo_append (l l' : List Po) (last : Int) : putPo last (l ++ l') = putPo last l ++ putPo (lastPo last l) l' := by
 induction l generalizing last with
 |nil => rfl
 |cons p l ih => obtain ⟨d, ps⟩ := p; simp [putPo, lastPo, ih]
theorem lastPo_append (l l' : List Po) (last : Int) : lastPo last (l ++ l') = lastPo (lastPo last l) l' := by
 induction l generalizing last with
 |nil => rfl
 |cons p l ih => obtain ⟨d, ps⟩ := p; simp [lastPo, ih]
theorem totPo_append (l l' : List Po) : totPo (l ++ l') = totPo l + totPo l' := by simp [totPo]
def blkOf (l : List Po) (k : Nat) : Bl := ((putPo (-1) (l.take (8 * k))).length, lastPo (-1) (l.take (8 * k)), lastPo (-1) (l.take (8 * k + 8)), ((l.drop (8 * k)).take 8).length)
def blks (l : List Po) (m : Nat) : List Bl := (List.range m).map (blkOf l)
def mkLi (l : List Po) : Li := (putPo (-1) l, blks l ((l.length + 7) / 8), totPo l)
def risesB (l : List Int) : Bool := rises (-1) l && l.all (fun n => decide (n < 2147483648))
def mayPo : Int → List Po → Bool
 |_, [] => true
 |last, (d, ps) :: l => decide (last < d) && decide (d < 2147483648) && !ps.isEmpty && risesB ps && mayPo d l
theorem may_at : ∀ {l : List Po} {i : Nat} {last d : Int} {ps : List Int}, mayPo last l = true → l[i]? = some (d, ps) →
  lastPo last (l.take i) < d ∧ d < 2147483648 ∧ ps ≠ [] ∧ risesB ps = true ∧ lastPo last (l.take (i + 1)) = d ∧ last ≤ lastPo last (l.take i)
 |[], i, _, _, _, _, h => by simp at h
 |(d0, p0) :: l, 0, last, d, ps, hm, h => by
  simp only [List.getElem?_cons_zero, Option.some.injEq, Prod.mk.injEq] at h
  obtain ⟨rfl, rfl⟩ := h
  simp only [mayPo, Bool.and_eq_true, decide_eq_true_eq] at hm
  obtain ⟨⟨⟨⟨h1, h2⟩, h3⟩, h4⟩, h5⟩ := hm
  refine ⟨h1, h2, ?_, h4, by simp [lastPo], by simp [lastPo]⟩
  rintro rfl; simp at h3
 |(d0, p0) :: l, i + 1, last, d, ps, hm, h => by
  simp only [mayPo, Bool.and_eq_true, decide_eq_true_eq] at hm
  obtain ⟨⟨⟨⟨h1, h2⟩, h3⟩, h4⟩, h5⟩ := hm
  obtain ⟨a1, a2, a3, a4, a5, a6⟩ := may_at (i := i) h5 (by simpa using h)
  refine ⟨by simpa [lastPo] using a1, a2, a3, a4, by simpa [lastPo] using a5, ?_⟩
  simp only [List.take_succ_cons, lastPo]; omega
theorem putPo_take {l : List Po} {i : Nat} {d : Int} {ps : List Int} (last : Int) (h : l[i]? = some (d, ps)) :
  putPo last (l.take (i + 1)) = putPo last (l.take i) ++ put (d - lastPo last (l.take i) - 1).toNat ++ putRising ps := by
 obtain ⟨h1, h2⟩ := List.getElem?_eq_some_iff.1 h
 rw [List.take_succ_eq_append_getElem h1, h2, putPo_append]; simp [putPo]
theorem putPo_split {l : List Po} {i : Nat} (last : Int) : putPo last l = putPo last (l.take i) ++ putPo (lastPo last (l.take i)) (l.drop i) := by
 conv => lhs; rw [← List.take_append_drop i l]
 exact putPo_append _ _ _
theorem risesB_iff {l : List Int} : risesB l = true ↔ rises (-1) l = true ∧ ∀ x ∈ l, x < 2147483648 := by
 simp [risesB]
def takeP (b : List UInt8) (at_ ahead : Int) : Po × Int × Int :=
 if (get b at_).2.2 ≠ 0 then ((0, []), 0, (get b at_).2.2)
 else ((IntKind.i64.wrap (IntKind.i64.wrap (ahead + 1) + (get b at_).1), (getRising b (get b at_).2.1).2.1), (getRising b (get b at_).2.1).2.2, (getRising b (get b at_).2.1).1)
theorem takeP_at {l : List Po} {i : Nat} {d : Int} {ps : List Int} (hm : mayPo (-1) l = true) (h : l[i]? = some (d, ps)) (hl : ps.length ≤ 1099511627776) :
  takeP (putPo (-1) l) (((putPo (-1) (l.take i)).length : Nat) : Int) (lastPo (-1) (l.take i)) = ((d, ps), (((putPo (-1) (l.take (i + 1))).length : Nat) : Int), 0) := by
 obtain ⟨h1, h2, h3, h4, h5, h6⟩ := may_at hm h
 obtain ⟨h7, h8⟩ := risesB_iff.1 h4
 have e1 := putPo_split (l := l) (i := i + 1) (-1)
 have e2 := putPo_take (-1) h
 generalize hla : lastPo (-1) (l.take i) = last at h1 h6 e2 ⊢
 generalize hpre : putPo (-1) (l.take i) = pre at e2 ⊢
 generalize putPo (lastPo (-1) (l.take (i + 1))) (l.drop (i + 1)) = post at e1
 rw [e2] at e1 ⊢
 have g1 := get_put pre (putRising ps ++ post) (n := (d - last - 1).toNat) (by omega)
 have g2 := getRising_put (pre ++ put (d - last - 1).toNat) post h7 (fun x hx => by have := h8 x hx; omega) (by omega)
 rw [show pre ++ put (d - last - 1).toNat ++ (putRising ps ++ post) = putPo (-1) l from by rw [e1]; simp] at g1
 rw [← e1] at g2
 unfold takeP
 rw [g1]
 simp only [ne_eq, not_true_eq_false, if_false]
 have hpl : ((pre.length + (put (d - last - 1).toNat).length : Nat) : Int) = ((pre ++ put (d - last - 1).toNat).length : Int) := by simp
 rw [hpl, g2]
 refine Prod.ext (Prod.ext ?_ rfl) (Prod.ext ?_ rfl)
 ·simp only
  rw [IntWalk.i64_in (last + 1) (by omega), IntWalk.i64_in _ (by omega)]; omega
 ·simp; omega
theorem all_drop {l : List Int} {k : Nat} {x : Int} (p : Int → Bool) (h : l[k]? = some x) : (l.drop k).all p = (p x && (l.drop (k + 1)).all p) := by
 obtain ⟨h1, h2⟩ := List.getElem?_eq_some_iff.1 h
 rw [List.drop_eq_getElem_cons h1, h2, List.all_cons]
theorem mayPo_drop {l : List Po} {k : Nat} {d : Int} {ps : List Int} (h : l[k]? = some (d, ps)) (last : Int) :
  mayPo last (l.drop k) = (decide (last < d) && decide (d < 2147483648) && !ps.isEmpty && risesB ps && mayPo d (l.drop (k + 1))) := by
 obtain ⟨h1, h2⟩ := List.getElem?_eq_some_iff.1 h
 rw [List.drop_eq_getElem_cons h1, h2, mayPo]
theorem totPo_take {l : List Po} {i : Nat} {d : Int} {ps : List Int} (h : l[i]? = some (d, ps)) : totPo (l.take (i + 1)) = totPo (l.take i) + ps.length := by
 obtain ⟨h1, h2⟩ := List.getElem?_eq_some_iff.1 h
 rw [List.take_succ_eq_append_getElem h1, h2, totPo_append]; simp [totPo]
theorem totPo_nonneg (l : List Po) : 0 ≤ totPo l := by
 induction l with
 |nil => simp [totPo]
 |cons p l ih => simp only [totPo, List.map_cons, List.sum_cons] at ih ⊢; omega
theorem totPo_le (l : List Po) (i : Nat) : 0 ≤ totPo (l.take i) ∧ totPo (l.take i) ≤ totPo l := by
 refine ⟨totPo_nonneg _, ?_⟩
 conv => rhs; rw [← List.take_append_drop i l, totPo_append]
 have := totPo_nonneg (l.drop i)
 omega
theorem putPo_take_le (l : List Po) (i : Nat) : (putPo (-1) (l.take i)).length ≤ (putPo (-1) l).length := by
 rw [putPo_split (l := l) (i := i) (-1)]; simp
theorem blks_succ (l : List Po) (k : Nat) : blks l (k + 1) = blks l k ++ [blkOf l k] := by simp [blks, List.range_succ]
theorem lastPo_rng : ∀ (l : List Po) (last : Int), mayPo last l = true → last < 2147483648 → ∀ n : Nat, last ≤ lastPo last (l.take n) ∧ lastPo last (l.take n) < 2147483648
 |[], last, _, h, n => by simp [lastPo]; exact h
 |(d, ps) :: l, last, hm, h, 0 => by simp [lastPo]; exact h
 |(d, ps) :: l, last, hm, h, n + 1 => by
  simp only [mayPo, Bool.and_eq_true, decide_eq_true_eq] at hm
  obtain ⟨⟨⟨⟨h1, h2⟩, h3⟩, h4⟩, h5⟩ := hm
  have := lastPo_rng l d h5 h2 n
  simp only [List.take_succ_cons, lastPo]; omega
theorem V_bl {M : PSet} {w : World} {a b c d : Int} (ha : -9223372036854775808 ≤ a ∧ a ≤ 9223372036854775807) (hb : -9223372036854775808 ≤ b ∧ b ≤ 9223372036854775807) (hc : -9223372036854775808 ≤ c ∧ c ≤ 9223372036854775807) (hd : -9223372036854775808 ≤ d ∧ d ≤ 9223372036854775807) :
  RT.bl.V M w (a, b, c, d) (.agg [.int .i64 a, .int .i64 b, .int .i64 c, .int .i64 d].toArray) :=
 ⟨_, ⟨[.int .i64 a], [.int .i64 b, .int .i64 c, .int .i64 d], rfl, ⟨rfl, ha⟩, [.int .i64 b], [.int .i64 c, .int .i64 d], rfl, ⟨rfl, hb⟩, [.int .i64 c], [.int .i64 d], rfl, ⟨rfl, hc⟩, ⟨rfl, hd⟩⟩, rfl⟩
theorem li_mk {M : PSet} {w : World} {bx : Nat} {b : List UInt8} {ks : List Bl} {tot : Int} {vb vk : Value} {e : TypeId} {fr : Nat × Nat} (hx : w.heap[bx]? = some (.cells #[vb, vk, .int .i64 tot] e fr)) (hm : ¬ M bx) (hb : (RT.u8.sl).V M w b vb) (hk : ((RT.bl).sl).V M w ks vk) (ht : -9223372036854775808 ≤ tot ∧ tot ≤ 9223372036854775807) :
  PtrTo RT.li M w (.pointer (some ⟨bx, 0, none⟩)) (b, ks, tot) :=
 ⟨bx, 0, [vb, vk, .int .i64 tot], rfl, hm, ⟨[vb], [vk, .int .i64 tot], rfl, V_cell hb rfl rfl, [vk], [.int .i64 tot], rfl, V_cell hk rfl rfl, ⟨rfl, ht⟩⟩, fun j v hj => cell_at hx (by simpa using hj)⟩
theorem blk_next {l : List Po} {i : Nat} (h8 : i % 8 = 0) (hi : i < l.length) : blks l ((i + 7) / 8) ++ [(((putPo (-1) (l.take i)).length : Int), lastPo (-1) (l.take i), lastPo (-1) (l.take (min (i + 8) l.length)), (((l.drop i).take 8).length : Int))] = blks l ((min (i + 8) l.length + 7) / 8) := by
 rw [show (min (i + 8) l.length + 7) / 8 = (i + 7) / 8 + 1 from by omega, blks_succ]
 have e : 8 * ((i + 7) / 8) = i := by omega
 have e2 : l.take (i + 8) = l.take (min (i + 8) l.length) := by rw [List.take_eq_take_iff]; omega
 simp only [blkOf, e, e2]
theorem lastPo_mono : ∀ (l : List Po) (last : Int) (n m : Nat), mayPo last l = true → last < 2147483648 → n ≤ m → lastPo last (l.take n) ≤ lastPo last (l.take m)
 |[], last, n, m, _, _, _ => by simp
 |(d, ps) :: l, last, 0, m, hm, h, _ => by
  have := (lastPo_rng ((d, ps) :: l) last hm h m).1
  simpa [lastPo] using this
 |(d, ps) :: l, last, n + 1, 0, _, _, h => by omega
 |(d, ps) :: l, last, n + 1, m + 1, hm, h, hnm => by
  simp only [mayPo, Bool.and_eq_true, decide_eq_true_eq] at hm
  obtain ⟨⟨⟨⟨h1, h2⟩, h3⟩, h4⟩, h5⟩ := hm
  simpa [lastPo] using lastPo_mono l d n m h5 h2 (by omega)
theorem lastB_mk {g : List Po} {k : Nat} (hk : k < (g.length + 7) / 8) : lastB (mkLi g).2.1 (k : Int) = lastPo (-1) (g.take (8 * k + 8)) := by
 have hl : (mkLi g).2.1.length = (g.length + 7) / 8 := by simp [mkLi, blks]
 have hb : (mkLi g).2.1[k]? = some (blkOf g k) := by simp only [mkLi, blks, List.getElem?_map]; rw [List.getElem?_range hk]; rfl
 unfold lastB isB
 rw [if_pos (by rw [hl]; simp; omega), Int.toNat_natCast, List.getD_eq_getElem?_getD, hb]; rfl
end Go.K
namespace Go.K
set_option linter.unusedVariables false
set_option linter.unusedSimpArgs false
section
variable {P : Program} {r : Option Nat} {n : Nat} {L : Sl} {ds : List Deferred} {w : World} {K : Kt} {ops : Array Oper} {rest : List Oper} {d : Nat} {x y : Operand} {ty : TypeId} {pos : String} {af : Array Edge}
theorem Rg.ptreq {t t' e : TypeId} {p : Option Addr} (ht : P.underlying t = some (.pointer e)) (hx : ev L x = some (.pointer p)) (hy : ev L y = some (.pointer none)) (hd : Nat.blt d n = true)
  (k : Rg P r n ops rest ((d, .bool (decide (p = none))) :: L) ds w K) :
  Rg P r n ops ({ dst := some d, op := .binOp .eql t x y t', type := ty, pos, after := af, guard := none } :: rest) L ds w K :=
 .op (fun _ h => by cases h) rfl rfl hd _ w (fun ρ h => by
  have hpe : P.underlying t = some (.pointer (P.pointee t)) := by simp [Program.pointee, ht]
  have he := run_equal_pointer_nil (P := P) w t p hpe
  simp only [execOp]; rw [h x _ hx, h y _ hy]
  cases p <;> simp [eqGuard, binOp, run_underlying ht, he]) k
end
end Go.K
namespace Go.K
set_option linter.unusedVariables false
set_option linter.unusedSimpArgs false
def idx : List Po → Int → Nat
 |[], _ => 0
 |p :: l, to => if p.1 < to then idx l to + 1 else 0
theorem idx_le : ∀ (l : List Po) (to : Int), idx l to ≤ l.length
 |[], _ => Nat.le_refl _
 |p :: l, to => by
  have := idx_le l to
  simp only [idx, List.length_cons]; split <;> omega
theorem idx_lt : ∀ {l : List Po} {to : Int} {j : Nat} {p : Po}, j < idx l to → l[j]? = some p → p.1 < to
 |[], _, _, _, h, _ => by simp [idx] at h
 |q :: l, to, j, p, h, hp => by
  simp only [idx] at h
  split at h
  ·cases j with
   |zero => simp at hp; subst hp; assumption
   |succ j => exact idx_lt (l := l) (j := j) (by omega) (by simpa using hp)
  ·omega
theorem idx_ge : ∀ {l : List Po} {to : Int} {p : Po}, l[idx l to]? = some p → to ≤ p.1
 |[], _, _, h => by simp [idx] at h
 |q :: l, to, p, h => by
  simp only [idx] at h
  split at h
  ·exact idx_ge (by simpa using h)
  ·simp at h; subst h; omega
theorem idx_min : ∀ {l : List Po} {to : Int} {e : Nat} {p : Po}, l[e]? = some p → to ≤ p.1 → idx l to ≤ e
 |[], _, _, _, h, _ => by simp at h
 |q :: l, to, e, p, h, hp => by
  simp only [idx]
  split
  ·cases e with
   |zero => simp at h; subst h; omega
   |succ e => have := idx_min (l := l) (e := e) (by simpa using h) hp; omega
  ·omega
theorem idx_eq {l : List Po} {to : Int} {i : Nat} (h1 : ∀ j, j < i → ∀ p, l[j]? = some p → p.1 < to) (h2 : ∀ p, l[i]? = some p → to ≤ p.1) (h3 : i ≤ l.length) : idx l to = i := by
 rcases Nat.lt_trichotomy (idx l to) i with h | h | h
 ·have hx : l[idx l to]? = some l[idx l to] := List.getElem?_eq_getElem (by omega)
  have := idx_ge hx; have := h1 _ h _ hx; omega
 ·exact h
 ·have := idx_le l to
  have hx : l[i]? = some l[i] := List.getElem?_eq_getElem (by omega)
  have := idx_lt h hx; have := h2 _ hx; omega
def docAt (l : List Po) (i : Int) : Int := if i < 0 then -1 else match l[i.toNat]? with | some p => p.1 | none => 2147483648
def placesAt (l : List Po) (i : Int) : List Int := if i < 0 then [] else match l[i.toNat]? with | some p => p.2 | none => []
def leftAt (l : List Po) (i : Int) : List Po := if i < 0 then [] else (l.drop i.toNat).take (8 - i.toNat % 8)
def advI (l : List Po) (i to : Int) : Int := if to ≤ docAt l i then i else idx l to
theorem doc_rng {l : List Po} {i : Nat} {d : Int} {ps : List Int} (hm : mayPo (-1) l = true) (h : l[i]? = some (d, ps)) : 0 ≤ d ∧ d < 2147483648 := by
 obtain ⟨f1, f2, f3, f4, f5, f6⟩ := may_at hm h; omega
theorem docAt_get {l : List Po} {i : Nat} {d : Int} {ps : List Int} (h : l[i]? = some (d, ps)) : docAt l (i : Int) = d := by
 unfold docAt; rw [if_neg (by omega), Int.toNat_natCast, h]
theorem docAt_neg {l : List Po} {i : Int} (h : i < 0) : docAt l i = -1 := by unfold docAt; rw [if_pos h]
theorem docAt_end {l : List Po} {i : Int} (h : (l.length : Int) ≤ i) : docAt l i = 2147483648 := by
 unfold docAt; rw [if_neg (by omega), List.getElem?_eq_none (by omega)]
theorem docAt_cases (l : List Po) (i : Int) : (i < 0 ∧ docAt l i = -1 ∧ placesAt l i = []) ∨ (∃ j : Nat, ∃ d ps, i = j ∧ l[j]? = some (d, ps) ∧ docAt l i = d ∧ placesAt l i = ps) ∨ ((l.length : Int) ≤ i ∧ docAt l i = 2147483648 ∧ placesAt l i = []) := by
 by_cases h0 : i < 0
 ·exact .inl ⟨h0, docAt_neg h0, by unfold placesAt; rw [if_pos h0]⟩
 ·by_cases h1 : (l.length : Int) ≤ i
  ·exact .inr (.inr ⟨h1, docAt_end h1, by unfold placesAt; rw [if_neg h0, List.getElem?_eq_none (by omega)]⟩)
  ·obtain ⟨j, rfl⟩ : ∃ j : Nat, i = j := ⟨i.toNat, by omega⟩
   obtain ⟨⟨d, ps⟩, hx⟩ : ∃ x, l[j]? = some x := ⟨_, List.getElem?_eq_getElem (by omega)⟩
   exact .inr (.inl ⟨j, d, ps, rfl, hx, docAt_get hx, by unfold placesAt; rw [if_neg h0, Int.toNat_natCast, hx]⟩)
theorem docAt_rng {l : List Po} (hm : mayPo (-1) l = true) (i : Int) : -1 ≤ docAt l i ∧ docAt l i ≤ 2147483648 := by
 rcases docAt_cases l i with ⟨_, h, _⟩ | ⟨j, d, ps, rfl, hx, h, _⟩ | ⟨_, h, _⟩
 ·omega
 ·have := doc_rng hm hx; omega
 ·omega
theorem lastPo_at {g : List Po} {i : Nat} {d : Int} {ps : List Int} (h : g[i]? = some (d, ps)) (last : Int) : lastPo last (g.take (i + 1)) = d := by
 obtain ⟨h1, h2⟩ := List.getElem?_eq_some_iff.1 h
 rw [List.take_succ_eq_append_getElem h1, h2, lastPo_append]; rfl
theorem last_lt {l : List Po} (hm : mayPo (-1) l = true) {t s : Nat} {p : Po} (hp : l[t]? = some p) (hts : t < s) : p.1 ≤ lastPo (-1) (l.take s) := by
 obtain ⟨d, ps⟩ := p
 rw [← lastPo_at hp (-1)]
 exact lastPo_mono l (-1) (t + 1) s hm (by decide) hts
theorem docs_lt {l : List Po} (hm : mayPo (-1) l = true) {t s : Nat} {p q : Po} (hp : l[t]? = some p) (hq : l[s]? = some q) (hts : t < s) : p.1 < q.1 := by
 obtain ⟨e, qs⟩ := q
 have h1 := last_lt hm hp hts
 have h2 := (may_at hm hq).1
 omega
theorem adv_block {l lf : List Po} (hm : mayPo (-1) l = true) {s k : Nat} {to : Int} (h1 : 8 * k ≤ s) (h2 : s < 8 * k + 8) (hs : s < l.length) (hlo : lastPo (-1) (l.take s) < to) (hhi : to ≤ lastPo (-1) (l.take (8 * k + 8)))
  (hlf : lf = (l.drop s).take (8 * k + 8 - s)) : idx l to = s + idx lf to ∧ idx lf to < lf.length ∧ idx l to < l.length ∧ idx l to / 8 = k ∧ lf.drop (idx lf to) = leftAt l (idx l to : Nat) := by
 have hj1 : s ≤ idx l to := by
  rcases Nat.lt_or_ge (idx l to) s with h | h
  ·have hx : l[idx l to]? = some l[idx l to] := List.getElem?_eq_getElem (by omega)
   have := idx_ge hx
   have := last_lt hm hx h; omega
  ·exact h
 obtain ⟨⟨d, ps⟩, he⟩ : ∃ x, l[min (8 * k + 8) l.length - 1]? = some x := ⟨_, List.getElem?_eq_getElem (by omega)⟩
 have hde : lastPo (-1) (l.take (8 * k + 8)) = d := by
  rw [← lastPo_at he (-1), show l.take (8 * k + 8) = l.take (min (8 * k + 8) l.length - 1 + 1) from by rw [List.take_eq_take_iff]; omega]
 have hj2 := idx_min he (to := to) (by simp only; omega)
 have hll : lf.length = min (8 * k + 8 - s) (l.length - s) := by rw [hlf, List.length_take, List.length_drop]
 have hget : ∀ t, t < lf.length → lf[t]? = l[s + t]? := fun t ht => by rw [hlf, List.getElem?_take, if_pos (by omega), List.getElem?_drop]
 have hif : idx lf to = idx l to - s := by
  refine idx_eq (fun j hj p hp => ?_) (fun p hp => ?_) (by omega)
  ·have hjl := (List.getElem?_eq_some_iff.1 hp).1
   rw [hget j hjl] at hp
   exact idx_lt (by omega) hp
  ·have hjl := (List.getElem?_eq_some_iff.1 hp).1
   rw [hget _ hjl, show s + (idx l to - s) = idx l to from by omega] at hp
   exact idx_ge hp
 refine ⟨by omega, by omega, by omega, by omega, ?_⟩
 unfold leftAt
 rw [if_neg (by omega), Int.toNat_natCast, hif, hlf, List.drop_take, List.drop_drop, show s + (idx l to - s) = idx l to from by omega, List.take_eq_take_iff, List.length_drop]
 omega
theorem adv_end {l : List Po} (hm : mayPo (-1) l = true) {to : Int} {n : Nat} (hn : l.length ≤ n) (hlo : lastPo (-1) (l.take n) < to) : idx l to = l.length := by
 refine idx_eq (fun j hj p hp => ?_) (fun p hp => ?_) (Nat.le_refl _)
 ·have := last_lt hm hp (s := n) (by omega); omega
 ·simp at hp
theorem adv_start {l : List Po} (hm : mayPo (-1) l = true) {i k to : Int} (hi : -1 ≤ i ∧ i ≤ l.length) (hk : -1 ≤ k ∧ k < ((l.length + 7) / 8 : Nat)) (hk0 : i < 0 → k = -1) (hk1 : 0 ≤ i → i < l.length → k = i / 8) (hto : docAt l i < to) :
  lastPo (-1) (l.take (8 * (max k 0).toNat)) < to := by
 rcases docAt_cases l i with ⟨h0, h, _⟩ | ⟨j, d, ps, rfl, hx, h, _⟩ | ⟨h0, h, _⟩
 ·rw [hk0 h0]
  simp only [show (max (-1 : Int) 0).toNat = 0 from by decide, Nat.mul_zero, List.take_zero, lastPo]; omega
 ·have hj := (List.getElem?_eq_some_iff.1 hx).1
  have hkk := hk1 (by omega) (by omega)
  have h2 := (may_at hm hx).1
  have h3 := lastPo_mono l (-1) (8 * (max k 0).toNat) j hm (by decide) (by omega)
  omega
 ·have := (lastPo_rng l (-1) hm (by decide) (8 * (max k 0).toNat)).2; omega
def Cu (T : TypeId) (l : List Po) (i : Int) (M : PSet) (w : World) (bc : Nat) : Prop :=
 ∃ (p u : Value) (k cnt : Int), M bc ∧ w.heap[bc]? = some (.cells #[p, .int .i64 k, u, .int .i64 (docAt l i), .int .i64 cnt] T (0, 0)) ∧ PtrTo RT.li M w p (mkLi l) ∧ ((RT.po).sl).V M w (leftAt l i) u ∧
  (-1 ≤ i ∧ i ≤ l.length) ∧ (-1 ≤ k ∧ k < ((l.length + 7) / 8 : Nat)) ∧ (i < 0 → k = -1) ∧ (0 ≤ i → i < l.length → k = i / 8)
theorem Cu.step {T : TypeId} {l : List Po} {i : Int} {M M' N : PSet} {w w' : World} {bc : Nat} (h : Cu T l i M w bc) (s : Step M w M' w' N) (hn : ¬ N bc) : Cu T l i M' w' bc := by
 obtain ⟨p, u, k, cnt, h1, h2, h3, h4, h5⟩ := h
 exact ⟨p, u, k, cnt, (s.mem bc (lt_of_get h2)).2 h1, s.keep h2 hn, h3.le (by decide) s.le, h4.le s.le, h5⟩
theorem po_val {M : PSet} {w : World} {d : Int} {ps : List Int} {v : Value} (h : RT.po.V M w (d, ps) v) : ∃ u, v = .agg #[.int .i64 d, u] ∧ u.oneCell' = true ∧ (-9223372036854775808 ≤ d ∧ d ≤ 9223372036854775807) := by
 obtain ⟨vs, ⟨va, vb, rfl, ⟨rfl, hd⟩, hb⟩, rfl⟩ := h
 obtain ⟨a, cap, rfl, _⟩ := hb
 exact ⟨_, rfl, rfl, hd⟩
end Go.K
namespace Go.K
set_option linter.unusedVariables false
set_option linter.unusedSimpArgs false
section
variable {P : Program} {r : Option Nat} {n : Nat} {L : Sl} {ds : List Deferred} {w : World}
theorem KretC1 {fn : Func} {Q : Value → World → Prop} {c t b : Nat} {vs : List Value} {fs : TypeDesc} {e : TypeId} {fr : Nat × Nat} {zv : Value} {size bytes : Nat} (hr : fn.results = #[.cell c t]) (hc : lk L c = some (.pointer (some ⟨b, 0, none⟩))) (hu : P.underlying t = some fs) (hf : fs.isRow = true) (hi : TI P t zv size bytes) (hl : vs.length = size)
  (hb : w.heap[b]? = some (.cells vs.toArray e fr)) (h : Q (.agg vs.toArray) w) : Kret P fn Q .ret L [] w :=
 ⟨rfl, fun a ha => ⟨_, by
  obtain ⟨i, hi1, _, hi2, _⟩ := hi.get
  have hrng : w.rangeAt b 0 vs := fun j v hj => cell_at hb (by simpa using hj)
  have := run_loadVar_mid (P := P) w b 0 t vs fs hrng hu hf (by simp [hi1, hi2, hl])
  simp [results, hr, ha _ _ hc, asAddr, this, Sem.run_bind], h⟩⟩
end
end Go.K
namespace Go.K
set_option linter.unusedVariables false
set_option linter.unusedSimpArgs false
section
variable {P : Program} {r : Option Nat} {n : Nat} {L : Sl} {ds : List Deferred} {w : World} {K : Kt} {ops : Array Oper} {rest : List Oper} {d : Nat} {x : Operand} {ty : TypeId} {pos : String} {af : Array Edge}
theorem Rg.lenraw {t e : TypeId} {a : Option Addr} {l c : Nat} (ht : P.underlying t = some (.slice e)) (hx : ev L x = some (.slice a l c)) (hd : Nat.blt d n = true)
  (k : Rg P r n ops rest ((d, .int .i64 (l : Int)) :: L) ds w K) :
  Rg P r n ops ({ dst := some d, op := .call { callee := .builtin .len, args := #[x], argTypes := #[t] }, type := ty, pos, after := af, guard := none } :: rest) L ds w K := by
 refine .op (fun _ h => by cases h) rfl rfl hd _ w (fun ρ h => ?_) k
 simp [execOp, resolve, invoke, builtin, h x _ hx, Builtin.len_, run_underlying ht, goInt]
end
end Go.K
namespace Go.K
set_option linter.unusedVariables false
set_option linter.unusedSimpArgs false
section
variable {P : Program} {r : Option Nat} {n : Nat} {L : Sl} {ds : List Deferred} {w : World} {K : Kt} {ops : Array Oper} {rest : List Oper} {d : Nat} {x y : Operand} {ty : TypeId} {pos : String} {af : Array Edge}
theorem run_part_int {t : TypeId} {k : IntKind} (ht : P.underlying t = some (.int k)) {cs : Array Value} {off : Nat} {v : Value} (hv : cs[off]? = some v) : (part t cs off).run P w = .ok v w := by
 have hagg : (isAgg t).run P w = .ok false w := by
  unfold isAgg
  rw [Sem.run_bind, run_underlying ht w]; simp
 unfold part
 rw [Sem.run_bind, hagg]
 simp [hv]
end
end Go.K
namespace Go.K
set_option linter.unusedVariables false
set_option linter.unusedSimpArgs false
open Go.RowKit (Below)
open Go.Maps (Keyed)
open Go.ChangeMaps (putKey delKey notKey)
abbrev DU := DataW Unit
structure MapO (P : Program) (k : TypeId) (R : Value → Option (DU × List MemPlace)) (M : PSet) (w : World) (b : Nat) (m : List (Lit × DU)) : Prop where
 mut_ : M b
 own : w.ownsMap P k R b m.length (.map m)
section
variable {P : Program} {r : Option Nat} {n : Nat} {L : Sl} {ds : List Deferred} {w : World} {K : Kt} {ops : Array Oper} {rest : List Oper} {d : Nat} {x y z : Operand} {ty : TypeId} {pos : String} {af : Array Edge}
variable {kt : TypeId} {R : Value → Option (DU × List MemPlace)} {M : PSet} {b : Nat} {m : List (Lit × DU)}
theorem Step.below' {w w' : World} (h : Below w.heap.size w w') (M : PSet) : Step M w M w' none' :=
 ⟨fun h0 b hb => Nat.lt_of_lt_of_le (h0 b hb) h.size, h.os, h.tape, h.output, h.size, fun _ _ => Iff.rfl, fun b hb _ => h.block b hb, fun _ h => h.elim⟩
end
end Go.K
namespace Go.K
set_option linter.unusedVariables false
set_option linter.unusedSimpArgs false
def allM : PSet := fun _ => True
theorem Step.all {M M' N : PSet} {w w' : World} (s : Step M w M' w' N) : Step allM w allM w' N := ⟨fun h => absurd (h w.heap.size trivial) (Nat.lt_irrefl _), s.os, s.tape, s.output, s.size, fun _ _ => Iff.rfl, s.same, fun _ _ => trivial⟩
theorem Step.toAny {M M' : PSet} {w w' : World} (s : Step M w M' w' none') (M1 : PSet) : Step M1 w M1 w' none' := s.any M1
theorem AllR.int {κ : IntKind} {M M' : PSet} {w w' : World} : ∀ {xs : List Int} {C : List Value}, AllR (RT.int κ) M w xs C → AllR (RT.int κ) M' w' xs C
 |[], _, h => h
 |x :: xs, C, h => by
  obtain ⟨vs, r, h1, h2, h3⟩ := h
  exact ⟨vs, r, h1, h2, AllR.int h3⟩
theorem Own.alli {κ : IntKind} {e : TypeId} {M : PSet} {w : World} {base : Nat} {v : Value} {xs : List Int} (h : Own (RT.int κ) e M w base v xs) {M' : PSet} (hm : ∀ b, v.ownBlock = some b → M' b) : Own (RT.int κ) e M' w base v xs := by
 obtain ⟨⟨C, h1, h2⟩, _⟩ := h
 exact ⟨⟨C, h1, AllR.int h2⟩, hm⟩
theorem Own.keepi {κ : IntKind} {e : TypeId} {N : PSet} {w w' : World} {base : Nat} {v : Value} {xs : List Int} (h : Own (RT.int κ) e allM w base v xs) (s : Step allM w allM w' N) (hn : ∀ b, v.ownBlock = some b → ¬ N b) : Own (RT.int κ) e allM w' base v xs := by
 obtain ⟨⟨C, h1, h2⟩, _⟩ := h
 refine ⟨⟨C, ⟨h1.1, ?_⟩, AllR.int h2⟩, fun _ _ => trivial⟩
 rcases h1.2 with h3 | ⟨g, cap, cur, h3, h4, h5, h6, h7, h8⟩
 ·exact .inl h3
 ·exact .inr ⟨g, cap, cur, h3, h4, by rw [s.same g (lt_of_get h5) (hn g (by rw [h3]; rfl))]; exact h5, h6, h7, h8⟩
def blkM (v : Value) : PSet := fun b => v.ownBlock = some b
theorem Own.lone {κ : IntKind} {e : TypeId} {M : PSet} {w : World} {base : Nat} {v : Value} {xs : List Int} (h : Own (RT.int κ) e M w base v xs) : Own (RT.int κ) e (blkM v) w base v xs := h.alli fun _ h => h
end Go.K
namespace Go.K
set_option linter.unusedVariables false
set_option linter.unusedSimpArgs false
def decG (at' : Nat → Nat) (cont : Nat → Bool) : Nat × Nat :=
 if at' 0 < 0x80 then (at' 0, 1)
 else if at' 0 / 32 == 6 && cont 1 then
  if (at' 0 % 32) * 64 + at' 1 % 64 ≥ 0x80 then ((at' 0 % 32) * 64 + at' 1 % 64, 2) else (65533, 1)
 else if at' 0 / 16 == 14 && cont 1 && cont 2 then
  if (at' 0 % 16) * 4096 + (at' 1 % 64) * 64 + at' 2 % 64 ≥ 0x800 && Utf8.valid ((at' 0 % 16) * 4096 + (at' 1 % 64) * 64 + at' 2 % 64 : Nat) then ((at' 0 % 16) * 4096 + (at' 1 % 64) * 64 + at' 2 % 64, 3) else (65533, 1)
 else if at' 0 / 8 == 30 && cont 1 && cont 2 && cont 3 then
  if (at' 0 % 8) * 262144 + (at' 1 % 64) * 4096 + (at' 2 % 64) * 64 + at' 3 % 64 ≥ 0x10000 && Utf8.valid ((at' 0 % 8) * 262144 + (at' 1 % 64) * 4096 + (at' 2 % 64) * 64 + at' 3 % 64 : Nat) then ((at' 0 % 8) * 262144 + (at' 1 % 64) * 4096 + (at' 2 % 64) * 64 + at' 3 % 64, 4) else (65533, 1)
 else (65533, 1)
theorem decode_eq (s : ByteArray) (i : Nat) : Utf8.decode s i = decG (fun k => (s.get! (i + k)).toNat) (fun k => decide (i + k < s.size) && (s.get! (i + k)).toNat / 64 == 2) := rfl
def atB (l : List UInt8) (k : Nat) : Nat := (l.getD k 0).toNat
def contB (l : List UInt8) (k : Nat) : Bool := decide (k < l.length) && atB l k / 64 == 2
def dec (l : List UInt8) : Nat × Nat := decG (atB l) (contB l)
theorem get_bytes (l : List UInt8) (j : Nat) : (⟨l.toArray⟩ : ByteArray).get! j = l.getD j 0 := by
 show l.toArray[j]! = _
 rw [List.getD_eq_getElem?_getD, getElem!_def]
 simp only [List.getElem?_toArray]
 cases l[j]? <;> rfl
theorem decode_dec (l : List UInt8) (pos : Nat) : Utf8.decode ⟨l.toArray⟩ pos = dec (l.drop pos) := by
 rw [decode_eq, dec]
 have h1 : (fun k => ((⟨l.toArray⟩ : ByteArray).get! (pos + k)).toNat) = atB (l.drop pos) := by
  funext k
  rw [get_bytes, atB, List.getD_eq_getElem?_getD, List.getD_eq_getElem?_getD, List.getElem?_drop]
 have h2 : (fun k => decide (pos + k < (⟨l.toArray⟩ : ByteArray).size) && ((⟨l.toArray⟩ : ByteArray).get! (pos + k)).toNat / 64 == 2) = contB (l.drop pos) := by
  funext k
  have := congrFun h1 k
  rw [this, contB, List.length_drop]
  congr 1
  have hs : (⟨l.toArray⟩ : ByteArray).size = l.length := by simp [ByteArray.size]
  rw [hs]
  exact decide_eq_decide.2 (by omega)
 rw [h1, h2]
theorem contB_lt {l : List UInt8} {k : Nat} (h : contB l k = true) : k < l.length := by
 simp only [contB, Bool.and_eq_true, decide_eq_true_eq] at h; exact h.1
theorem dec_width {l : List UInt8} (hl : l ≠ []) : 1 ≤ (dec l).2 ∧ (dec l).2 ≤ l.length := by
 have h0 : 0 < l.length := List.length_pos_iff.2 hl
 unfold dec decG
 split
 ·exact ⟨Nat.le_refl _, h0⟩
 ·split
  ·rename_i h
   simp only [Bool.and_eq_true] at h
   have := contB_lt h.2
   split <;> (simp only; omega)
  ·split
   ·rename_i h
    simp only [Bool.and_eq_true] at h
    have := contB_lt h.2
    split <;> (simp only; omega)
   ·split
    ·rename_i h
     simp only [Bool.and_eq_true] at h
     have := contB_lt h.2
     split <;> (simp only; omega)
    ·exact ⟨Nat.le_refl _, h0⟩
theorem atB_lt (l : List UInt8) (k : Nat) : atB l k < 256 := by unfold atB; exact UInt8.toNat_lt _
theorem dec_bound (l : List UInt8) : (dec l).1 ≤ 1114111 := by
 unfold dec decG
 split
 ·simp only; omega
 ·split
  ·have := atB_lt l 0
   split <;> (simp only; omega)
  ·split
   ·have := atB_lt l 0
    split <;> (simp only; omega)
   ·split
    ·split
     ·rename_i h
      simp only [Bool.and_eq_true, Utf8.valid, Bool.or_eq_true, decide_eq_true_eq] at h
      simp only; omega
     ·simp only; omega
    ·simp only; omega
def signs (l : List UInt8) : List Int := match l with
 |[] => []
 |c :: r => ((dec (c :: r)).1 : Int) :: signs ((c :: r).drop (dec (c :: r)).2)
termination_by l.length
decreasing_by
 have := (dec_width (l := c :: r) (by simp)).1
 simp only [List.length_drop, List.length_cons]; omega
theorem signs_nil : signs [] = [] := by unfold signs; rfl
theorem signs_step {l : List UInt8} (h : l ≠ []) : signs l = ((dec l).1 : Int) :: signs (l.drop (dec l).2) := by
 cases l with
 |nil => exact absurd rfl h
 |cons c r => rw [signs]
theorem signs_len (l : List UInt8) : (signs l).length ≤ l.length := by
 induction hn : l.length using Nat.strongRecOn generalizing l with
 |_ n ih =>
  by_cases h : l = []
  ·subst h; rw [signs_nil]; simp
  ·rw [signs_step h, List.length_cons]
   have hw := dec_width h
   have := ih _ (by rw [List.length_drop]; omega) (l.drop (dec l).2) rfl
   rw [List.length_drop] at this; omega
section
variable {P : Program} {r : Option Nat} {n : Nat} {L : Sl} {ds : List Deferred} {w : World} {K : Kt} {ops : Array Oper} {rest : List Oper} {d : Nat} {x : Operand} {ty : TypeId} {pos : String} {af : Array Edge}
theorem Rg.rangeStr {t : TypeId} {l : List UInt8} (M : PSet) (ht : P.underlying t = some .string) (hx : ev L x = some (.string ⟨l.toArray⟩)) (hd : Nat.blt d n = true)
  (k : ∀ b w', w.heap.size ≤ b → b < w'.heap.size → w'.heap[b]? = some (.stringIter ⟨l.toArray⟩ 0) → Step M w (ins M b) w' none' → Rg P r n ops rest ((d, .pointer (some ⟨b, 0, none⟩)) :: L) ds w' K) :
  Rg P r n ops ({ dst := some d, op := .range t x, type := ty, pos, after := af, guard := none } :: rest) L ds w K := by
 refine .op (fun _ h => by cases h) rfl rfl hd (.pointer (some ⟨w.heap.size, 0, none⟩)) (w.alloc (.stringIter ⟨l.toArray⟩ 0)) (fun ρ hρ => ?_) (k w.heap.size _ (Nat.le_refl _) (by simp) (heap_alloc_at w _) ((step_alloc M w _).own (Nat.le_refl _) (by simp)))
 simp only [execOp, hρ x _ hx]
 simp [Instr.range, Sem.run_bind, run_underlying ht, newObj, Sem.run]
theorem step_setObj (M : PSet) {b : Nat} {o : Obj} (hm : M b) : Step M w M { w with heap := w.heap.setIfInBounds b o } (fun k => k = b) :=
 ⟨fun h b hb => by simpa using h b hb, rfl, rfl, rfl, by simp, fun _ _ => Iff.rfl, fun k _ hn => by simp [Array.getElem?_setIfInBounds, Ne.symm hn], fun k hk => by subst hk; exact hm⟩
theorem run_getObj_str {b p : Nat} {s : ByteArray} (hb : w.heap[b]? = some (.stringIter s p)) : (getObj b).run P w = .ok (.stringIter s p) w := by simp [getObj, Sem.run, hb]
theorem Rg.nextStr {l : List UInt8} {b p : Nat} {M : PSet} (hx : ev L x = some (.pointer (some ⟨b, 0, none⟩))) (hb : w.heap[b]? = some (.stringIter ⟨l.toArray⟩ p)) (hm : M b) (hd : Nat.blt d n = true)
  (k1 : p < l.length → ∀ w', w'.heap[b]? = some (.stringIter ⟨l.toArray⟩ (p + (dec (l.drop p)).2)) → Step M w M w' (fun k => k = b) → Rg P r n ops rest ((d, .tuple #[.bool true, .int .i64 p, .int .i32 ((dec (l.drop p)).1 : Nat)]) :: L) ds w' K)
  (k2 : ¬ p < l.length → Rg P r n ops rest ((d, .tuple #[.bool false]) :: L) ds w K) :
  Rg P r n ops ({ dst := some d, op := .next x true, type := ty, pos, after := af, guard := none } :: rest) L ds w K := by
 have hs : (⟨l.toArray⟩ : ByteArray).size = l.length := by simp [ByteArray.size]
 have hlt := lt_of_get hb
 by_cases h : p < l.length
 ·have key := k1 h { w with heap := w.heap.setIfInBounds b (.stringIter ⟨l.toArray⟩ (p + (dec (l.drop p)).2)) } (by simp [Array.getElem?_setIfInBounds, hlt]) (step_setObj M hm)
  refine .op (fun _ h => by cases h) rfl rfl hd _ _ (fun ρ hρ => ?_) key
  simp only [execOp, hρ x _ hx, Instr.next, Sem.run_bind, run_getObj_str hb, Result.andThen_ok]
  rw [if_pos (by rw [hs]; exact h)]
  simp [decode_dec, setObj, Sem.run, goInt, hb]
 ·refine .op (fun _ h => by cases h) rfl rfl hd _ w (fun ρ hρ => ?_) (k2 h)
  simp only [execOp, hρ x _ hx, Instr.next, Sem.run_bind, run_getObj_str hb, Result.andThen_ok]
  rw [if_neg (by rw [hs]; exact h)]
  simp
end
theorem Own.notIter {α : Type} {A : RT α} {e : TypeId} {M : PSet} {w : World} {base b p : Nat} {s : ByteArray} {v : Value} {xs : List α} (h : Own A e M w base v xs) (hb : w.heap[b]? = some (.stringIter s p)) : v.ownBlock ≠ some b := fun hv => by
 obtain ⟨⟨C, h1, _⟩, _⟩ := h
 rcases h1.2 with ⟨h2, _⟩ | ⟨g, cap, cur, h2, _, h3, _⟩
 ·rw [h2] at hv; cases hv
 ·rw [h2] at hv; cases hv; rw [h3] at hb; cases hb
theorem Own.apartT {α β : Type} {A : RT α} {B : RT β} {e e' : TypeId} {M M' : PSet} {w : World} {base base' : Nat} {v u : Value} {xs : List α} {ys : List β} (h : Own A e M w base v xs) (h' : Own B e' M' w base' u ys) (ht : e ≠ e') {b : Nat} (hb : v.ownBlock = some b) : u.ownBlock ≠ some b := fun hu => by
 obtain ⟨⟨C, h1, _⟩, _⟩ := h
 obtain ⟨⟨C', h1', _⟩, _⟩ := h'
 rcases h1.2 with ⟨h2, _⟩ | ⟨g, cap, cur, h2, _, h3, _⟩
 ·rw [h2] at hb; cases hb
 ·rcases h1'.2 with ⟨h2', _⟩ | ⟨g', cap', cur', h2', _, h3', _⟩
  ·rw [h2'] at hu; cases hu
  ·rw [h2] at hb; rw [h2'] at hu; cases hb; cases hu
   rw [h3] at h3'; cases h3'; exact ht rfl
theorem Own.neT {α : Type} {A : RT α} {e t : TypeId} {M : PSet} {w : World} {base b : Nat} {v : Value} {xs : List α} {cs : Array Value} {fr : Nat × Nat} (h : Own A e M w base v xs) (hb : w.heap[b]? = some (.cells cs t fr)) (ht : t ≠ e) : v.ownBlock ≠ some b := fun hv => by
 obtain ⟨⟨C, h1, _⟩, _⟩ := h
 rcases h1.2 with ⟨h2, _⟩ | ⟨g, cap, cur, h2, _, h3, _⟩
 ·rw [h2] at hv; cases hv
 ·rw [h2] at hv; cases hv; rw [h3] at hb; cases hb; exact ht rfl
end Go.K
namespace Go.K
open Go.Proofs
theorem I3 : TI Tryz.prog 3 (.int .i64 0) 1 8 := by unfold TI; kernel_rfl
theorem I5 : TI Tryz.prog 5 (.int .u8 0) 1 1 := by unfold TI; kernel_rfl
theorem I9 : TI Tryz.prog 9 (.string ⟨#[]⟩) 1 16 := by unfold TI; kernel_rfl
theorem I26 : TI Tryz.prog 26 (.int .i64 0) 1 8 := by unfold TI; kernel_rfl
theorem I32 : TI Tryz.prog 32 (.slice none 0 0) 1 24 := by unfold TI; kernel_rfl
theorem I39 : TI Tryz.prog 39 (.slice none 0 0) 1 24 := by unfold TI; kernel_rfl
theorem I41 : TI Tryz.prog 41 (.agg #[(.int .i64 0), (.slice none 0 0)]) 2 32 := by unfold TI; kernel_rfl
theorem I43 : TI Tryz.prog 43 (.agg #[(.int .i64 0), (.slice none 0 0), (.int .i64 0)]) 3 40 := by unfold TI; kernel_rfl
theorem I47 : TI Tryz.prog 47 (.agg #[(.string ⟨#[]⟩), (.string ⟨#[]⟩)]) 2 32 := by unfold TI; kernel_rfl
theorem I55 : TI Tryz.prog 55 (.slice none 0 0) 1 24 := by unfold TI; kernel_rfl
theorem I98 : TI Tryz.prog 98 (.slice none 0 0) 1 24 := by unfold TI; kernel_rfl
theorem I127 : TI Tryz.prog 127 (.agg #[(.string ⟨#[]⟩), (.string ⟨#[]⟩)]) 2 32 := by unfold TI; kernel_rfl
theorem I129 : TI Tryz.prog 129 (.pointer none) 1 8 := by unfold TI; kernel_rfl
theorem I147 : TI Tryz.prog 147 (.slice none 0 0) 1 24 := by unfold TI; kernel_rfl
theorem I153 : TI Tryz.prog 153 (.agg #[(.int .i64 0), (.slice none 0 0)]) 2 32 := by unfold TI; kernel_rfl
theorem I191 : TI Tryz.prog 191 (.slice none 0 0) 1 24 := by unfold TI; kernel_rfl
theorem I193 : TI Tryz.prog 193 (.agg #[(.slice none 0 0), (.slice none 0 0), (.int .i64 0)]) 3 56 := by unfold TI; kernel_rfl
theorem I195 : TI Tryz.prog 195 (.agg #[(.int .i64 0), (.int .i64 0), (.int .i64 0), (.int .i64 0)]) 4 32 := by unfold TI; kernel_rfl
theorem I256 : TI Tryz.prog 256 (.agg #[(.string ⟨#[]⟩), (.int .i64 0)]) 2 24 := by unfold TI; kernel_rfl
theorem I309 : TI Tryz.prog 309 (.agg #[(.pointer none), (.slice none 0 0)]) 2 32 := by unfold TI; kernel_rfl
theorem B41 : placesOf Tryz.prog 41 = [(0, 1), (1, 1)].map some := by kernel_rfl
theorem B43 : placesOf Tryz.prog 43 = [(0, 2), (2, 1)].map some := by kernel_rfl
theorem B47 : placesOf Tryz.prog 47 = [(0, 1), (1, 1)].map some := by kernel_rfl
theorem B153 : placesOf Tryz.prog 153 = [(0, 1), (1, 1)].map some := by kernel_rfl
theorem B193 : placesOf Tryz.prog 193 = [(0, 1), (1, 1), (2, 1)].map some := by kernel_rfl
theorem B195 : placesOf Tryz.prog 195 = [(0, 1), (1, 1), (2, 1), (3, 1)].map some := by kernel_rfl
theorem B256 : placesOf Tryz.prog 256 = [(0, 1), (1, 1)].map some := by kernel_rfl
theorem mixed : Tryz.prog.follows .mixedOrders = true := by kernel_rfl
theorem E74 : Enters Tryz.prog 74 := enters Tryz.func74 rfl (by decide)
theorem E150 : Enters Tryz.prog 150 := enters Tryz.func150 rfl (by decide)
theorem E151 : Enters Tryz.prog 151 := enters Tryz.func151 rfl (by decide)
theorem E152 : Enters Tryz.prog 152 := enters Tryz.func152 rfl (by decide)
theorem E153 : Enters Tryz.prog 153 := enters Tryz.func153 rfl (by decide)
theorem E154 : Enters Tryz.prog 154 := enters Tryz.func154 rfl (by decide)
theorem E158 : Enters Tryz.prog 158 := enters Tryz.func158 rfl (by decide)
theorem E159 : Enters Tryz.prog 159 := enters Tryz.func159 rfl (by decide)
theorem E161 : Enters Tryz.prog 161 := enters Tryz.func161 rfl (by decide)
theorem E171 : Enters Tryz.prog 171 := enters Tryz.func171 rfl (by decide)
theorem E172 : Enters Tryz.prog 172 := enters Tryz.func172 rfl (by decide)
theorem E173 : Enters Tryz.prog 173 := enters Tryz.func173 rfl (by decide)
theorem E174 : Enters Tryz.prog 174 := enters Tryz.func174 rfl (by decide)
theorem E192 : Enters Tryz.prog 192 := enters Tryz.func192 rfl (by decide)
theorem E193 : Enters Tryz.prog 193 := enters Tryz.func193 rfl (by decide)
theorem E194 : Enters Tryz.prog 194 := enters Tryz.func194 rfl (by decide)
theorem E195 : Enters Tryz.prog 195 := enters Tryz.func195 rfl (by decide)
theorem E196 : Enters Tryz.prog 196 := enters Tryz.func196 rfl (by decide)
theorem E197 : Enters Tryz.prog 197 := enters Tryz.func197 rfl (by decide)
theorem E199 : Enters Tryz.prog 199 := enters Tryz.func199 rfl (by decide)
theorem E212 : Enters Tryz.prog 212 := enters Tryz.func212 rfl (by decide)
theorem E213 : Enters Tryz.prog 213 := enters Tryz.func213 rfl (by decide)
theorem E214 : Enters Tryz.prog 214 := enters Tryz.func214 rfl (by decide)
theorem E215 : Enters Tryz.prog 215 := enters Tryz.func215 rfl (by decide)
theorem E220 : Enters Tryz.prog 220 := enters Tryz.func220 rfl (by decide)
theorem E221 : Enters Tryz.prog 221 := enters Tryz.func221 rfl (by decide)
theorem E222 : Enters Tryz.prog 222 := enters Tryz.func222 rfl (by decide)
theorem E223 : Enters Tryz.prog 223 := enters Tryz.func223 rfl (by decide)
theorem E224 : Enters Tryz.prog 224 := enters Tryz.func224 rfl (by decide)
theorem E225 : Enters Tryz.prog 225 := enters Tryz.func225 rfl (by decide)
theorem E233 : Enters Tryz.prog 233 := enters Tryz.func233 rfl (by decide)
theorem E250 : Enters Tryz.prog 250 := enters Tryz.func250 rfl (by decide)
theorem E251 : Enters Tryz.prog 251 := enters Tryz.func251 rfl (by decide)
theorem E254 : Enters Tryz.prog 254 := enters Tryz.func254 rfl (by decide)
theorem E255 : Enters Tryz.prog 255 := enters Tryz.func255 rfl (by decide)
theorem E256 : Enters Tryz.prog 256 := enters Tryz.func256 rfl (by decide)
theorem E274 : Enters Tryz.prog 274 := enters Tryz.func274 rfl (by decide)
theorem E277 : Enters Tryz.prog 277 := enters Tryz.func277 rfl (by decide)
end Go.K
namespace Go.K
open Go.Proofs
set_option linter.unusedVariables false
set_option linter.unusedSimpArgs false
set_option maxRecDepth 10000
def letB (c : Int) : Bool := decide ((97 ≤ c ∧ c ≤ 122) ∨ (65 ≤ c ∧ c ≤ 90) ∨ (192 ≤ c ∧ c ≤ 591 ∧ c ≠ 215 ∧ c ≠ 247))
def digB (c : Int) : Bool := decide (48 ≤ c ∧ c ≤ 57)
def foldZ (c : Int) : Int := if (65 ≤ c ∧ c ≤ 90) ∨ (192 ≤ c ∧ c ≤ 222 ∧ c ≠ 215) then c + 32 else c
theorem letter_spec (c : Int) (w0 : World) :
  Spec Tryz.prog 221 #[.int .i64 c] w0 (fun v w => v = .bool (letB c) ∧ w = w0) := by
 refine spec_of (args := [_]) (fn := Tryz.f221) Tryz.func221 rfl (n := 33) Tryz.ntmps221 ?_
 refine T.seq ?_
 refine T.region ?_
 refine Rg.assign rfl rfl ?_
 refine Rg.nil ?_
 refine T.seq ?_
 refine T.region ?_
 refine Rg.move rfl rfl ?_
 refine Rg.ige rfl rfl rfl ?_
 refine Rg.move rfl rfl ?_
 refine Rg.gsplitp (g := 5) rfl (fun g1_2 => ?_) (fun g1_2 => ?_)
 ·refine Rg.gyes rfl rfl ?_
  refine Rg.move rfl rfl ?_
  refine Rg.gyes rfl rfl ?_
  refine Rg.ile rfl rfl rfl ?_
  refine Rg.pickt rfl rfl rfl ?_
  refine Rg.move rfl rfl ?_
  refine Rg.gsplitp (g := 9) rfl (fun g1_6 => ?_) (fun g1_6 => ?_)
  ·refine Rg.gno rfl rfl rfl rfl ?_
   refine Rg.gno rfl rfl rfl rfl ?_
   refine Rg.gno rfl rfl rfl rfl ?_
   refine Rg.gnox rfl rfl rfl ?_
   refine Rg.gnox rfl rfl rfl ?_
   refine Rg.gno rfl rfl rfl rfl ?_
   refine Rg.pickt rfl rfl rfl ?_
   refine Rg.move rfl rfl ?_
   refine Rg.gno rfl rfl rfl rfl ?_
   refine Rg.gno rfl rfl rfl rfl ?_
   refine Rg.gno rfl rfl rfl rfl ?_
   refine Rg.gnox rfl rfl rfl ?_
   refine Rg.gnox rfl rfl rfl ?_
   refine Rg.gno rfl rfl rfl rfl ?_
   refine Rg.gno rfl rfl rfl rfl ?_
   refine Rg.gnox rfl rfl rfl ?_
   refine Rg.gnox rfl rfl rfl ?_
   refine Rg.gno rfl rfl rfl rfl ?_
   refine Rg.gno rfl rfl rfl rfl ?_
   refine Rg.gnox rfl rfl rfl ?_
   refine Rg.gnox rfl rfl rfl ?_
   refine Rg.gno rfl rfl rfl rfl ?_
   refine Rg.pickt rfl rfl rfl ?_
   refine Rg.assign rfl rfl ?_
   refine Rg.nil ?_
   refine T.ret ?_
   exact Kret1 rfl rfl ⟨by simp only [letB]; first | rfl | (congr 1; first | (exact (decide_eq_true (by omega)).symm) | (exact (decide_eq_false (by omega)).symm) | (exact decide_eq_decide.2 (by omega))), rfl⟩
  ·refine Rg.gyes rfl rfl ?_
   refine Rg.move rfl rfl ?_
   refine Rg.gyes rfl rfl ?_
   refine Rg.ige rfl rfl rfl ?_
   refine Rg.gyes rfl rfl ?_
   refine Rg.move rfl rfl ?_
   refine Rg.gsplitp (g := 12) rfl (fun g1_9 => ?_) (fun g1_9 => ?_)
   ·refine Rg.gyes rfl rfl ?_
    refine Rg.move rfl rfl ?_
    refine Rg.gyes rfl rfl ?_
    refine Rg.ile rfl rfl rfl ?_
    refine Rg.gyes rfl rfl ?_
    refine Rg.pickt rfl rfl rfl ?_
    refine Rg.pickf rfl rfl rfl ?_
    refine Rg.move rfl rfl ?_
    refine Rg.gsplitp (g := 17) rfl (fun g1_14 => ?_) (fun g1_14 => ?_)
    ·refine Rg.gno rfl rfl rfl rfl ?_
     refine Rg.gno rfl rfl rfl rfl ?_
     refine Rg.gno rfl rfl rfl rfl ?_
     refine Rg.gnox rfl rfl rfl ?_
     refine Rg.gnox rfl rfl rfl ?_
     refine Rg.gno rfl rfl rfl rfl ?_
     refine Rg.gno rfl rfl rfl rfl ?_
     refine Rg.gnox rfl rfl rfl ?_
     refine Rg.gnox rfl rfl rfl ?_
     refine Rg.gno rfl rfl rfl rfl ?_
     refine Rg.gno rfl rfl rfl rfl ?_
     refine Rg.gnox rfl rfl rfl ?_
     refine Rg.gnox rfl rfl rfl ?_
     refine Rg.gno rfl rfl rfl rfl ?_
     refine Rg.pickt rfl rfl rfl ?_
     refine Rg.assign rfl rfl ?_
     refine Rg.nil ?_
     refine T.ret ?_
     exact Kret1 rfl rfl ⟨by simp only [letB]; first | rfl | (congr 1; first | (exact (decide_eq_true (by omega)).symm) | (exact (decide_eq_false (by omega)).symm) | (exact decide_eq_decide.2 (by omega))), rfl⟩
    ·refine Rg.gyes rfl rfl ?_
     refine Rg.move rfl rfl ?_
     refine Rg.gyes rfl rfl ?_
     refine Rg.ige rfl rfl rfl ?_
     refine Rg.gyes rfl rfl ?_
     refine Rg.move rfl rfl ?_
     refine Rg.gsplitp (g := 20) rfl (fun g1_17 => ?_) (fun g1_17 => ?_)
     ·refine Rg.gyes rfl rfl ?_
      refine Rg.move rfl rfl ?_
      refine Rg.gyes rfl rfl ?_
      refine Rg.ile rfl rfl rfl ?_
      refine Rg.gyes rfl rfl ?_
      refine Rg.pickt rfl rfl rfl ?_
      refine Rg.gyes rfl rfl ?_
      refine Rg.move rfl rfl ?_
      refine Rg.gsplitp (g := 24) rfl (fun g1_21 => ?_) (fun g1_21 => ?_)
      ·refine Rg.gyes rfl rfl ?_
       refine Rg.move rfl rfl ?_
       refine Rg.gyes rfl rfl ?_
       refine Rg.ine rfl rfl rfl ?_
       refine Rg.gyes rfl rfl ?_
       refine Rg.pickt rfl rfl rfl ?_
       refine Rg.gyes rfl rfl ?_
       refine Rg.move rfl rfl ?_
       refine Rg.gsplitp (g := 28) rfl (fun g1_25 => ?_) (fun g1_25 => ?_)
       ·refine Rg.gyes rfl rfl ?_
        refine Rg.move rfl rfl ?_
        refine Rg.gyes rfl rfl ?_
        refine Rg.ine rfl rfl rfl ?_
        refine Rg.gyes rfl rfl ?_
        refine Rg.pickt rfl rfl rfl ?_
        refine Rg.pickf rfl rfl rfl ?_
        refine Rg.assign rfl rfl ?_
        refine Rg.nil ?_
        refine T.ret ?_
        exact Kret1 rfl rfl ⟨by simp only [letB]; first | rfl | (congr 1; first | (exact (decide_eq_true (by omega)).symm) | (exact (decide_eq_false (by omega)).symm) | (exact decide_eq_decide.2 (by omega))), rfl⟩
       ·refine Rg.gno rfl rfl rfl rfl ?_
        refine Rg.gno rfl rfl rfl rfl ?_
        refine Rg.gyes rfl rfl ?_
        refine Rg.pickf rfl rfl rfl ?_
        refine Rg.pickf rfl rfl rfl ?_
        refine Rg.assign rfl rfl ?_
        refine Rg.nil ?_
        refine T.ret ?_
        exact Kret1 rfl rfl ⟨by simp only [letB]; first | rfl | (congr 1; first | (exact (decide_eq_true (by omega)).symm) | (exact (decide_eq_false (by omega)).symm) | (exact decide_eq_decide.2 (by omega))), rfl⟩
      ·refine Rg.gno rfl rfl rfl rfl ?_
       refine Rg.gno rfl rfl rfl rfl ?_
       refine Rg.gyes rfl rfl ?_
       refine Rg.pickf rfl rfl rfl ?_
       refine Rg.gyes rfl rfl ?_
       refine Rg.move rfl rfl ?_
       refine Rg.gno rfl rfl rfl rfl ?_
       refine Rg.gno rfl rfl rfl rfl ?_
       refine Rg.gyes rfl rfl ?_
       refine Rg.pickf rfl rfl rfl ?_
       refine Rg.pickf rfl rfl rfl ?_
       refine Rg.assign rfl rfl ?_
       refine Rg.nil ?_
       refine T.ret ?_
       exact Kret1 rfl rfl ⟨by simp only [letB]; first | rfl | (congr 1; first | (exact (decide_eq_true (by omega)).symm) | (exact (decide_eq_false (by omega)).symm) | (exact decide_eq_decide.2 (by omega))), rfl⟩
     ·refine Rg.gno rfl rfl rfl rfl ?_
      refine Rg.gno rfl rfl rfl rfl ?_
      refine Rg.gyes rfl rfl ?_
      refine Rg.pickf rfl rfl rfl ?_
      refine Rg.gyes rfl rfl ?_
      refine Rg.move rfl rfl ?_
      refine Rg.gno rfl rfl rfl rfl ?_
      refine Rg.gno rfl rfl rfl rfl ?_
      refine Rg.gyes rfl rfl ?_
      refine Rg.pickf rfl rfl rfl ?_
      refine Rg.gyes rfl rfl ?_
      refine Rg.move rfl rfl ?_
      refine Rg.gno rfl rfl rfl rfl ?_
      refine Rg.gno rfl rfl rfl rfl ?_
      refine Rg.gyes rfl rfl ?_
      refine Rg.pickf rfl rfl rfl ?_
      refine Rg.pickf rfl rfl rfl ?_
      refine Rg.assign rfl rfl ?_
      refine Rg.nil ?_
      refine T.ret ?_
      exact Kret1 rfl rfl ⟨by simp only [letB]; first | rfl | (congr 1; first | (exact (decide_eq_true (by omega)).symm) | (exact (decide_eq_false (by omega)).symm) | (exact decide_eq_decide.2 (by omega))), rfl⟩
   ·refine Rg.gno rfl rfl rfl rfl ?_
    refine Rg.gno rfl rfl rfl rfl ?_
    refine Rg.gyes rfl rfl ?_
    refine Rg.pickf rfl rfl rfl ?_
    refine Rg.pickf rfl rfl rfl ?_
    refine Rg.move rfl rfl ?_
    refine Rg.gyes rfl rfl ?_
    refine Rg.move rfl rfl ?_
    refine Rg.gyes rfl rfl ?_
    refine Rg.ige rfl rfl rfl ?_
    refine Rg.gyes rfl rfl ?_
    refine Rg.move rfl rfl ?_
    refine Rg.gsplitp (g := 20) rfl (fun g1_17 => ?_) (fun g1_17 => ?_)
    ·refine Rg.gyes rfl rfl ?_
     refine Rg.move rfl rfl ?_
     refine Rg.gyes rfl rfl ?_
     refine Rg.ile rfl rfl rfl ?_
     refine Rg.gyes rfl rfl ?_
     refine Rg.pickt rfl rfl rfl ?_
     refine Rg.gyes rfl rfl ?_
     refine Rg.move rfl rfl ?_
     refine Rg.gsplitp (g := 24) rfl (fun g1_21 => ?_) (fun g1_21 => ?_)
     ·refine Rg.gyes rfl rfl ?_
      refine Rg.move rfl rfl ?_
      refine Rg.gyes rfl rfl ?_
      refine Rg.ine rfl rfl rfl ?_
      refine Rg.gyes rfl rfl ?_
      refine Rg.pickt rfl rfl rfl ?_
      refine Rg.gyes rfl rfl ?_
      refine Rg.move rfl rfl ?_
      refine Rg.gsplitp (g := 28) rfl (fun g1_25 => ?_) (fun g1_25 => ?_)
      ·refine Rg.gyes rfl rfl ?_
       refine Rg.move rfl rfl ?_
       refine Rg.gyes rfl rfl ?_
       refine Rg.ine rfl rfl rfl ?_
       refine Rg.gyes rfl rfl ?_
       refine Rg.pickt rfl rfl rfl ?_
       refine Rg.pickf rfl rfl rfl ?_
       refine Rg.assign rfl rfl ?_
       refine Rg.nil ?_
       refine T.ret ?_
       exact Kret1 rfl rfl ⟨by simp only [letB]; first | rfl | (congr 1; first | (exact (decide_eq_true (by omega)).symm) | (exact (decide_eq_false (by omega)).symm) | (exact decide_eq_decide.2 (by omega))), rfl⟩
      ·refine Rg.gno rfl rfl rfl rfl ?_
       refine Rg.gno rfl rfl rfl rfl ?_
       refine Rg.gyes rfl rfl ?_
       refine Rg.pickf rfl rfl rfl ?_
       refine Rg.pickf rfl rfl rfl ?_
       refine Rg.assign rfl rfl ?_
       refine Rg.nil ?_
       refine T.ret ?_
       exact Kret1 rfl rfl ⟨by simp only [letB]; first | rfl | (congr 1; first | (exact (decide_eq_true (by omega)).symm) | (exact (decide_eq_false (by omega)).symm) | (exact decide_eq_decide.2 (by omega))), rfl⟩
     ·refine Rg.gno rfl rfl rfl rfl ?_
      refine Rg.gno rfl rfl rfl rfl ?_
      refine Rg.gyes rfl rfl ?_
      refine Rg.pickf rfl rfl rfl ?_
      refine Rg.gyes rfl rfl ?_
      refine Rg.move rfl rfl ?_
      refine Rg.gno rfl rfl rfl rfl ?_
      refine Rg.gno rfl rfl rfl rfl ?_
      refine Rg.gyes rfl rfl ?_
      refine Rg.pickf rfl rfl rfl ?_
      refine Rg.pickf rfl rfl rfl ?_
      refine Rg.assign rfl rfl ?_
      refine Rg.nil ?_
      refine T.ret ?_
      exact Kret1 rfl rfl ⟨by simp only [letB]; first | rfl | (congr 1; first | (exact (decide_eq_true (by omega)).symm) | (exact (decide_eq_false (by omega)).symm) | (exact decide_eq_decide.2 (by omega))), rfl⟩
    ·refine Rg.gno rfl rfl rfl rfl ?_
     refine Rg.gno rfl rfl rfl rfl ?_
     refine Rg.gyes rfl rfl ?_
     refine Rg.pickf rfl rfl rfl ?_
     refine Rg.gyes rfl rfl ?_
     refine Rg.move rfl rfl ?_
     refine Rg.gno rfl rfl rfl rfl ?_
     refine Rg.gno rfl rfl rfl rfl ?_
     refine Rg.gyes rfl rfl ?_
     refine Rg.pickf rfl rfl rfl ?_
     refine Rg.gyes rfl rfl ?_
     refine Rg.move rfl rfl ?_
     refine Rg.gno rfl rfl rfl rfl ?_
     refine Rg.gno rfl rfl rfl rfl ?_
     refine Rg.gyes rfl rfl ?_
     refine Rg.pickf rfl rfl rfl ?_
     refine Rg.pickf rfl rfl rfl ?_
     refine Rg.assign rfl rfl ?_
     refine Rg.nil ?_
     refine T.ret ?_
     exact Kret1 rfl rfl ⟨by simp only [letB]; first | rfl | (congr 1; first | (exact (decide_eq_true (by omega)).symm) | (exact (decide_eq_false (by omega)).symm) | (exact decide_eq_decide.2 (by omega))), rfl⟩
 ·refine Rg.gno rfl rfl rfl rfl ?_
  refine Rg.gno rfl rfl rfl rfl ?_
  refine Rg.pickf rfl rfl rfl ?_
  refine Rg.move rfl rfl ?_
  refine Rg.gyes rfl rfl ?_
  refine Rg.move rfl rfl ?_
  refine Rg.gyes rfl rfl ?_
  refine Rg.ige rfl rfl rfl ?_
  refine Rg.gyes rfl rfl ?_
  refine Rg.move rfl rfl ?_
  refine Rg.gsplitp (g := 12) rfl (fun g1_9 => ?_) (fun g1_9 => ?_)
  ·refine Rg.gyes rfl rfl ?_
   refine Rg.move rfl rfl ?_
   refine Rg.gyes rfl rfl ?_
   refine Rg.ile rfl rfl rfl ?_
   refine Rg.gyes rfl rfl ?_
   refine Rg.pickt rfl rfl rfl ?_
   refine Rg.pickf rfl rfl rfl ?_
   refine Rg.move rfl rfl ?_
   refine Rg.gsplitp (g := 17) rfl (fun g1_14 => ?_) (fun g1_14 => ?_)
   ·refine Rg.gno rfl rfl rfl rfl ?_
    refine Rg.gno rfl rfl rfl rfl ?_
    refine Rg.gno rfl rfl rfl rfl ?_
    refine Rg.gnox rfl rfl rfl ?_
    refine Rg.gnox rfl rfl rfl ?_
    refine Rg.gno rfl rfl rfl rfl ?_
    refine Rg.gno rfl rfl rfl rfl ?_
    refine Rg.gnox rfl rfl rfl ?_
    refine Rg.gnox rfl rfl rfl ?_
    refine Rg.gno rfl rfl rfl rfl ?_
    refine Rg.gno rfl rfl rfl rfl ?_
    refine Rg.gnox rfl rfl rfl ?_
    refine Rg.gnox rfl rfl rfl ?_
    refine Rg.gno rfl rfl rfl rfl ?_
    refine Rg.pickt rfl rfl rfl ?_
    refine Rg.assign rfl rfl ?_
    refine Rg.nil ?_
    refine T.ret ?_
    exact Kret1 rfl rfl ⟨by simp only [letB]; first | rfl | (congr 1; first | (exact (decide_eq_true (by omega)).symm) | (exact (decide_eq_false (by omega)).symm) | (exact decide_eq_decide.2 (by omega))), rfl⟩
   ·refine Rg.gyes rfl rfl ?_
    refine Rg.move rfl rfl ?_
    refine Rg.gyes rfl rfl ?_
    refine Rg.ige rfl rfl rfl ?_
    refine Rg.gyes rfl rfl ?_
    refine Rg.move rfl rfl ?_
    refine Rg.gsplitp (g := 20) rfl (fun g1_17 => ?_) (fun g1_17 => ?_)
    ·refine Rg.gyes rfl rfl ?_
     refine Rg.move rfl rfl ?_
     refine Rg.gyes rfl rfl ?_
     refine Rg.ile rfl rfl rfl ?_
     refine Rg.gyes rfl rfl ?_
     refine Rg.pickt rfl rfl rfl ?_
     refine Rg.gyes rfl rfl ?_
     refine Rg.move rfl rfl ?_
     refine Rg.gsplitp (g := 24) rfl (fun g1_21 => ?_) (fun g1_21 => ?_)
     ·refine Rg.gyes rfl rfl ?_
      refine Rg.move rfl rfl ?_
      refine Rg.gyes rfl rfl ?_
      refine Rg.ine rfl rfl rfl ?_
      refine Rg.gyes rfl rfl ?_
      refine Rg.pickt rfl rfl rfl ?_
      refine Rg.gyes rfl rfl ?_
      refine Rg.move rfl rfl ?_
      refine Rg.gsplitp (g := 28) rfl (fun g1_25 => ?_) (fun g1_25 => ?_)
      ·refine Rg.gyes rfl rfl ?_
       refine Rg.move rfl rfl ?_
       refine Rg.gyes rfl rfl ?_
       refine Rg.ine rfl rfl rfl ?_
       refine Rg.gyes rfl rfl ?_
       refine Rg.pickt rfl rfl rfl ?_
       refine Rg.pickf rfl rfl rfl ?_
       refine Rg.assign rfl rfl ?_
       refine Rg.nil ?_
       refine T.ret ?_
       exact Kret1 rfl rfl ⟨by simp only [letB]; first | rfl | (congr 1; first | (exact (decide_eq_true (by omega)).symm) | (exact (decide_eq_false (by omega)).symm) | (exact decide_eq_decide.2 (by omega))), rfl⟩
      ·refine Rg.gno rfl rfl rfl rfl ?_
       refine Rg.gno rfl rfl rfl rfl ?_
       refine Rg.gyes rfl rfl ?_
       refine Rg.pickf rfl rfl rfl ?_
       refine Rg.pickf rfl rfl rfl ?_
       refine Rg.assign rfl rfl ?_
       refine Rg.nil ?_
       refine T.ret ?_
       exact Kret1 rfl rfl ⟨by simp only [letB]; first | rfl | (congr 1; first | (exact (decide_eq_true (by omega)).symm) | (exact (decide_eq_false (by omega)).symm) | (exact decide_eq_decide.2 (by omega))), rfl⟩
     ·refine Rg.gno rfl rfl rfl rfl ?_
      refine Rg.gno rfl rfl rfl rfl ?_
      refine Rg.gyes rfl rfl ?_
      refine Rg.pickf rfl rfl rfl ?_
      refine Rg.gyes rfl rfl ?_
      refine Rg.move rfl rfl ?_
      refine Rg.gno rfl rfl rfl rfl ?_
      refine Rg.gno rfl rfl rfl rfl ?_
      refine Rg.gyes rfl rfl ?_
      refine Rg.pickf rfl rfl rfl ?_
      refine Rg.pickf rfl rfl rfl ?_
      refine Rg.assign rfl rfl ?_
      refine Rg.nil ?_
      refine T.ret ?_
      exact Kret1 rfl rfl ⟨by simp only [letB]; first | rfl | (congr 1; first | (exact (decide_eq_true (by omega)).symm) | (exact (decide_eq_false (by omega)).symm) | (exact decide_eq_decide.2 (by omega))), rfl⟩
    ·refine Rg.gno rfl rfl rfl rfl ?_
     refine Rg.gno rfl rfl rfl rfl ?_
     refine Rg.gyes rfl rfl ?_
     refine Rg.pickf rfl rfl rfl ?_
     refine Rg.gyes rfl rfl ?_
     refine Rg.move rfl rfl ?_
     refine Rg.gno rfl rfl rfl rfl ?_
     refine Rg.gno rfl rfl rfl rfl ?_
     refine Rg.gyes rfl rfl ?_
     refine Rg.pickf rfl rfl rfl ?_
     refine Rg.gyes rfl rfl ?_
     refine Rg.move rfl rfl ?_
     refine Rg.gno rfl rfl rfl rfl ?_
     refine Rg.gno rfl rfl rfl rfl ?_
     refine Rg.gyes rfl rfl ?_
     refine Rg.pickf rfl rfl rfl ?_
     refine Rg.pickf rfl rfl rfl ?_
     refine Rg.assign rfl rfl ?_
     refine Rg.nil ?_
     refine T.ret ?_
     exact Kret1 rfl rfl ⟨by simp only [letB]; first | rfl | (congr 1; first | (exact (decide_eq_true (by omega)).symm) | (exact (decide_eq_false (by omega)).symm) | (exact decide_eq_decide.2 (by omega))), rfl⟩
  ·refine Rg.gno rfl rfl rfl rfl ?_
   refine Rg.gno rfl rfl rfl rfl ?_
   refine Rg.gyes rfl rfl ?_
   refine Rg.pickf rfl rfl rfl ?_
   refine Rg.pickf rfl rfl rfl ?_
   refine Rg.move rfl rfl ?_
   refine Rg.gyes rfl rfl ?_
   refine Rg.move rfl rfl ?_
   refine Rg.gyes rfl rfl ?_
   refine Rg.ige rfl rfl rfl ?_
   refine Rg.gyes rfl rfl ?_
   refine Rg.move rfl rfl ?_
   refine Rg.gsplitp (g := 20) rfl (fun g1_17 => ?_) (fun g1_17 => ?_)
   ·refine Rg.gyes rfl rfl ?_
    refine Rg.move rfl rfl ?_
    refine Rg.gyes rfl rfl ?_
    refine Rg.ile rfl rfl rfl ?_
    refine Rg.gyes rfl rfl ?_
    refine Rg.pickt rfl rfl rfl ?_
    refine Rg.gyes rfl rfl ?_
    refine Rg.move rfl rfl ?_
    refine Rg.gsplitp (g := 24) rfl (fun g1_21 => ?_) (fun g1_21 => ?_)
    ·refine Rg.gyes rfl rfl ?_
     refine Rg.move rfl rfl ?_
     refine Rg.gyes rfl rfl ?_
     refine Rg.ine rfl rfl rfl ?_
     refine Rg.gyes rfl rfl ?_
     refine Rg.pickt rfl rfl rfl ?_
     refine Rg.gyes rfl rfl ?_
     refine Rg.move rfl rfl ?_
     refine Rg.gsplitp (g := 28) rfl (fun g1_25 => ?_) (fun g1_25 => ?_)
     ·refine Rg.gyes rfl rfl ?_
      refine Rg.move rfl rfl ?_
      refine Rg.gyes rfl rfl ?_
      refine Rg.ine rfl rfl rfl ?_
      refine Rg.gyes rfl rfl ?_
      refine Rg.pickt rfl rfl rfl ?_
      refine Rg.pickf rfl rfl rfl ?_
      refine Rg.assign rfl rfl ?_
      refine Rg.nil ?_
      refine T.ret ?_
      exact Kret1 rfl rfl ⟨by simp only [letB]; first | rfl | (congr 1; first | (exact (decide_eq_true (by omega)).symm) | (exact (decide_eq_false (by omega)).symm) | (exact decide_eq_decide.2 (by omega))), rfl⟩
     ·refine Rg.gno rfl rfl rfl rfl ?_
      refine Rg.gno rfl rfl rfl rfl ?_
      refine Rg.gyes rfl rfl ?_
      refine Rg.pickf rfl rfl rfl ?_
      refine Rg.pickf rfl rfl rfl ?_
      refine Rg.assign rfl rfl ?_
      refine Rg.nil ?_
      refine T.ret ?_
      exact Kret1 rfl rfl ⟨by simp only [letB]; first | rfl | (congr 1; first | (exact (decide_eq_true (by omega)).symm) | (exact (decide_eq_false (by omega)).symm) | (exact decide_eq_decide.2 (by omega))), rfl⟩
    ·refine Rg.gno rfl rfl rfl rfl ?_
     refine Rg.gno rfl rfl rfl rfl ?_
     refine Rg.gyes rfl rfl ?_
     refine Rg.pickf rfl rfl rfl ?_
     refine Rg.gyes rfl rfl ?_
     refine Rg.move rfl rfl ?_
     refine Rg.gno rfl rfl rfl rfl ?_
     refine Rg.gno rfl rfl rfl rfl ?_
     refine Rg.gyes rfl rfl ?_
     refine Rg.pickf rfl rfl rfl ?_
     refine Rg.pickf rfl rfl rfl ?_
     refine Rg.assign rfl rfl ?_
     refine Rg.nil ?_
     refine T.ret ?_
     exact Kret1 rfl rfl ⟨by simp only [letB]; first | rfl | (congr 1; first | (exact (decide_eq_true (by omega)).symm) | (exact (decide_eq_false (by omega)).symm) | (exact decide_eq_decide.2 (by omega))), rfl⟩
   ·refine Rg.gno rfl rfl rfl rfl ?_
    refine Rg.gno rfl rfl rfl rfl ?_
    refine Rg.gyes rfl rfl ?_
    refine Rg.pickf rfl rfl rfl ?_
    refine Rg.gyes rfl rfl ?_
    refine Rg.move rfl rfl ?_
    refine Rg.gno rfl rfl rfl rfl ?_
    refine Rg.gno rfl rfl rfl rfl ?_
    refine Rg.gyes rfl rfl ?_
    refine Rg.pickf rfl rfl rfl ?_
    refine Rg.gyes rfl rfl ?_
    refine Rg.move rfl rfl ?_
    refine Rg.gno rfl rfl rfl rfl ?_
    refine Rg.gno rfl rfl rfl rfl ?_
    refine Rg.gyes rfl rfl ?_
    refine Rg.pickf rfl rfl rfl ?_
    refine Rg.pickf rfl rfl rfl ?_
    refine Rg.assign rfl rfl ?_
    refine Rg.nil ?_
    refine T.ret ?_
    exact Kret1 rfl rfl ⟨by simp only [letB]; first | rfl | (congr 1; first | (exact (decide_eq_true (by omega)).symm) | (exact (decide_eq_false (by omega)).symm) | (exact decide_eq_decide.2 (by omega))), rfl⟩
theorem digit_spec (c : Int) (w0 : World) :
  Spec Tryz.prog 222 #[.int .i64 c] w0 (fun v w => v = .bool (digB c) ∧ w = w0) := by
 refine spec_of (args := [_]) (fn := Tryz.f222) Tryz.func222 rfl (n := 9) Tryz.ntmps222 ?_
 refine T.seq ?_
 refine T.region ?_
 refine Rg.assign rfl rfl ?_
 refine Rg.nil ?_
 refine T.seq ?_
 refine T.region ?_
 refine Rg.move rfl rfl ?_
 refine Rg.ige rfl rfl rfl ?_
 refine Rg.move rfl rfl ?_
 refine Rg.gsplitp (g := 5) rfl (fun g1_2 => ?_) (fun g1_2 => ?_)
 ·refine Rg.gyes rfl rfl ?_
  refine Rg.move rfl rfl ?_
  refine Rg.gyes rfl rfl ?_
  refine Rg.ile rfl rfl rfl ?_
  refine Rg.pickt rfl rfl rfl ?_
  refine Rg.assign rfl rfl ?_
  refine Rg.nil ?_
  refine T.ret ?_
  exact Kret1 rfl rfl ⟨by simp only [digB]; first | rfl | (congr 1; first | (exact (decide_eq_true (by omega)).symm) | (exact (decide_eq_false (by omega)).symm) | (exact decide_eq_decide.2 (by omega))), rfl⟩
 ·refine Rg.gno rfl rfl rfl rfl ?_
  refine Rg.gno rfl rfl rfl rfl ?_
  refine Rg.pickf rfl rfl rfl ?_
  refine Rg.assign rfl rfl ?_
  refine Rg.nil ?_
  refine T.ret ?_
  exact Kret1 rfl rfl ⟨by simp only [digB]; first | rfl | (congr 1; first | (exact (decide_eq_true (by omega)).symm) | (exact (decide_eq_false (by omega)).symm) | (exact decide_eq_decide.2 (by omega))), rfl⟩
theorem fold_spec (c : Int) (w0 : World) (hc : 0 ≤ c ∧ c ≤ 1114111) :
  Spec Tryz.prog 223 #[.int .i64 c] w0 (fun v w => v = .int .i64 (foldZ c) ∧ w = w0) := by
 refine spec_of (args := [_]) (fn := Tryz.f223) Tryz.func223 rfl (n := 24) Tryz.ntmps223 ?_
 refine T.seq ?_
 refine T.region ?_
 refine Rg.assign rfl rfl ?_
 refine Rg.nil ?_
 refine T.seq ?_
 refine T.seq ?_
 refine T.region ?_
 refine Rg.move rfl rfl ?_
 refine Rg.ige rfl rfl rfl ?_
 refine Rg.move rfl rfl ?_
 refine Rg.gsplitp (g := 5) rfl (fun g1_2 => ?_) (fun g1_2 => ?_)
 ·refine Rg.gyes rfl rfl ?_
  refine Rg.move rfl rfl ?_
  refine Rg.gyes rfl rfl ?_
  refine Rg.ile rfl rfl rfl ?_
  refine Rg.pickt rfl rfl rfl ?_
  refine Rg.move rfl rfl ?_
  refine Rg.gsplitp (g := 9) rfl (fun g1_6 => ?_) (fun g1_6 => ?_)
  ·refine Rg.gno rfl rfl rfl rfl ?_
   refine Rg.gno rfl rfl rfl rfl ?_
   refine Rg.gno rfl rfl rfl rfl ?_
   refine Rg.gnox rfl rfl rfl ?_
   refine Rg.gnox rfl rfl rfl ?_
   refine Rg.gno rfl rfl rfl rfl ?_
   refine Rg.gno rfl rfl rfl rfl ?_
   refine Rg.gnox rfl rfl rfl ?_
   refine Rg.gnox rfl rfl rfl ?_
   refine Rg.gno rfl rfl rfl rfl ?_
   refine Rg.pickt rfl rfl rfl ?_
   refine Rg.nil ?_
   refine T.ift rfl ?_
   refine T.seq ?_
   refine T.region ?_
   refine Rg.move rfl rfl ?_
   refine Rg.iadd rfl rfl rfl (by omega) ?_
   refine Rg.assign rfl rfl ?_
   refine Rg.nil ?_
   refine T.ret ?_
   exact Kret1 rfl rfl ⟨by rw [foldZ, if_pos (by omega)], rfl⟩
  ·refine Rg.gyes rfl rfl ?_
   refine Rg.move rfl rfl ?_
   refine Rg.gyes rfl rfl ?_
   refine Rg.ige rfl rfl rfl ?_
   refine Rg.gyes rfl rfl ?_
   refine Rg.move rfl rfl ?_
   refine Rg.gsplitp (g := 12) rfl (fun g1_9 => ?_) (fun g1_9 => ?_)
   ·refine Rg.gyes rfl rfl ?_
    refine Rg.move rfl rfl ?_
    refine Rg.gyes rfl rfl ?_
    refine Rg.ile rfl rfl rfl ?_
    refine Rg.gyes rfl rfl ?_
    refine Rg.pickt rfl rfl rfl ?_
    refine Rg.gyes rfl rfl ?_
    refine Rg.move rfl rfl ?_
    refine Rg.gsplitp (g := 16) rfl (fun g1_13 => ?_) (fun g1_13 => ?_)
    ·refine Rg.gyes rfl rfl ?_
     refine Rg.move rfl rfl ?_
     refine Rg.gyes rfl rfl ?_
     refine Rg.ine rfl rfl rfl ?_
     refine Rg.gyes rfl rfl ?_
     refine Rg.pickt rfl rfl rfl ?_
     refine Rg.pickf rfl rfl rfl ?_
     refine Rg.nil ?_
     refine T.ifp rfl (fun c1 => ?_) (fun c1 => ?_)
     ·refine T.seq ?_
      refine T.region ?_
      refine Rg.move rfl rfl ?_
      refine Rg.iadd rfl rfl rfl (by omega) ?_
      refine Rg.assign rfl rfl ?_
      refine Rg.nil ?_
      refine T.ret ?_
      exact Kret1 rfl rfl ⟨by rw [foldZ, if_pos (by omega)], rfl⟩
     ·refine T.skip ?_
      refine T.seq ?_
      refine T.region ?_
      refine Rg.move rfl rfl ?_
      refine Rg.assign rfl rfl ?_
      refine Rg.nil ?_
      refine T.ret ?_
      exact Kret1 rfl rfl ⟨by rw [foldZ, if_neg (by omega)], rfl⟩
    ·refine Rg.gno rfl rfl rfl rfl ?_
     refine Rg.gno rfl rfl rfl rfl ?_
     refine Rg.gyes rfl rfl ?_
     refine Rg.pickf rfl rfl rfl ?_
     refine Rg.pickf rfl rfl rfl ?_
     refine Rg.nil ?_
     refine T.iff rfl ?_
     refine T.skip ?_
     refine T.seq ?_
     refine T.region ?_
     refine Rg.move rfl rfl ?_
     refine Rg.assign rfl rfl ?_
     refine Rg.nil ?_
     refine T.ret ?_
     exact Kret1 rfl rfl ⟨by rw [foldZ, if_neg (by omega)], rfl⟩
   ·refine Rg.gno rfl rfl rfl rfl ?_
    refine Rg.gno rfl rfl rfl rfl ?_
    refine Rg.gyes rfl rfl ?_
    refine Rg.pickf rfl rfl rfl ?_
    refine Rg.gyes rfl rfl ?_
    refine Rg.move rfl rfl ?_
    refine Rg.gno rfl rfl rfl rfl ?_
    refine Rg.gno rfl rfl rfl rfl ?_
    refine Rg.gyes rfl rfl ?_
    refine Rg.pickf rfl rfl rfl ?_
    refine Rg.pickf rfl rfl rfl ?_
    refine Rg.nil ?_
    refine T.iff rfl ?_
    refine T.skip ?_
    refine T.seq ?_
    refine T.region ?_
    refine Rg.move rfl rfl ?_
    refine Rg.assign rfl rfl ?_
    refine Rg.nil ?_
    refine T.ret ?_
    exact Kret1 rfl rfl ⟨by rw [foldZ, if_neg (by omega)], rfl⟩
 ·refine Rg.gno rfl rfl rfl rfl ?_
  refine Rg.gno rfl rfl rfl rfl ?_
  refine Rg.pickf rfl rfl rfl ?_
  refine Rg.move rfl rfl ?_
  refine Rg.gyes rfl rfl ?_
  refine Rg.move rfl rfl ?_
  refine Rg.gyes rfl rfl ?_
  refine Rg.ige rfl rfl rfl ?_
  refine Rg.gyes rfl rfl ?_
  refine Rg.move rfl rfl ?_
  refine Rg.gsplitp (g := 12) rfl (fun g1_9 => ?_) (fun g1_9 => ?_)
  ·refine Rg.gyes rfl rfl ?_
   refine Rg.move rfl rfl ?_
   refine Rg.gyes rfl rfl ?_
   refine Rg.ile rfl rfl rfl ?_
   refine Rg.gyes rfl rfl ?_
   refine Rg.pickt rfl rfl rfl ?_
   refine Rg.gyes rfl rfl ?_
   refine Rg.move rfl rfl ?_
   refine Rg.gsplitp (g := 16) rfl (fun g1_13 => ?_) (fun g1_13 => ?_)
   ·refine Rg.gyes rfl rfl ?_
    refine Rg.move rfl rfl ?_
    refine Rg.gyes rfl rfl ?_
    refine Rg.ine rfl rfl rfl ?_
    refine Rg.gyes rfl rfl ?_
    refine Rg.pickt rfl rfl rfl ?_
    refine Rg.pickf rfl rfl rfl ?_
    refine Rg.nil ?_
    refine T.ifp rfl (fun c1 => ?_) (fun c1 => ?_)
    ·refine T.seq ?_
     refine T.region ?_
     refine Rg.move rfl rfl ?_
     refine Rg.iadd rfl rfl rfl (by omega) ?_
     refine Rg.assign rfl rfl ?_
     refine Rg.nil ?_
     refine T.ret ?_
     exact Kret1 rfl rfl ⟨by rw [foldZ, if_pos (by omega)], rfl⟩
    ·refine T.skip ?_
     refine T.seq ?_
     refine T.region ?_
     refine Rg.move rfl rfl ?_
     refine Rg.assign rfl rfl ?_
     refine Rg.nil ?_
     refine T.ret ?_
     exact Kret1 rfl rfl ⟨by rw [foldZ, if_neg (by omega)], rfl⟩
   ·refine Rg.gno rfl rfl rfl rfl ?_
    refine Rg.gno rfl rfl rfl rfl ?_
    refine Rg.gyes rfl rfl ?_
    refine Rg.pickf rfl rfl rfl ?_
    refine Rg.pickf rfl rfl rfl ?_
    refine Rg.nil ?_
    refine T.iff rfl ?_
    refine T.skip ?_
    refine T.seq ?_
    refine T.region ?_
    refine Rg.move rfl rfl ?_
    refine Rg.assign rfl rfl ?_
    refine Rg.nil ?_
    refine T.ret ?_
    exact Kret1 rfl rfl ⟨by rw [foldZ, if_neg (by omega)], rfl⟩
  ·refine Rg.gno rfl rfl rfl rfl ?_
   refine Rg.gno rfl rfl rfl rfl ?_
   refine Rg.gyes rfl rfl ?_
   refine Rg.pickf rfl rfl rfl ?_
   refine Rg.gyes rfl rfl ?_
   refine Rg.move rfl rfl ?_
   refine Rg.gno rfl rfl rfl rfl ?_
   refine Rg.gno rfl rfl rfl rfl ?_
   refine Rg.gyes rfl rfl ?_
   refine Rg.pickf rfl rfl rfl ?_
   refine Rg.pickf rfl rfl rfl ?_
   refine Rg.nil ?_
   refine T.iff rfl ?_
   refine T.skip ?_
   refine T.seq ?_
   refine T.region ?_
   refine Rg.move rfl rfl ?_
   refine Rg.assign rfl rfl ?_
   refine Rg.nil ?_
   refine T.ret ?_
   exact Kret1 rfl rfl ⟨by rw [foldZ, if_neg (by omega)], rfl⟩
end Go.K
namespace Go.Proofs
open Go.Shelf
def Tryz.lays169_ren : Go.Shelf.Ren := ⟨fun | 169 => 256 | n => n, fun | 70 => 307 | 9 => 9 | 0 => 0 | 72 => 309 | 37 => 147 | 127 => 331 | 3 => 3 | 5 => 5 | n => n, fun | n => n⟩
theorem Tryz.lays169 : Go.Proofs.Lays.n169 Tryz.prog Tryz.lays169_ren := {
 mixed := by kernel_rfl
 f169 := Tryz.func256.trans (congrArg some (by kernel_rfl))
 t0 := Tryz.underlying0
 a0 := Tryz.isAgg0
 z0 := Tryz.sizeOf0
 v0 := Tryz.zeroValue0
 t3 := Tryz.underlying3
 a3 := Tryz.isAgg3
 z3 := Tryz.sizeOf3
 v3 := Tryz.zeroValue3
 t9 := Tryz.underlying9
 a9 := Tryz.isAgg9
 z9 := Tryz.sizeOf9
 v9 := Tryz.zeroValue9
 t37 := Tryz.underlying147
 a37 := Tryz.isAgg147
 z37 := Tryz.sizeOf147
 v37 := Tryz.zeroValue147
 t70 := Tryz.underlying307
 a70 := Tryz.isAgg307
 z70 := Tryz.sizeOf307
 v70 := Tryz.zeroValue307
 t72 := Tryz.underlying309
 a72 := Tryz.isAgg309
 z72 := Tryz.sizeOf309
 v72 := Tryz.zeroValue309
 t127 := Tryz.underlying331
 a127 := Tryz.isAgg331
 z127 := Tryz.sizeOf331
 v127 := Tryz.zeroValue331 }
def Tryz.lays119_ren : Go.Shelf.Ren := ⟨fun | 119 => 277 | n => n, fun | 21 => 21 | 4 => 4 | n => n, fun | n => n⟩
theorem Tryz.lays119 : Go.Proofs.Lays.n119 Tryz.prog Tryz.lays119_ren := {
 mixed := by kernel_rfl
 f119 := Tryz.func277.trans (congrArg some (by kernel_rfl))
 t4 := Tryz.underlying4
 a4 := Tryz.isAgg4
 z4 := Tryz.sizeOf4
 v4 := Tryz.zeroValue4
 t21 := Tryz.underlying21
 a21 := Tryz.isAgg21
 z21 := Tryz.sizeOf21
 v21 := Tryz.zeroValue21 }
def Tryz.lays106_ren : Go.Shelf.Ren := ⟨fun | 106 => 159 | 213 => 198 | 265 => 235 | n => n, fun | 9 => 9 | 3 => 3 | n => n, fun | n => n⟩
theorem Tryz.lays106 : Go.Proofs.Lays.n106 Tryz.prog Tryz.lays106_ren := {
 mixed := by kernel_rfl
 f106 := Tryz.func159.trans (congrArg some (by kernel_rfl))
 f213 := Tryz.func198.trans (congrArg some (by kernel_rfl))
 f265 := Tryz.func235.trans (congrArg some (by kernel_rfl))
 t3 := Tryz.underlying3
 a3 := Tryz.isAgg3
 z3 := Tryz.sizeOf3
 v3 := Tryz.zeroValue3
 t9 := Tryz.underlying9
 a9 := Tryz.isAgg9
 z9 := Tryz.sizeOf9
 v9 := Tryz.zeroValue9 }
theorem Tryz.Builder_Extra_169 : Builder.Extra Tryz.prog Tryz.lays169_ren := {
 sizeBuilder := by kernel_rfl
 liesBuilder := by kernel_rfl
 t5 := Tryz.underlying5
 a5 := Tryz.isAgg5
 z5 := Tryz.sizeOf5
 v5 := Tryz.zeroValue5
 infoByte := by kernel_rfl
 cellsByte := by kernel_rfl
 sizeByte := by kernel_rfl
 neB5 := by decide }
def Tryz.lays168_ren : Go.Shelf.Ren := ⟨fun | 168 => 254 | 240 => 275 | 242 => 276 | 276 => 285 | 278 => 286 | n => n, fun | 0 => 0 | 3 => 3 | 4 => 4 | 5 => 5 | 9 => 9 | 20 => 20 | 21 => 21 | 37 => 147 | 46 => 183 | 51 => 273 | 70 => 307 | 72 => 309 | 75 => 311 | 80 => 315 | 164 => 336 | n => n, fun | n => n⟩
theorem Tryz.lays168 : Go.Proofs.Lays.n168 Tryz.prog Tryz.lays168_ren := {
 mixed := by kernel_rfl
 f168 := Tryz.func254.trans (congrArg some (by kernel_rfl))
 f240 := Tryz.func275.trans (congrArg some (by kernel_rfl))
 f242 := Tryz.func276.trans (congrArg some (by kernel_rfl))
 f276 := Tryz.func285.trans (congrArg some (by kernel_rfl))
 f278 := Tryz.func286.trans (congrArg some (by kernel_rfl))
 t0 := Tryz.underlying0
 a0 := Tryz.isAgg0
 z0 := Tryz.sizeOf0
 v0 := Tryz.zeroValue0
 t3 := Tryz.underlying3
 a3 := Tryz.isAgg3
 z3 := Tryz.sizeOf3
 v3 := Tryz.zeroValue3
 t4 := Tryz.underlying4
 a4 := Tryz.isAgg4
 z4 := Tryz.sizeOf4
 v4 := Tryz.zeroValue4
 t5 := Tryz.underlying5
 a5 := Tryz.isAgg5
 z5 := Tryz.sizeOf5
 v5 := Tryz.zeroValue5
 t9 := Tryz.underlying9
 a9 := Tryz.isAgg9
 z9 := Tryz.sizeOf9
 v9 := Tryz.zeroValue9
 t20 := Tryz.underlying20
 a20 := Tryz.isAgg20
 z20 := Tryz.sizeOf20
 v20 := Tryz.zeroValue20
 t21 := Tryz.underlying21
 a21 := Tryz.isAgg21
 z21 := Tryz.sizeOf21
 v21 := Tryz.zeroValue21
 t37 := Tryz.underlying147
 a37 := Tryz.isAgg147
 z37 := Tryz.sizeOf147
 v37 := Tryz.zeroValue147
 t46 := Tryz.underlying183
 a46 := Tryz.isAgg183
 z46 := Tryz.sizeOf183
 v46 := Tryz.zeroValue183
 t51 := Tryz.underlying273
 a51 := Tryz.isAgg273
 z51 := Tryz.sizeOf273
 v51 := Tryz.zeroValue273
 t70 := Tryz.underlying307
 a70 := Tryz.isAgg307
 z70 := Tryz.sizeOf307
 v70 := Tryz.zeroValue307
 t72 := Tryz.underlying309
 a72 := Tryz.isAgg309
 z72 := Tryz.sizeOf309
 v72 := Tryz.zeroValue309
 t75 := Tryz.underlying311
 a75 := Tryz.isAgg311
 z75 := Tryz.sizeOf311
 v75 := Tryz.zeroValue311
 t164 := Tryz.underlying336
 a164 := Tryz.isAgg336
 z164 := Tryz.sizeOf336
 v164 := Tryz.zeroValue336 }
theorem Tryz.Builder_Extra_168 : Builder.Extra Tryz.prog Tryz.lays168_ren where
 sizeBuilder := by kernel_rfl
 liesBuilder := by kernel_rfl
 t5 := Tryz.underlying5
 a5 := Tryz.isAgg5
 z5 := Tryz.sizeOf5
 v5 := Tryz.zeroValue5
 infoByte := by kernel_rfl
 cellsByte := by kernel_rfl
 sizeByte := by kernel_rfl
 neB5 := by decide
end Go.Proofs
namespace Go.K
open Go.Proofs
set_option linter.unusedVariables false
set_option linter.unusedSimpArgs false
set_option maxRecDepth 10000
open Go.RowKit Go.Shelf
theorem valid_spec (r : Int) (w : World) : Spec Tryz.prog 277 #[.int .i32 r] w (fun v w' => v = .bool (Lib.validRune r) ∧ w' = w) := (Any.utf8_ValidRune Tryz.lays119 r w).mono fun e w' ⟨h1, h2⟩ => ⟨_, h1, rfl, h2⟩
theorem rune_spec {B b : Nat} {bs : List Value} {r : Int} (w : World) (hr : -2147483648 ≤ r ∧ r ≤ 2147483647) (h : Lib.IsBuilderF 309 5 B b bs w) (hl : bs.length + 4 ≤ 140737488355328) (hB : B ≤ w.heap.size) :
  Spec Tryz.prog 254 #[.pointer (some ⟨b, 0, none⟩), .int .i32 r] w (fun v w' => Lib.IsBuilderF 309 5 B b (bs ++ Lib.runeCells r) w' ∧ Below B w w') :=
 (Any.Builder_WriteRune_k Tryz.lays168 Tryz.Builder_Extra_168 B b bs r hr.1 hr.2 w h hl hB).mono fun e w' ⟨h1, h2, h3, _⟩ => ⟨_, h1, .inr h2, h3⟩
theorem str_spec {B b : Nat} {l : List UInt8} (w : World) (h : Lib.IsBuilderF 309 5 B b (Lib.byteCells l) w) (hB : B ≤ w.heap.size) :
  Spec Tryz.prog 256 #[.pointer (some ⟨b, 0, none⟩)] w (fun v w' => v = .string ⟨l.toArray⟩ ∧ Below B w w') :=
 (Any.Builder_String_any_k Tryz.lays169 Tryz.Builder_Extra_169 B b l w h hB).mono fun e w' ⟨h1, _, h3, _⟩ => ⟨_, h1, rfl, h3⟩
theorem wrap32 {c : Int} (h : 0 ≤ c ∧ c ≤ 1114111) : IntKind.i32.wrap c = c := by
 show (if (true && decide (c % 4294967296 ≥ 2147483648)) = true then c % 4294967296 - 4294967296 else c % 4294967296) = c
 rw [if_neg (by simp only [Bool.true_and, decide_eq_true_eq]; omega)]
 omega
def sgn (c : Int) : Int := if c < 0 ∨ c > 1114111 ∨ Lib.validRune c = false then 65533 else c
theorem sgn_rng (c : Int) : 0 ≤ sgn c ∧ sgn c ≤ 1114111 := by unfold sgn; split <;> omega
def textB (l : List Int) : List UInt8 := l.flatMap fun c => Lib.encodeRune (sgn c)
theorem textB_snoc (l : List Int) (c : Int) : textB (l ++ [c]) = textB l ++ Lib.encodeRune (sgn c) := by simp [textB]
theorem enc_len (r : Int) : (Lib.encodeRune r).length ≤ 4 := by have := (Lib.encodeRuneZ_length r).2; simpa [Lib.encodeRune] using this
theorem textB_len (l : List Int) : (textB l).length ≤ 4 * l.length := by
 induction l with
 |nil => simp [textB]
 |cons c l ih =>
  have := enc_len (sgn c)
  simp only [textB, List.flatMap_cons, List.length_append, List.length_cons] at ih ⊢
  omega
theorem byteCells_snoc (l : List Int) (c : Int) : Lib.byteCells (textB l) ++ Lib.runeCells (sgn c) = Lib.byteCells (textB (l ++ [c])) := by
 rw [textB_snoc, ← Lib.byteCells_encodeRune]; simp [Lib.byteCells]
theorem sgn_spec (c : Int) (w0 : World) :
  Spec Tryz.prog 255 #[.int .i64 c] w0 (fun v w => v = .int .i32 (sgn c) ∧ w = w0) := by
 refine spec_of (args := [_]) (fn := Tryz.f255) Tryz.func255 rfl (n := 17) Tryz.ntmps255 ?_
 refine T.seq ?_
 refine T.region ?_
 refine Rg.assign rfl rfl ?_
 refine Rg.nil ?_
 refine T.seq ?_
 refine T.seq ?_
 refine T.region ?_
 refine Rg.move rfl rfl ?_
 refine Rg.ilt rfl rfl rfl ?_
 refine Rg.move rfl rfl ?_
 refine Rg.gsplitp (g := 5) rfl (fun g1_2 => ?_) (fun g1_2 => ?_)
 ·refine Rg.gno rfl rfl rfl rfl ?_
  refine Rg.gno rfl rfl rfl rfl ?_
  refine Rg.pickt rfl rfl rfl ?_
  refine Rg.move rfl rfl ?_
  refine Rg.gno rfl rfl rfl rfl ?_
  refine Rg.gno rfl rfl rfl rfl ?_
  refine Rg.gno rfl rfl rfl rfl ?_
  refine Rg.gno rfl rfl rfl rfl ?_
  refine Rg.pickt rfl rfl rfl ?_
  refine Rg.nil ?_
  refine T.ift rfl ?_
  refine T.seq ?_
  refine T.region ?_
  refine Rg.assign rfl rfl ?_
  refine Rg.nil ?_
  refine T.ret ?_
  exact Kret1 rfl rfl ⟨by rw [sgn, if_pos (by first | exact .inl (by omega) | exact .inr (.inl (by omega)) | exact .inr (.inr (by assumption)))], rfl⟩
 ·refine Rg.gyes rfl rfl ?_
  refine Rg.move rfl rfl ?_
  refine Rg.gyes rfl rfl ?_
  refine Rg.igt rfl rfl rfl ?_
  refine Rg.pickf rfl rfl rfl ?_
  refine Rg.move rfl rfl ?_
  refine Rg.gsplitp (g := 9) rfl (fun g1_6 => ?_) (fun g1_6 => ?_)
  ·refine Rg.gno rfl rfl rfl rfl ?_
   refine Rg.gno rfl rfl rfl rfl ?_
   refine Rg.gno rfl rfl rfl rfl ?_
   refine Rg.gno rfl rfl rfl rfl ?_
   refine Rg.pickt rfl rfl rfl ?_
   refine Rg.nil ?_
   refine T.ift rfl ?_
   refine T.seq ?_
   refine T.region ?_
   refine Rg.assign rfl rfl ?_
   refine Rg.nil ?_
   refine T.ret ?_
   exact Kret1 rfl rfl ⟨by rw [sgn, if_pos (by first | exact .inl (by omega) | exact .inr (.inl (by omega)) | exact .inr (.inr (by assumption)))], rfl⟩
  ·refine Rg.gyes rfl rfl ?_
   refine Rg.move rfl rfl ?_
   refine Rg.gyes rfl rfl ?_
   refine Rg.conv Tryz.underlying3 Tryz.underlying21 rfl rfl ?_
   refine Rg.eqv (v' := .int .i32 c) (congrArg (Value.int .i32) (wrap32 (by omega))) ?_
   refine Rg.gyes rfl rfl ?_
   refine Rg.call rfl rfl E277 (valid_spec _ _) (fun r wc hc => ?_)
   obtain ⟨rfl, rfl⟩ := hc
   refine Rg.gyes rfl rfl ?_
   refine Rg.not rfl rfl ?_
   refine Rg.eqv (v' := .bool (decide (Lib.validRune c = false))) (by cases Lib.validRune c <;> rfl) ?_
   refine Rg.pickf rfl rfl rfl ?_
   refine Rg.nil ?_
   refine T.ifp rfl (fun c1 => ?_) (fun c1 => ?_)
   ·refine T.seq ?_
    refine T.region ?_
    refine Rg.assign rfl rfl ?_
    refine Rg.nil ?_
    refine T.ret ?_
    exact Kret1 rfl rfl ⟨by rw [sgn, if_pos (by first | exact .inl (by omega) | exact .inr (.inl (by omega)) | exact .inr (.inr (by assumption)))], rfl⟩
   ·refine T.skip ?_
    refine T.seq ?_
    refine T.region ?_
    refine Rg.move rfl rfl ?_
    refine Rg.conv Tryz.underlying3 Tryz.underlying21 rfl rfl ?_
    refine Rg.eqv (v' := .int .i32 c) (congrArg (Value.int .i32) (wrap32 (by omega))) ?_
    refine Rg.assign rfl rfl ?_
    refine Rg.nil ?_
    refine T.ret ?_
    exact Kret1 rfl rfl ⟨by rw [sgn, if_neg (by rintro (h | h | h) <;> first | omega | exact absurd h (by assumption))], rfl⟩
theorem text_spec {M : PSet} {xs : List Int} {v0 : Value} (w0 : World) (hM : Lt M w0) (hv : ((RT.int .i64).sl).V M w0 xs v0) (hl : xs.length ≤ 1000000) :
  Spec Tryz.prog 224 #[v0] w0 (fun v w => v = .string ⟨(textB xs).toArray⟩ ∧ Step M w0 M w none') := by
 refine spec_of (args := [_]) (fn := Tryz.f224) Tryz.func224 rfl (n := 17) Tryz.ntmps224 ?_
 refine T.seq ?_
 refine T.region ?_
 refine Rg.assign rfl rfl ?_
 refine Rg.nil ?_
 refine T.seq ?_
 refine T.region ?_
 refine Rg.alloc M I309 rfl (fun b w1 p1 q1 g1 s1 => ?_)
 have hb1 : Lib.IsBuilderF 309 5 w0.heap.size b (Lib.byteCells (textB (xs.take 0))) w1 := .of (.inl ⟨p1, .slice none 0 0, g1, World.ownsRow_nil _ _ _ _, by simp [Value.ownBlock]⟩)
 have S1 : Below w0.heap.size w0 w1 := s1.below
 refine Rg.nil ?_
 refine T.seq ?_
 refine T.seq ?_
 refine T.region ?_
 refine Rg.move rfl rfl ?_
 refine Rg.lensl Tryz.underlying32 rfl hv rfl ?_
 refine Rg.move rfl rfl ?_
 refine Rg.nil ?_
 refine T.block ?_
 refine T.loop (σ := Nat) (fun k => [(3, .pointer (some ⟨b, 0, none⟩)), (6, v0), (7, .int .i64 (xs.length : Int)), (8, .int .i64 (k : Int))]) (fun k w => Lib.IsBuilderF 309 5 w0.heap.size b (Lib.byteCells (textB (xs.take k))) w ∧ Below w0.heap.size w0 w ∧ k ≤ xs.length) (fun k => xs.length - k) 0 (.cons rfl (.cons rfl (.cons rfl (.cons rfl .nil)))) ?_ ?_
 ·exact ⟨hb1, S1, Nat.zero_le _⟩
 ·rintro k w ⟨hb, S, hk⟩
  refine T.seq ?_
  refine T.region ?_
  refine Rg.ilt rfl rfl rfl ?_
  refine Rg.nil ?_
  refine T.seq ?_
  refine T.ifp rfl (fun c3 => ?_) (fun c3 => ?_)
  ·refine T.skip ?_
   refine T.seq ?_
   refine T.block ?_
   refine T.seq ?_
   refine T.region ?_
   refine Rg.idx (M := M) Tryz.underlying32 I3 rfl rfl rfl hv (Step.below' S M).le (by omega) (fun u4 c hg4 hu4 => ?_) --@ptr RT.int .i64 ;; c
   refine Rg.loadi64 (M := M) Tryz.underlying3 rfl rfl hu4 (Le.refl _ _) (fun in4 => ?_)
   refine Rg.assign rfl rfl ?_
   refine Rg.nil ?_
   refine T.region ?_
   refine Rg.move rfl rfl ?_
   refine Rg.call rfl rfl E255 (sgn_spec c _) (fun r wc hc => ?_)
   obtain ⟨rfl, rfl⟩ := hc
   refine Rg.call rfl rfl E254 (rune_spec _ (by have := sgn_rng c; omega) hb (by rw [Lib.byteCells_length]; have := textB_len (xs.take k); rw [List.length_take] at this; omega) S.size) (fun r5 w5 hc => ?_)
   obtain ⟨hb5, S5⟩ := hc
   have tk : xs.take (k + 1) = xs.take k ++ [c] := by rw [List.take_add_one]; simp only [Int.toNat_natCast] at hg4; rw [hg4]; rfl
   rw [byteCells_snoc, ← tk] at hb5
   have S6 := S.trans S5
   refine Rg.nil ?_
   refine T.region ?_
   refine Rg.iadd rfl rfl rfl (by omega) ?_
   refine Rg.move rfl rfl ?_
   refine Rg.nil ?_
   refine ⟨rfl, k + 1, (.cons rfl (.cons rfl (.cons rfl (.cons rfl .nil)))), ?_, ?_⟩
   ·exact ⟨hb5, S6, by omega⟩
   ·omega
  ·refine T.exit ?_
   refine T.seq ?_
   refine T.region ?_
   refine Rg.call rfl rfl E256 (str_spec _ hb S.size) (fun r7 w7 hc => ?_)
   obtain ⟨rfl, S7⟩ := hc
   refine Rg.assign rfl rfl ?_
   refine Rg.nil ?_
   refine T.ret ?_
   have e : xs.take k = xs := List.take_of_length_le (by omega)
   rw [e]
   exact Kret1 rfl rfl ⟨rfl, Step.below' (S.trans S7) M⟩
end Go.K
namespace Go.K
open Go.Proofs
set_option linter.unusedVariables false
set_option linter.unusedSimpArgs false
set_option maxRecDepth 10000
theorem signs_spec {M : PSet} {l : List UInt8} (w0 : World) (hM : Lt M w0) (hl : l.length ≤ 1000000) :
  Spec Tryz.prog 225 #[.string ⟨l.toArray⟩] w0 (fun v w => ((RT.int .i64).sl).V M w (signs l) v ∧ Step M w0 M w none') := by
 have hM0 := hM
 refine spec_of (args := [_]) (fn := Tryz.f225) Tryz.func225 rfl (n := 17) Tryz.ntmps225 ?_
 have S : Step M w0 M w0 none' := (Step.refl _ _).widen (fun _ h => h.elim) (fun _ h => h.elim)
 refine T.seq ?_
 refine T.region ?_
 refine Rg.assign rfl rfl ?_
 refine Rg.nil ?_
 refine T.seq ?_
 refine T.region ?_
 refine Rg.assign rfl rfl ?_
 refine Rg.nil ?_
 refine T.seq ?_
 refine T.seq ?_
 refine T.region ?_
 refine Rg.move rfl rfl ?_
 refine Rg.rangeStr M Tryz.underlying9 rfl rfl (fun b2_1 w2_1 p2_1 q2_1 g2_1 s2_1 => ?_)
 obtain ⟨M_2_1, eM_2_1⟩ : ∃ M', M' = ins M b2_1 := ⟨_, rfl⟩
 rw [← eM_2_1] at s2_1
 have m_g2_1 : M_2_1 b2_1 := by rw [eM_2_1]; exact .inl rfl
 replace hM := s2_1.lt hM
 have := S.size
 replace S := S.trans0 s2_1
 refine Rg.nil ?_
 refine T.block ?_
 refine T.loop (σ := Nat × List Int × Value) (fun q => [(3, q.2.2), (7, .pointer (some ⟨b2_1, 0, none⟩))]) (fun q w => ∃ M', Lt M' w ∧ Step M w0 M' w none' ∧ w.heap[b2_1]? = some (.stringIter ⟨l.toArray⟩ q.1) ∧ M' b2_1 ∧ Own (RT.int .i64) 3 M' w w0.heap.size q.2.2 q.2.1 ∧ signs l = q.2.1 ++ signs (l.drop q.1) ∧ q.1 ≤ l.length) (fun q => l.length - q.1) (0, [], .slice none 0 0) (.cons rfl (.cons rfl .nil)) ?_ ?_
 ·exact ⟨M_2_1, hM, S, g2_1, m_g2_1, Own.nil _ _ _ _ _, by simp, by simp⟩
 ·rintro ⟨p, xs, u⟩ w ⟨M1, hM, S, g, m_g, ho, hsg, hp⟩
  dsimp only at g ho hsg hp ⊢
  refine T.seq ?_
  refine T.region ?_
  refine Rg.nextStr (M := M1) rfl g m_g rfl (fun n3_0 w3_0 g3_0 s3_0 => ?_) (fun n3_0 => ?_)
  ·have := lt_of_get g
   replace m_g := (s3_0.mem _ this).2 m_g
   replace ho := ho.step s3_0 (fun b hb hk => ho.notIter g (hk ▸ hb))
   replace hM := s3_0.lt hM
   have := S.size
   replace S := S.trans s3_0 (fun k hk h => by have h : _ = _ := h; subst h; first | (exfalso; omega) | (show _ ≤ _; omega) | exact ⟨by omega, (S.mem _ hk).1 ((s3_0.mem _ (lt_of_get g)).1 m_g)⟩ | exact .inl rfl | exact .inr rfl | exact .inr (.inl rfl) | exact .inr (.inr rfl) | exact rfl)
   have g_ := g3_0
   clear g
   have g := g_
   clear g_
   refine Rg.extract rfl rfl rfl ?_
   refine Rg.nil ?_
   refine T.seq ?_
   refine T.ift rfl ?_
   refine T.skip ?_
   refine T.block ?_
   refine T.seq ?_
   refine T.region ?_
   refine Rg.extract rfl rfl rfl ?_
   refine Rg.assign rfl rfl ?_
   refine Rg.nil ?_
   refine T.region ?_
   refine Rg.move rfl rfl ?_
   refine Rg.move rfl rfl ?_
   refine Rg.conv64 Tryz.underlying21 Tryz.underlying3 rfl rfl (by have := dec_bound (l.drop p); omega) ?_
   refine Rg.sl1 (A := RT.int .i64) (hn := by decide) (M := M1) Tryz.underlying32 I3 (by decide) rfl rfl hM (V_i64 (by have := dec_bound (l.drop p); omega)) (.inr ⟨rfl, rfl⟩) (fun u5_3 w5_3 hu5_3 s5_3 => ?_)
   have := lt_of_get g
   replace m_g := (s5_3.mem _ this).2 m_g
   replace g := s5_3.same0 g
   replace ho := ho.step0 s5_3
   replace hM := s5_3.lt hM
   have := S.size
   replace S := S.trans0 s5_3
   refine Rg.append (M := M1) (base := w0.heap.size) Tryz.underlying32 I3 rfl rfl rfl rfl ho hu5_3 (Le.refl _ _) (by simp; have := signs_len l; rw [hsg] at this; simp at this; omega) (by simp; have := signs_len l; rw [hsg] at this; simp at this; omega) (S.size) (fun u5_4 M5_4 w5_4 ho5_4 s5_4 => ?_)
   have := lt_of_get g
   replace m_g := (s5_4.mem _ this).2 m_g
   replace g := s5_4.keep g (fun h => by first | exact ho.notIter g h | exact ho.neT g (by decide) h | (have := (ho.base _ h).1; omega))
   replace hu5_3 := hu5_3.le s5_4.le
   replace hM := s5_4.lt hM
   have := S.size
   replace S := S.transBlk s5_4 ho (Nat.le_refl _)
   replace ho := ho5_4
   refine Rg.assign rfl rfl ?_
   refine Rg.nil ?_
   have hne : l.drop p ≠ [] := by intro h; have := congrArg List.length h; simp at this; omega
   refine ⟨rfl, (p + (dec (l.drop p)).2, xs ++ [((dec (l.drop p)).1 : Int)], u5_4), (.cons rfl (.cons rfl .nil)), ?_, ?_⟩
   ·refine ⟨M5_4, hM, S, g, m_g, ho, ?_, ?_⟩
    ·rw [hsg, signs_step hne, List.drop_drop]; simp
    ·have := (dec_width hne).2; rw [List.length_drop] at this; dsimp only; omega
   ·have := (dec_width hne).1
    have := (dec_width hne).2
    rw [List.length_drop] at this
    dsimp only; omega
  ·refine Rg.extract rfl rfl rfl ?_
   refine Rg.nil ?_
   refine T.seq ?_
   refine T.iff rfl ?_
   refine T.exit ?_
   refine T.seq ?_
   refine T.region ?_
   refine Rg.move rfl rfl ?_
   refine Rg.assign rfl rfl ?_
   refine Rg.nil ?_
   refine T.ret ?_
   have e : signs l = xs := by rw [hsg, List.drop_of_length_le (by omega), signs_nil]; simp
   rw [e]
   have := signs_len l
   rw [e] at this
   exact Kret1 rfl rfl ⟨ho.close hM0 S (by omega), S.back⟩
def takeF (p : List Int × List (List UInt8)) (c : Int) : List Int × List (List UInt8) :=
 if letB c = true ∨ digB c = true then (p.1 ++ [foldZ c], p.2) else if 0 < p.1.length then ([], p.2 ++ [textB p.1]) else ([], p.2)
structure TakeS (M : PSet) (w : World) (B bo bs : Nat) (p : List Int × List (List UInt8)) : Prop where
 a : ∃ u, w.heap[bo]? = some (.cells #[u] 32 (0, 0)) ∧ Own (RT.int .i64) 3 M w B u p.1
 b : ∃ u, w.heap[bs]? = some (.cells #[u] 55 (0, 0)) ∧ Own RT.str 9 M w B u p.2
 m : M bo ∧ M bs ∧ B ≤ bo ∧ B ≤ bs
theorem letB_rng {c : Int} (h : letB c = true ∨ digB c = true) : 0 ≤ c ∧ c ≤ 1114111 := by
 simp only [letB, digB, decide_eq_true_eq] at h; omega
theorem wtake_spec {M : PSet} {B bo bs : Nat} {p : List Int × List (List UInt8)} (w0 : World) (hM : Lt M w0) (c : Int) (ht : TakeS M w0 B bo bs p) (hl : p.1.length ≤ 1000000 ∧ p.2.length ≤ 1000000) :
  Spec Tryz.prog 220 #[.int .i64 c, .pointer (some ⟨bo, 0, none⟩), .pointer (some ⟨bs, 0, none⟩)] w0 (fun v w => ∃ M', Lt M' w ∧ TakeS M' w B bo bs (takeF p c) ∧ Step M w0 M' w (mine M B)) := by
 obtain ⟨⟨uo, go, ho⟩, ⟨us, gs, hs⟩, m_go, m_gs, hBo, hBs⟩ := ht
 obtain ⟨own, out⟩ := p
 dsimp only at ho hs hl ⊢
 have hne : bo ≠ bs := fun e => by subst e; rw [go] at gs; cases gs
 refine spec_of (args := [_, _, _]) (fn := Tryz.f220) Tryz.func220 rfl (n := 23) Tryz.ntmps220 ?_
 have S : Step M w0 M w0 (mine M B) := (Step.refl _ _).widen (fun _ h => h.elim) (fun _ h => h.2)
 refine T.seq ?_
 refine T.seq ?_
 refine T.region ?_
 refine Rg.move rfl rfl ?_
 refine Rg.call rfl rfl E221 (letter_spec _ _) (fun r wc hc => ?_)
 obtain ⟨rfl, rfl⟩ := hc
 refine Rg.eqv (v' := .bool (decide (letB c = true))) (by cases letB c <;> rfl) ?_
 refine Rg.move rfl rfl ?_
 refine Rg.gsplitp (g := 6) rfl (fun g0_2 => ?_) (fun g0_2 => ?_)
 ·refine Rg.gno rfl rfl rfl rfl ?_
  refine Rg.gno rfl rfl rfl rfl ?_
  refine Rg.pickt rfl rfl rfl ?_
  refine Rg.nil ?_
  refine T.ift rfl ?_
  refine T.seq ?_
  apply T.drawF 2 [0] 2 none' mixed rfl rfl rfl rfl
  intro wD1 sA1
  have sD1 := sA1 M
  have := lt_of_get go
  replace m_go := (sD1.mem _ this).2 m_go
  replace go := sD1.same0 go
  have := lt_of_get gs
  replace m_gs := (sD1.mem _ this).2 m_gs
  replace gs := sD1.same0 gs
  replace ho := ho.step0 sD1
  replace hs := hs.step0 sD1
  replace hM := sD1.lt hM
  have := S.size
  replace S := S.trans0 sD1
  refine Rg.loadc Tryz.underlying32 rfl rfl rfl (by first | assumption | exact Step.same0 sD1 (by assumption)) rfl ?_
  refine Rg.nil ⟨rfl, rfl, rfl, ?_⟩
  refine Rg.move rfl rfl ?_
  refine Rg.nil ⟨rfl, rfl, rfl, ?_⟩
  refine QRg.nil ?_
  refine ⟨Floats.all ⟨FloatOk.load rfl (by assumption) (by first | assumption | exact fun h => h | (intro h; have h : _ = _ := h; omega)), trivial⟩, ?_⟩
  have kp := Keep.refl none' wD1
  have hlet : letB c = true ∨ digB c = true := by first | exact .inl (by assumption) | exact .inr (by assumption)
  refine Rg.call rfl rfl E223 (fold_spec c _ (letB_rng hlet)) (fun r wc hc => ?_)
  obtain ⟨rfl, rfl⟩ := hc
  refine (fun (kp : Keep _ _ _) => Rg.nil ⟨rfl, rfl, fun _ => kp, ?_⟩) (by first | exact kp | exact kp.go0 (by assumption) | exact kp.goN (by assumption) | exact kp.go (by assumption) (fun _ _ h => by first | exact h | exact h.elim))
  refine Rg.sl1 (A := RT.int .i64) (hn := by decide) (M := M) Tryz.underlying32 I3 (by decide) rfl rfl hM (V_i64 (by have := letB_rng hlet; unfold foldZ; split <;> omega)) (.inr ⟨rfl, rfl⟩) (fun u1_3 w1_3 hu1_3 s1_3 => ?_)
  have := lt_of_get go
  replace m_go := (s1_3.mem _ this).2 m_go
  replace go := s1_3.same0 go
  have := lt_of_get gs
  replace m_gs := (s1_3.mem _ this).2 m_gs
  replace gs := s1_3.same0 gs
  replace ho := ho.step0 s1_3
  replace hs := hs.step0 s1_3
  replace hM := s1_3.lt hM
  have := S.size
  replace S := S.trans0 s1_3
  refine (fun (kp : Keep _ _ _) => Rg.nil ⟨rfl, rfl, fun _ => kp, ?_⟩) (by first | exact kp | exact kp.go0 (by assumption) | exact kp.goN (by assumption) | exact kp.go (by assumption) (fun _ _ h => by first | exact h | exact h.elim))
  refine Rg.append (M := M) (base := B) Tryz.underlying32 I3 rfl rfl rfl rfl ho hu1_3 (Le.refl _ _) (by simp; omega) (by simp; omega) (by have := lt_of_get go; omega) (fun u1_4 M1_4 w1_4 ho1_4 s1_4 => ?_)
  have := lt_of_get go
  replace m_go := (s1_4.mem _ this).2 m_go
  replace go := s1_4.keep go (fun h => by first | exact ho.notIter go h | exact ho.neT go (by decide) h | (have := (ho.base _ h).1; omega))
  have := lt_of_get gs
  replace m_gs := (s1_4.mem _ this).2 m_gs
  replace gs := s1_4.keep gs (fun h => by first | exact ho.notIter gs h | exact ho.neT gs (by decide) h | (have := (ho.base _ h).1; omega))
  replace hu1_3 := hu1_3.le s1_4.le
  replace hs := hs.step s1_4 (fun b h1 h2 => hs.apartT ho (by decide) h1 h2)
  replace hM := s1_4.lt hM
  have := S.size
  replace S := S.trans s1_4 (fun b hb h => ⟨(ho.base b h).1, (S.mem b hb).1 (ho.mut_ b h)⟩)
  replace ho := ho1_4
  refine Rg.nil ⟨rfl, rfl, fun h => absurd rfl h, ?_⟩
  refine Rg.storec (M := M1_4) I32 rfl rfl go rfl ((by obtain ⟨_, _, he, _⟩ := ho.isSlice; rw [he]; rfl)) m_go (fun w1_5 g1_5 s1_5 => ?_)
  change w1_5.heap[_]? = some (Obj.cells #[u1_4] _ _) at g1_5
  have := lt_of_get go
  replace m_go := (s1_5.mem _ this).2 m_go
  have := lt_of_get gs
  replace m_gs := (s1_5.mem _ this).2 m_gs
  replace gs := s1_5.keep gs (fun hk => by have hk : _ = _ := hk; omega)
  replace hu1_3 := hu1_3.le s1_5.le
  replace ho := ho.step s1_5 (fun b hb hk => by have hk : b = _ := hk; subst hk; first | exact absurd hb (ho.neT go (by decide)) | exact absurd hb (ho.neT gs (by decide)))
  replace hs := hs.step s1_5 (fun b hb hk => by have hk : b = _ := hk; subst hk; first | exact absurd hb (hs.neT go (by decide)) | exact absurd hb (hs.neT gs (by decide)))
  replace hM := s1_5.lt hM
  have := S.size
  replace S := S.trans s1_5 (fun k hk h => by have h : _ = _ := h; subst h; first | (exfalso; omega) | (show _ ≤ _; omega) | exact ⟨by omega, (S.mem _ hk).1 ((s1_5.mem _ (lt_of_get go)).1 m_go)⟩ | exact .inl rfl | exact .inr rfl | exact .inr (.inl rfl) | exact .inr (.inr rfl) | exact rfl)
  have go_ := g1_5
  clear go
  have go := go_
  clear go_
  refine Rg.nil ⟨rfl, rfl, fun h => absurd rfl h, ?_⟩
  refine TRg.nil ?_
  refine T.ret ?_
  rw [show takeF (own, out) c = (own ++ [foldZ c], out) from if_pos hlet]
  exact Kret0 rfl ⟨M1_4, hM, ⟨⟨_, go, ho⟩, ⟨_, gs, hs⟩, m_go, m_gs, hBo, hBs⟩, S⟩
 ·refine Rg.gyes rfl rfl ?_
  refine Rg.move rfl rfl ?_
  refine Rg.gyes rfl rfl ?_
  refine Rg.call rfl rfl E222 (digit_spec _ _) (fun r wc hc => ?_)
  obtain ⟨rfl, rfl⟩ := hc
  refine Rg.eqv (v' := .bool (decide (digB c = true))) (by cases digB c <;> rfl) ?_
  refine Rg.pickf rfl rfl rfl ?_
  refine Rg.nil ?_
  refine T.ifp rfl (fun c0 => ?_) (fun c0 => ?_)
  ·refine T.seq ?_
   apply T.drawF 2 [0] 2 none' mixed rfl rfl rfl rfl
   intro wD1 sA1
   have sD1 := sA1 M
   have := lt_of_get go
   replace m_go := (sD1.mem _ this).2 m_go
   replace go := sD1.same0 go
   have := lt_of_get gs
   replace m_gs := (sD1.mem _ this).2 m_gs
   replace gs := sD1.same0 gs
   replace ho := ho.step0 sD1
   replace hs := hs.step0 sD1
   replace hM := sD1.lt hM
   have := S.size
   replace S := S.trans0 sD1
   refine Rg.loadc Tryz.underlying32 rfl rfl rfl (by first | assumption | exact Step.same0 sD1 (by assumption)) rfl ?_
   refine Rg.nil ⟨rfl, rfl, rfl, ?_⟩
   refine Rg.move rfl rfl ?_
   refine Rg.nil ⟨rfl, rfl, rfl, ?_⟩
   refine QRg.nil ?_
   refine ⟨Floats.all ⟨FloatOk.load rfl (by assumption) (by first | assumption | exact fun h => h | (intro h; have h : _ = _ := h; omega)), trivial⟩, ?_⟩
   have kp := Keep.refl none' wD1
   have hlet : letB c = true ∨ digB c = true := by first | exact .inl (by assumption) | exact .inr (by assumption)
   refine Rg.call rfl rfl E223 (fold_spec c _ (letB_rng hlet)) (fun r wc hc => ?_)
   obtain ⟨rfl, rfl⟩ := hc
   refine (fun (kp : Keep _ _ _) => Rg.nil ⟨rfl, rfl, fun _ => kp, ?_⟩) (by first | exact kp | exact kp.go0 (by assumption) | exact kp.goN (by assumption) | exact kp.go (by assumption) (fun _ _ h => by first | exact h | exact h.elim))
   refine Rg.sl1 (A := RT.int .i64) (hn := by decide) (M := M) Tryz.underlying32 I3 (by decide) rfl rfl hM (V_i64 (by have := letB_rng hlet; unfold foldZ; split <;> omega)) (.inr ⟨rfl, rfl⟩) (fun u1_3 w1_3 hu1_3 s1_3 => ?_)
   have := lt_of_get go
   replace m_go := (s1_3.mem _ this).2 m_go
   replace go := s1_3.same0 go
   have := lt_of_get gs
   replace m_gs := (s1_3.mem _ this).2 m_gs
   replace gs := s1_3.same0 gs
   replace ho := ho.step0 s1_3
   replace hs := hs.step0 s1_3
   replace hM := s1_3.lt hM
   have := S.size
   replace S := S.trans0 s1_3
   refine (fun (kp : Keep _ _ _) => Rg.nil ⟨rfl, rfl, fun _ => kp, ?_⟩) (by first | exact kp | exact kp.go0 (by assumption) | exact kp.goN (by assumption) | exact kp.go (by assumption) (fun _ _ h => by first | exact h | exact h.elim))
   refine Rg.append (M := M) (base := B) Tryz.underlying32 I3 rfl rfl rfl rfl ho hu1_3 (Le.refl _ _) (by simp; omega) (by simp; omega) (by have := lt_of_get go; omega) (fun u1_4 M1_4 w1_4 ho1_4 s1_4 => ?_)
   have := lt_of_get go
   replace m_go := (s1_4.mem _ this).2 m_go
   replace go := s1_4.keep go (fun h => by first | exact ho.notIter go h | exact ho.neT go (by decide) h | (have := (ho.base _ h).1; omega))
   have := lt_of_get gs
   replace m_gs := (s1_4.mem _ this).2 m_gs
   replace gs := s1_4.keep gs (fun h => by first | exact ho.notIter gs h | exact ho.neT gs (by decide) h | (have := (ho.base _ h).1; omega))
   replace hu1_3 := hu1_3.le s1_4.le
   replace hs := hs.step s1_4 (fun b h1 h2 => hs.apartT ho (by decide) h1 h2)
   replace hM := s1_4.lt hM
   have := S.size
   replace S := S.trans s1_4 (fun b hb h => ⟨(ho.base b h).1, (S.mem b hb).1 (ho.mut_ b h)⟩)
   replace ho := ho1_4
   refine Rg.nil ⟨rfl, rfl, fun h => absurd rfl h, ?_⟩
   refine Rg.storec (M := M1_4) I32 rfl rfl go rfl ((by obtain ⟨_, _, he, _⟩ := ho.isSlice; rw [he]; rfl)) m_go (fun w1_5 g1_5 s1_5 => ?_)
   change w1_5.heap[_]? = some (Obj.cells #[u1_4] _ _) at g1_5
   have := lt_of_get go
   replace m_go := (s1_5.mem _ this).2 m_go
   have := lt_of_get gs
   replace m_gs := (s1_5.mem _ this).2 m_gs
   replace gs := s1_5.keep gs (fun hk => by have hk : _ = _ := hk; omega)
   replace hu1_3 := hu1_3.le s1_5.le
   replace ho := ho.step s1_5 (fun b hb hk => by have hk : b = _ := hk; subst hk; first | exact absurd hb (ho.neT go (by decide)) | exact absurd hb (ho.neT gs (by decide)))
   replace hs := hs.step s1_5 (fun b hb hk => by have hk : b = _ := hk; subst hk; first | exact absurd hb (hs.neT go (by decide)) | exact absurd hb (hs.neT gs (by decide)))
   replace hM := s1_5.lt hM
   have := S.size
   replace S := S.trans s1_5 (fun k hk h => by have h : _ = _ := h; subst h; first | (exfalso; omega) | (show _ ≤ _; omega) | exact ⟨by omega, (S.mem _ hk).1 ((s1_5.mem _ (lt_of_get go)).1 m_go)⟩ | exact .inl rfl | exact .inr rfl | exact .inr (.inl rfl) | exact .inr (.inr rfl) | exact rfl)
   have go_ := g1_5
   clear go
   have go := go_
   clear go_
   refine Rg.nil ⟨rfl, rfl, fun h => absurd rfl h, ?_⟩
   refine TRg.nil ?_
   refine T.ret ?_
   rw [show takeF (own, out) c = (own ++ [foldZ c], out) from if_pos hlet]
   exact Kret0 rfl ⟨M1_4, hM, ⟨⟨_, go, ho⟩, ⟨_, gs, hs⟩, m_go, m_gs, hBo, hBs⟩, S⟩
  ·refine T.skip ?_
   refine T.seq ?_
   refine T.seq ?_
   refine T.region ?_
   refine Rg.loadc Tryz.underlying32 rfl rfl rfl (by assumption) rfl ?_
   refine Rg.lenown Tryz.underlying32 rfl ho rfl ?_
   refine Rg.igt rfl rfl rfl ?_
   refine Rg.nil ?_
   refine T.ifp rfl (fun c2 => ?_) (fun c2 => ?_)
   ·apply T.drawF 2 [0] 2 none' mixed rfl rfl rfl rfl
    intro wD3 sA3
    have sD3 := sA3 M
    have := lt_of_get go
    replace m_go := (sD3.mem _ this).2 m_go
    replace go := sD3.same0 go
    have := lt_of_get gs
    replace m_gs := (sD3.mem _ this).2 m_gs
    replace gs := sD3.same0 gs
    replace ho := ho.step0 sD3
    replace hs := hs.step0 sD3
    replace hM := sD3.lt hM
    have := S.size
    replace S := S.trans0 sD3
    refine Rg.loadc Tryz.underlying55 rfl rfl rfl (by first | assumption | exact Step.same0 sD3 (by assumption)) rfl ?_
    refine Rg.nil ⟨rfl, rfl, rfl, ?_⟩
    refine Rg.loadc Tryz.underlying32 rfl rfl rfl (by first | assumption | exact Step.same0 sD3 (by assumption)) rfl ?_
    refine Rg.nil ⟨rfl, rfl, rfl, ?_⟩
    refine QRg.nil ?_
    refine ⟨Floats.all ⟨FloatOk.load rfl (by assumption) (by first | assumption | exact fun h => h | (intro h; have h : _ = _ := h; omega)), trivial⟩, ?_⟩
    have kp := Keep.refl none' wD3
    refine Rg.call rfl rfl E224 (text_spec (M := rm M uo) _ (fun b hb => hM b hb.1) (ho.view (by omega)) (by omega)) (fun r3 w3 hc => ?_)
    obtain ⟨rfl, s3⟩ := hc
    replace s3 := s3.any M --@step s3
    have := lt_of_get go
    replace m_go := (s3.mem _ this).2 m_go
    replace go := s3.same0 go
    have := lt_of_get gs
    replace m_gs := (s3.mem _ this).2 m_gs
    replace gs := s3.same0 gs
    replace ho := ho.step0 s3
    replace hs := hs.step0 s3
    replace hM := s3.lt hM
    have := S.size
    replace S := S.trans0 s3
    refine (fun (kp : Keep _ _ _) => Rg.nil ⟨rfl, rfl, fun _ => kp, ?_⟩) (by first | exact kp | exact kp.go0 (by assumption) | exact kp.goN (by assumption) | exact kp.go (by assumption) (fun _ _ h => by first | exact h | exact h.elim))
    refine Rg.sl1 (A := RT.str) (hn := by decide) (M := M) Tryz.underlying55 I9 (by decide) rfl rfl hM (V_str.2 ⟨rfl, by have := textB_len own; omega⟩) (.inr ⟨rfl, rfl⟩) (fun u3_3 w3_3 hu3_3 s3_3 => ?_)
    have := lt_of_get go
    replace m_go := (s3_3.mem _ this).2 m_go
    replace go := s3_3.same0 go
    have := lt_of_get gs
    replace m_gs := (s3_3.mem _ this).2 m_gs
    replace gs := s3_3.same0 gs
    replace ho := ho.step0 s3_3
    replace hs := hs.step0 s3_3
    replace hM := s3_3.lt hM
    have := S.size
    replace S := S.trans0 s3_3
    refine (fun (kp : Keep _ _ _) => Rg.nil ⟨rfl, rfl, fun _ => kp, ?_⟩) (by first | exact kp | exact kp.go0 (by assumption) | exact kp.goN (by assumption) | exact kp.go (by assumption) (fun _ _ h => by first | exact h | exact h.elim))
    refine Rg.append (M := M) (base := B) Tryz.underlying55 I9 rfl rfl rfl rfl hs hu3_3 (Le.refl _ _) (by simp; omega) (by simp; omega) (by have := lt_of_get go; omega) (fun u3_4 M3_4 w3_4 ho3_4 s3_4 => ?_)
    have := lt_of_get go
    replace m_go := (s3_4.mem _ this).2 m_go
    replace go := s3_4.keep go (fun h => by first | exact hs.notIter go h | exact hs.neT go (by decide) h | (have := (hs.base _ h).1; omega))
    have := lt_of_get gs
    replace m_gs := (s3_4.mem _ this).2 m_gs
    replace gs := s3_4.keep gs (fun h => by first | exact hs.notIter gs h | exact hs.neT gs (by decide) h | (have := (hs.base _ h).1; omega))
    replace hu3_3 := hu3_3.le s3_4.le
    replace ho := ho.step s3_4 (fun b h1 h2 => ho.apartT hs (by decide) h1 h2)
    replace hM := s3_4.lt hM
    have := S.size
    replace S := S.trans s3_4 (fun b hb h => ⟨(hs.base b h).1, (S.mem b hb).1 (hs.mut_ b h)⟩)
    replace hs := ho3_4
    refine Rg.nil ⟨rfl, rfl, fun h => absurd rfl h, ?_⟩
    refine Rg.storec (M := M3_4) I55 rfl rfl gs rfl ((by obtain ⟨_, _, he, _⟩ := hs.isSlice; rw [he]; rfl)) m_gs (fun w3_5 g3_5 s3_5 => ?_)
    change w3_5.heap[_]? = some (Obj.cells #[u3_4] _ _) at g3_5
    have := lt_of_get go
    replace m_go := (s3_5.mem _ this).2 m_go
    replace go := s3_5.keep go (fun hk => by have hk : _ = _ := hk; omega)
    have := lt_of_get gs
    replace m_gs := (s3_5.mem _ this).2 m_gs
    replace hu3_3 := hu3_3.le s3_5.le
    replace ho := ho.step s3_5 (fun b hb hk => by have hk : b = _ := hk; subst hk; first | exact absurd hb (ho.neT go (by decide)) | exact absurd hb (ho.neT gs (by decide)))
    replace hs := hs.step s3_5 (fun b hb hk => by have hk : b = _ := hk; subst hk; first | exact absurd hb (hs.neT go (by decide)) | exact absurd hb (hs.neT gs (by decide)))
    replace hM := s3_5.lt hM
    have := S.size
    replace S := S.trans s3_5 (fun k hk h => by have h : _ = _ := h; subst h; first | (exfalso; omega) | (show _ ≤ _; omega) | exact ⟨by omega, (S.mem _ hk).1 ((s3_5.mem _ (lt_of_get gs)).1 m_gs)⟩ | exact .inl rfl | exact .inr rfl | exact .inr (.inl rfl) | exact .inr (.inr rfl) | exact rfl)
    have gs_ := g3_5
    clear gs
    have gs := gs_
    clear gs_
    refine Rg.nil ⟨rfl, rfl, fun h => absurd rfl h, ?_⟩
    refine TRg.nil ?_
    refine T.region ?_
    refine Rg.storec (M := M3_4) I32 rfl rfl go rfl (rfl) m_go (fun w4_0 g4_0 s4_0 => ?_)
    change w4_0.heap[_]? = some (Obj.cells #[.slice none 0 0] _ _) at g4_0
    have := lt_of_get go
    replace m_go := (s4_0.mem _ this).2 m_go
    have := lt_of_get gs
    replace m_gs := (s4_0.mem _ this).2 m_gs
    replace gs := s4_0.keep gs (fun hk => by have hk : _ = _ := hk; omega)
    replace hu3_3 := hu3_3.le s4_0.le
    replace ho := ho.step s4_0 (fun b hb hk => by have hk : b = _ := hk; subst hk; first | exact absurd hb (ho.neT go (by decide)) | exact absurd hb (ho.neT gs (by decide)))
    replace hs := hs.step s4_0 (fun b hb hk => by have hk : b = _ := hk; subst hk; first | exact absurd hb (hs.neT go (by decide)) | exact absurd hb (hs.neT gs (by decide)))
    replace hM := s4_0.lt hM
    have := S.size
    replace S := S.trans s4_0 (fun k hk h => by have h : _ = _ := h; subst h; first | (exfalso; omega) | (show _ ≤ _; omega) | exact ⟨by omega, (S.mem _ hk).1 ((s4_0.mem _ (lt_of_get go)).1 m_go)⟩ | exact .inl rfl | exact .inr rfl | exact .inr (.inl rfl) | exact .inr (.inr rfl) | exact rfl)
    have go_ := g4_0
    clear go
    have go := go_
    clear go_
    refine Rg.nil ?_
    first | refine EndP.nil ?_ | simp +decide only [Kseq, Kblock, if_true, if_false] | skip
    have hnl : ¬ (letB c = true ∨ digB c = true) := by rintro (h | h) <;> exact absurd h (by assumption)
    first
    |rw [show takeF (own, out) c = ([], out ++ [textB own]) from (if_neg hnl).trans (if_pos (by show 0 < own.length; omega))]
     exact Kret0n rfl ⟨_, hM, ⟨⟨_, go, Own.nil _ _ _ _ _⟩, ⟨_, gs, hs⟩, m_go, m_gs, hBo, hBs⟩, S⟩
    |rw [show takeF (own, out) c = ([], out) from (if_neg hnl).trans (if_neg (by show ¬ 0 < own.length; omega))]
     exact Kret0n rfl ⟨_, hM, ⟨⟨_, go, Own.nil _ _ _ _ _⟩, ⟨_, gs, hs⟩, m_go, m_gs, hBo, hBs⟩, S⟩
   ·refine T.skip ?_
    refine T.region ?_
    refine Rg.storec (M := M) I32 rfl rfl go rfl (rfl) m_go (fun w4_0 g4_0 s4_0 => ?_)
    change w4_0.heap[_]? = some (Obj.cells #[.slice none 0 0] _ _) at g4_0
    have := lt_of_get go
    replace m_go := (s4_0.mem _ this).2 m_go
    have := lt_of_get gs
    replace m_gs := (s4_0.mem _ this).2 m_gs
    replace gs := s4_0.keep gs (fun hk => by have hk : _ = _ := hk; omega)
    replace ho := ho.step s4_0 (fun b hb hk => by have hk : b = _ := hk; subst hk; first | exact absurd hb (ho.neT go (by decide)) | exact absurd hb (ho.neT gs (by decide)))
    replace hs := hs.step s4_0 (fun b hb hk => by have hk : b = _ := hk; subst hk; first | exact absurd hb (hs.neT go (by decide)) | exact absurd hb (hs.neT gs (by decide)))
    replace hM := s4_0.lt hM
    have := S.size
    replace S := S.trans s4_0 (fun k hk h => by have h : _ = _ := h; subst h; first | (exfalso; omega) | (show _ ≤ _; omega) | exact ⟨by omega, (S.mem _ hk).1 ((s4_0.mem _ (lt_of_get go)).1 m_go)⟩ | exact .inl rfl | exact .inr rfl | exact .inr (.inl rfl) | exact .inr (.inr rfl) | exact rfl)
    have go_ := g4_0
    clear go
    have go := go_
    clear go_
    refine Rg.nil ?_
    first | refine EndP.nil ?_ | simp +decide only [Kseq, Kblock, if_true, if_false] | skip
    have hnl : ¬ (letB c = true ∨ digB c = true) := by rintro (h | h) <;> exact absurd h (by assumption)
    first
    |rw [show takeF (own, out) c = ([], out ++ [textB own]) from (if_neg hnl).trans (if_pos (by show 0 < own.length; omega))]
     exact Kret0n rfl ⟨_, hM, ⟨⟨_, go, Own.nil _ _ _ _ _⟩, ⟨_, gs, hs⟩, m_go, m_gs, hBo, hBs⟩, S⟩
    |rw [show takeF (own, out) c = ([], out) from (if_neg hnl).trans (if_neg (by show ¬ 0 < own.length; omega))]
     exact Kret0n rfl ⟨_, hM, ⟨⟨_, go, Own.nil _ _ _ _ _⟩, ⟨_, gs, hs⟩, m_go, m_gs, hBo, hBs⟩, S⟩
theorem take_len (l : List Int) : ∀ p, (l.foldl takeF p).1.length ≤ p.1.length + l.length ∧ (l.foldl takeF p).2.length ≤ p.2.length + l.length := by
 induction l with
 |nil => intro p; simp
 |cons c l ih =>
  intro p
  have := ih (takeF p c)
  have h1 : (takeF p c).1.length ≤ p.1.length + 1 ∧ (takeF p c).2.length ≤ p.2.length + 1 := by
   unfold takeF
   split
   ·simp
   ·split <;> simp
  simp only [List.foldl_cons, List.length_cons]; omega
def words (l : List UInt8) : List (List UInt8) := ((signs l ++ [32]).foldl takeF ([], [])).2
theorem words_len (l : List UInt8) : (words l).length ≤ l.length + 1 := by
 have h := (take_len (signs l ++ [32]) ([], [])).2
 have h2 := signs_len l
 rw [List.length_append] at h
 have h3 : ([] : List (List UInt8)).length = 0 := rfl
 have h4 : [(32 : Int)].length = 1 := rfl
 unfold words
 simp only [h3, h4] at h
 omega
theorem words_spec {M : PSet} {l : List UInt8} (w0 : World) (hM : Lt M w0) (hl : l.length ≤ 900000) :
  Spec Tryz.prog 192 #[.string ⟨l.toArray⟩] w0 (fun v w => (RT.str.sl).V M w (words l) v ∧ Step M w0 M w none') := by
 have hM0 := hM
 refine spec_of (args := [_]) (fn := Tryz.f192) Tryz.func192 rfl (n := 23) Tryz.ntmps192 ?_
 have S : Step M w0 M w0 none' := (Step.refl _ _).widen (fun _ h => h.elim) (fun _ h => h.elim)
 refine T.seq ?_
 refine T.region ?_
 refine Rg.assign rfl rfl ?_
 refine Rg.nil ?_
 refine T.seq ?_
 refine T.region ?_
 refine Rg.alloc M I55 rfl (fun b1_0 w1_0 p1_0 q1_0 g1_0 s1_0 => ?_)
 obtain ⟨M_1_0, eM_1_0⟩ : ∃ M', M' = ins M b1_0 := ⟨_, rfl⟩
 rw [← eM_1_0] at s1_0
 have m_g1_0 : M_1_0 b1_0 := by rw [eM_1_0]; exact .inl rfl
 change w1_0.heap[b1_0]? = some (.cells #[.slice none 0 0] _ _) at g1_0
 replace hM := s1_0.lt hM
 have := S.size
 replace S := S.trans0 s1_0
 refine Rg.nil ?_
 refine T.seq ?_
 refine T.region ?_
 refine Rg.alloc M_1_0 I32 rfl (fun b2_0 w2_0 p2_0 q2_0 g2_0 s2_0 => ?_)
 obtain ⟨M_2_0, eM_2_0⟩ : ∃ M', M' = ins M_1_0 b2_0 := ⟨_, rfl⟩
 rw [← eM_2_0] at s2_0
 have m_g2_0 : M_2_0 b2_0 := by rw [eM_2_0]; exact .inl rfl
 change w2_0.heap[b2_0]? = some (.cells #[.slice none 0 0] _ _) at g2_0
 have := lt_of_get g1_0
 replace m_g1_0 := (s2_0.mem _ this).2 m_g1_0
 replace g1_0 := s2_0.same0 g1_0
 replace hM := s2_0.lt hM
 have := S.size
 replace S := S.trans0 s2_0
 refine Rg.nil ?_
 refine T.seq ?_
 refine T.region ?_
 refine Rg.makeFunc (xs := []) (ys := [.tmp 4, .tmp 3]) rfl rfl rfl ?_
 refine Rg.assign rfl rfl ?_
 refine Rg.nil ?_
 refine T.seq ?_
 refine T.seq ?_
 refine T.region ?_
 refine Rg.move rfl rfl ?_
 refine Rg.call rfl rfl E225 (signs_spec _ hM (by omega)) (fun v4 w4 hc => ?_)
 obtain ⟨hsg, s4⟩ := hc --@step s4
 --@vf hsg
 have := lt_of_get g1_0
 replace m_g1_0 := (s4.mem _ this).2 m_g1_0
 replace g1_0 := s4.same0 g1_0
 have := lt_of_get g2_0
 replace m_g2_0 := (s4.mem _ this).2 m_g2_0
 replace g2_0 := s4.same0 g2_0
 replace hM := s4.lt hM
 have := S.size
 replace S := S.trans0 s4
 refine Rg.lensl Tryz.underlying32 rfl hsg rfl ?_
 refine Rg.move rfl rfl ?_
 refine Rg.nil ?_
 refine T.block ?_
 refine T.loop (σ := Nat) (fun k => [(3, .pointer (some ⟨b1_0, 0, none⟩)), (5, .func (.func 220) #[] #[.pointer (some ⟨b2_0, 0, none⟩), .pointer (some ⟨b1_0, 0, none⟩)]), (10, v4), (11, .int .i64 ((signs l).length : Int)), (12, .int .i64 (k : Int))]) (fun k w => ∃ M', Lt M' w ∧ Step M w0 M' w none' ∧ TakeS M' w w0.heap.size b2_0 b1_0 (((signs l).take k).foldl takeF ([], [])) ∧ ((RT.int .i64).sl).V M' w (signs l) v4 ∧ k ≤ (signs l).length) (fun k => (signs l).length - k) 0 (.cons rfl (.cons rfl (.cons rfl (.cons rfl (.cons rfl .nil))))) ?_ ?_
 ·exact ⟨_, hM, S, ⟨⟨_, g2_0, Own.nil _ _ _ _ _⟩, ⟨_, g1_0, Own.nil _ _ _ _ _⟩, m_g2_0, m_g1_0, by omega, by omega⟩, hsg, Nat.zero_le _⟩
 ·rintro k w ⟨M1, hM, S, ht, hsg, hk⟩
  refine T.seq ?_
  refine T.region ?_
  refine Rg.ilt rfl rfl rfl ?_
  refine Rg.nil ?_
  refine T.seq ?_
  refine T.ifp rfl (fun c5 => ?_) (fun c5 => ?_)
  ·refine T.skip ?_
   refine T.seq ?_
   refine T.block ?_
   refine T.seq ?_
   refine T.region ?_
   refine Rg.idx (M := M1) Tryz.underlying32 I3 rfl rfl rfl hsg (Le.refl _ _) (by omega) (fun u6 c hg6 hu6 => ?_) --@ptr RT.int .i64 ;; c
   refine Rg.loadi64 (M := M1) Tryz.underlying3 rfl rfl hu6 (Le.refl _ _) (fun in6 => ?_)
   refine Rg.assign rfl rfl ?_
   refine Rg.nil ?_
   refine T.region ?_
   refine Rg.move rfl rfl ?_
   refine Rg.move rfl rfl ?_
   have hsl := signs_len l
   have hl2 := take_len ((signs l).take k) ([], [])
   rw [List.length_take] at hl2
   refine Rg.callv (first := []) (captured := [.pointer (some ⟨b2_0, 0, none⟩), .pointer (some ⟨b1_0, 0, none⟩)]) rfl rfl rfl E220 (wtake_spec (B := w0.heap.size) _ hM c ht (by simp at hl2; omega)) (fun r7 w7 hc => ?_)
   obtain ⟨M2, hM2, ht2, s7⟩ := hc
   have tk : (signs l).take (k + 1) = (signs l).take k ++ [c] := by rw [List.take_add_one]; simp only [Int.toNat_natCast] at hg6; rw [hg6]; rfl
   refine Rg.nil ?_
   refine T.region ?_
   refine Rg.iadd rfl rfl rfl (by omega) ?_
   refine Rg.move rfl rfl ?_
   refine Rg.nil ?_
   refine ⟨rfl, k + 1, (.cons rfl (.cons rfl (.cons rfl (.cons rfl (.cons rfl .nil))))), ?_, ?_⟩
   ·exact ⟨M2, hM2, S.transOwn s7 (Nat.le_refl _), by rw [tk, List.foldl_append]; exact ht2, hsg.le s7.le, by omega⟩
   ·omega
  ·refine T.exit ?_
   refine T.seq ?_
   refine T.region ?_
   refine Rg.move rfl rfl ?_
   have hsl := signs_len l
   have hl2 := take_len ((signs l).take k) ([], [])
   rw [List.length_take] at hl2
   refine Rg.callv (first := []) (captured := [.pointer (some ⟨b2_0, 0, none⟩), .pointer (some ⟨b1_0, 0, none⟩)]) rfl rfl rfl E220 (wtake_spec (B := w0.heap.size) _ hM 32 ht (by simp at hl2; omega)) (fun r9 w9 hc => ?_)
   obtain ⟨M2, hM2, ht2, s9⟩ := hc
   have e9 : takeF (((signs l).take k).foldl takeF ([], [])) 32 = (signs l ++ [32]).foldl takeF ([], []) := by rw [List.foldl_append, List.take_of_length_le (by omega)]; rfl
   rw [e9] at ht2
   obtain ⟨_, ⟨us, gs, hs⟩, _⟩ := ht2
   replace S := S.transOwn s9 (Nat.le_refl _)
   refine Rg.nil ?_
   refine T.seq ?_
   refine T.region ?_
   refine Rg.loadc Tryz.underlying55 rfl rfl rfl gs rfl ?_
   refine Rg.assign rfl rfl ?_
   refine Rg.nil ?_
   refine T.ret ?_
   exact Kret1 rfl rfl ⟨Own.close hM0 S hs (by have := words_len l; omega), S.back⟩
end Go.K
namespace Go.K
open Go.Proofs
set_option linter.unusedVariables false
set_option linter.unusedSimpArgs false
set_option maxRecDepth 10000
def tokE : Nat → List (List UInt8) → Int
 |_, [] => 0
 |i, w :: ws => if 30 < w.length then 3 else if 500 ≤ i then 7 else tokE (i + 1) ws
theorem tokE_at {i k : Nat} {ws : List (List UInt8)} {x : List UInt8} (h : ws[k]? = some x) : tokE i (ws.drop k) = if 30 < x.length then 3 else if 500 ≤ i then 7 else tokE (i + 1) (ws.drop (k + 1)) := by
 have hlt := (List.getElem?_eq_some_iff.1 h).1
 rw [List.drop_eq_getElem_cons hlt, (List.getElem?_eq_some_iff.1 h).2]
 rfl
theorem V_strE {M : PSet} {w : World} {x : List UInt8} {v : Value} (h : RT.str.V M w x v) : v = .string ⟨x.toArray⟩ := (V_str.1 h).1
theorem toks_spec {M : PSet} {l : List UInt8} (w0 : World) (hM : Lt M w0) (hl : l.length ≤ 900000) :
  Spec Tryz.prog 150 #[.string ⟨l.toArray⟩] w0 (fun v w => (∃ u, v = .tuple #[u, .int .i64 (tokE 0 (words l))] ∧ (tokE 0 (words l) = 0 → ∃ a cap, u = .slice a (words l).length cap)) ∧ Step M w0 M w none') := by
 have hM0 := hM
 refine spec_of (args := [_]) (fn := Tryz.f150) Tryz.func150 rfl (n := 30) Tryz.ntmps150 ?_
 have S : Step M w0 M w0 none' := (Step.refl _ _).widen (fun _ h => h.elim) (fun _ h => h.elim)
 refine T.seq ?_
 refine T.region ?_
 refine Rg.assign rfl rfl ?_
 refine Rg.assign rfl rfl ?_
 refine Rg.nil ?_
 refine T.seq ?_
 refine T.region ?_
 refine Rg.assign rfl rfl ?_
 refine Rg.nil ?_
 refine T.seq ?_
 refine T.seq ?_
 refine T.region ?_
 refine Rg.move rfl rfl ?_
 refine Rg.call rfl rfl E192 (words_spec _ hM hl) (fun v1 w1 hc => ?_)
 obtain ⟨hv, s1⟩ := hc --@step s1
 --@vf hv
 replace hM := s1.lt hM
 have := S.size
 replace S := S.trans0 s1
 refine Rg.lensl Tryz.underlying55 rfl hv rfl ?_
 refine Rg.move rfl rfl ?_
 refine Rg.nil ?_
 refine T.block ?_
 refine T.loop (σ := Nat × Value) (fun q => [(8, v1), (4, q.2), (9, .int .i64 ((words l).length : Int)), (10, .int .i64 (q.1 : Int))]) (fun q w => (∃ M' xs, Lt M' w ∧ Step M w0 M' w none' ∧ Own (RT.pair RT.str (RT.int .i64)) 256 M' w w0.heap.size q.2 xs ∧ xs.length = q.1 ∧ (RT.str.sl).V M' w (words l) v1) ∧ tokE 0 (words l) = tokE q.1 ((words l).drop q.1) ∧ q.1 ≤ (words l).length ∧ q.1 ≤ 500) (fun q => (words l).length - q.1) (0, .slice none 0 0) (.cons rfl (.cons rfl (.cons rfl (.cons rfl .nil)))) ?_ ?_
 ·exact ⟨⟨M, [], hM, S, Own.nil _ _ _ _ _, rfl, hv⟩, rfl, Nat.zero_le _, Nat.zero_le _⟩
 ·rintro ⟨i, u⟩ w ⟨⟨M1, xs, hM, S, ho, hxl, hv⟩, hte, hi, hi5⟩
  dsimp only at ho hxl hte hi hi5 ⊢
  refine T.seq ?_
  refine T.region ?_
  refine Rg.ilt rfl rfl rfl ?_
  refine Rg.nil ?_
  refine T.seq ?_
  refine T.ifp rfl (fun c3 => ?_) (fun c3 => ?_)
  ·refine T.skip ?_
   refine T.seq ?_
   refine T.block ?_
   refine T.seq ?_
   refine T.region ?_
   refine Rg.move rfl rfl ?_
   refine Rg.idx (M := M1) Tryz.underlying55 I9 rfl rfl rfl hv (Le.refl _ _) (by omega) (fun u4_1 x hgx hux => ?_) --@ptr RT.str ;; x
   refine Rg.load (M := M1) Tryz.underlying9 rfl rfl rfl rfl rfl hux (Le.refl _ _) (fun vx hvx => ?_)
   rw [Int.toNat_natCast] at hgx
   obtain rfl := V_strE hvx
   have ht := tokE_at (i := i) hgx --@vf hvx
   refine Rg.assign rfl rfl ?_
   refine Rg.assign rfl rfl ?_
   refine Rg.nil ?_
   refine T.seq ?_
   refine T.block ?_
   refine T.seq ?_
   refine T.region ?_
   refine Rg.move rfl rfl ?_
   refine Rg.lenstr Tryz.underlying9 rfl rfl ?_
   refine Rg.eqv (v' := .int .i64 (x.length : Int)) (by simp [ByteArray.size]) ?_
   refine Rg.igt rfl rfl rfl ?_
   refine Rg.assign rfl rfl ?_
   refine Rg.nil ?_
   refine T.ifp rfl (fun c5 => ?_) (fun c5 => ?_)
   ·refine T.seq ?_
    refine T.region ?_
    refine Rg.assign rfl rfl ?_
    refine Rg.assign rfl rfl ?_
    refine Rg.nil ?_
    refine T.ret ?_
    rw [hte, ht, if_pos (by omega)]
    exact Kret2 rfl rfl rfl ⟨⟨_, rfl, fun h => by cases h⟩, S.back⟩
   ·refine T.seq ?_
    refine T.region ?_
    refine Rg.move rfl rfl ?_
    refine Rg.ieq rfl rfl rfl ?_
    refine Rg.assign rfl rfl ?_
    refine Rg.nil ?_
    refine T.ifp rfl (fun c7 => ?_) (fun c7 => ?_)
    ·refine T.seq ?_
     refine T.region ?_
     refine Rg.assign rfl rfl ?_
     refine Rg.assign rfl rfl ?_
     refine Rg.nil ?_
     refine T.ret ?_
     rw [hte, ht, if_neg (by omega), if_pos (by omega)]
     exact Kret2 rfl rfl rfl ⟨⟨_, rfl, fun h => by cases h⟩, S.back⟩
    ·refine T.skip ?_
     refine T.region ?_
     refine Rg.move rfl rfl ?_
     refine Rg.move rfl rfl ?_
     refine Rg.move rfl rfl ?_
     refine Rg.build (places := [(0, 1), (1, 1)]) Tryz.underlying256 I256 B256 rfl ⟨_, _, rfl, rfl, _, _, rfl, rfl, rfl⟩ (out := [_, _]) ⟨0, [_], rfl, rfl, by simp [Value.cells], 1, [_], rfl, rfl, by simp [Value.cells], rfl⟩ ?_
     refine Rg.sl1 (A := (RT.pair RT.str (RT.int .i64))) (hn := by decide) (M := M1) Tryz.underlying222 I256 (by decide) rfl rfl hM (V_pair_mk hvx (V_i64 (x := (i : Int)) (by omega)) rfl rfl rfl rfl) (.inl rfl) (fun u9_4 w9_4 hu9_4 s9_4 => ?_)
     replace hv := hv.le s9_4.le
     replace hvx := hvx.le s9_4.le
     replace ho := ho.step0 s9_4
     replace hM := s9_4.lt hM
     have := S.size
     replace S := S.trans0 s9_4
     refine Rg.append (M := M1) (base := w0.heap.size) Tryz.underlying222 I256 rfl rfl rfl rfl ho hu9_4 (Le.refl _ _) (by simp; omega) (by simp; omega) (S.size) (fun u9_5 M9_5 w9_5 ho9_5 s9_5 => ?_)
     replace hv := hv.le s9_5.le
     replace hvx := hvx.le s9_5.le
     replace hu9_4 := hu9_4.le s9_5.le
     replace hM := s9_5.lt hM
     have := S.size
     replace S := S.transBlk s9_5 ho (Nat.le_refl _)
     replace ho := ho9_5
     refine Rg.assign rfl rfl ?_
     refine Rg.nil ?_
     refine T.region ?_
     refine Rg.iadd rfl rfl rfl (by omega) ?_
     refine Rg.move rfl rfl ?_
     refine Rg.nil ?_
     refine ⟨rfl, (i + 1, u9_5), (.cons rfl (.cons rfl (.cons rfl (.cons rfl .nil)))), ?_, ?_⟩
     ·exact ⟨⟨M9_5, _, hM, S, ho, by simp [hxl], hv⟩, by rw [hte, ht, if_neg (by omega), if_neg (by omega)], by dsimp only; omega, by dsimp only; omega⟩
     ·dsimp only; omega
  ·refine T.exit ?_
   refine T.seq ?_
   refine T.region ?_
   refine Rg.move rfl rfl ?_
   refine Rg.assign rfl rfl ?_
   refine Rg.assign rfl rfl ?_
   refine Rg.nil ?_
   refine T.ret ?_
   have e : tokE 0 (words l) = 0 := by rw [hte, List.drop_of_length_le (by omega)]; rfl
   rw [e]
   obtain ⟨a, cap, he, _⟩ := ho.isSlice
   exact Kret2 rfl rfl rfl ⟨⟨u, rfl, fun _ => ⟨a, cap, by rw [he, hxl]; congr 1; omega⟩⟩, S.back⟩
end Go.K
namespace Go.K
set_option linter.unusedVariables false
abbrev Fd := List UInt8 × List UInt8
abbrev Dc := Int × List Fd
abbrev En := Dc × Int
abbrev RT.fd : RT Fd := RT.pair RT.str RT.str
abbrev RT.dc : RT Dc := RT.pair (RT.int .i64) (RT.fd.sl)
abbrev RT.en : RT En := RT.pair RT.dc (RT.int .i64)
theorem fd0 : Part RT.fd RT.str (fun p => p.1) 0 := Part.fst _ _
theorem fd1 : Part RT.fd RT.str (fun p => p.2) 1 := Part.snd _ _
theorem dc0 : Part RT.dc (RT.int .i64) (fun p => p.1) 0 := Part.fst _ _
theorem dc1 : Part RT.dc (RT.fd.sl) (fun p => p.2) 1 := Part.snd _ _
theorem en0 : Part RT.en RT.dc (fun p => p.1) 0 := Part.fst _ _
theorem en1 : Part RT.en (RT.int .i64) (fun p => p.2) 2 := Part.snd _ _
theorem dc_val {M : PSet} {w : World} {p : Dc} {v : Value} (h : RT.dc.V M w p v) : ∃ u, v = .agg #[.int .i64 p.1, u] := by
 obtain ⟨vs, ⟨va, vb, rfl, ⟨rfl, _⟩, hb⟩, rfl⟩ := h
 have := (RT.fd.sl (by decide)).len hb
 match vb, this with
 |[u], _ => exact ⟨u, rfl⟩
theorem en_mk {M : PSet} {w : World} {p : Dc} {u : Value} {s : Int} (h : RT.dc.V M w p (.agg #[.int .i64 p.1, u])) (hs : -9223372036854775808 ≤ s ∧ s ≤ 9223372036854775807) : RT.en.V M w (p, s) (.agg [.int .i64 p.1, u, .int .i64 s].toArray) := by
 obtain ⟨vs, h1, h2⟩ := h
 have h3 : vs = [.int .i64 p.1, u] := by
  have : Value.agg #[.int .i64 p.1, u] = .agg vs.toArray := h2
  injection this with this
  simpa using (congrArg Array.toList this).symm
 subst h3
 exact ⟨_, ⟨[.int .i64 p.1, u], [.int .i64 s], rfl, h1, rfl, hs.1, hs.2⟩, rfl⟩
section
variable {P : Program} {r : Option Nat} {n : Nat} {L : Sl} {ds : List Deferred} {w : World} {K : Kt} {ops : Array Oper} {rest : List Oper} {d : Nat} {x : Operand} {ty : TypeId} {pos : String} {af : Array Edge}
theorem Rg.boxp {α : Type} {A : RT α} {e : TypeId} {v : Value} {a : α} {M : PSet} (hx : ev L x = some v) (hd : Nat.blt d n = true) (hM : Lt M w) (hv : A.V M w a v) (hg : A.agg = true)
  (k : ∀ u w', PtrTo A M w' u a → Step M w M w' none' → w.heap.size ≤ w'.heap.size → Rg P r n ops rest ((d, u) :: L) ds w' K) :
  Rg P r n ops ({ dst := some d, op := .box e x, type := ty, pos, after := af, guard := none } :: rest) L ds w K := by
 refine Rg.box M hx hd (fun b w' h1 h2 hb s => ?_)
 obtain ⟨vs, h3, h4⟩ := hv
 have hc : v.cells = vs.toArray := by subst h4; simp [RT.val, hg, Value.cells]
 rw [hc] at hb
 refine k _ w' ⟨b, 0, vs, rfl, fun hm => ?_, A.le s.back.le h3, fun j u hj => ?_⟩ s.back s.size
 ·have := hM b hm; omega
 ·rw [Nat.zero_add]; exact cell_at hb (by simpa using hj)
end
end Go.K
namespace Go.Proofs
open Go.Shelf
def Tryz.lays160_ren : Go.Shelf.Ren := ⟨fun | 160 => 193 | 232 => 227 | 231 => 226 | 227 => 228 | 234 => 230 | 233 => 229 | 236 => 232 | 235 => 231 | 228 => 257 | 271 => 260 | 151 => 259 | 197 => 258 | 120 => 280 | 152 => 279 | 260 => 278 | 137 => 287 | 119 => 277 | 224 => 288 | 225 => 289 | 217 => 291 | 266 => 292 | n => n, fun | 9 => 9 | 4 => 4 | 3 => 3 | 5 => 5 | 117 => 283 | 116 => 282 | 0 => 0 | 124 => 286 | 21 => 21 | 105 => 317 | 46 => 183 | 119 => 338 | 139 => 341 | 138 => 340 | n => n, fun | 3 => 2 | 4 => 3 | n => n⟩
theorem Tryz.lays160 : Go.Proofs.Lays.n160 Tryz.prog Tryz.lays160_ren := {
 mixed := by kernel_rfl
 f119 := Tryz.func277.trans (congrArg some (by kernel_rfl))
 f120 := Tryz.func280.trans (congrArg some (by kernel_rfl))
 f137 := Tryz.func287.trans (congrArg some (by kernel_rfl))
 f151 := Tryz.func259.trans (congrArg some (by kernel_rfl))
 f152 := Tryz.func279.trans (congrArg some (by kernel_rfl))
 f160 := Tryz.func193.trans (congrArg some (by kernel_rfl))
 f197 := Tryz.func258.trans (congrArg some (by kernel_rfl))
 f217 := Tryz.func291.trans (congrArg some (by kernel_rfl))
 f224 := Tryz.func288.trans (congrArg some (by kernel_rfl))
 f225 := Tryz.func289.trans (congrArg some (by kernel_rfl))
 f227 := Tryz.func228.trans (congrArg some (by kernel_rfl))
 f228 := Tryz.func257.trans (congrArg some (by kernel_rfl))
 f231 := Tryz.func226.trans (congrArg some (by kernel_rfl))
 f232 := Tryz.func227.trans (congrArg some (by kernel_rfl))
 f233 := Tryz.func229.trans (congrArg some (by kernel_rfl))
 f234 := Tryz.func230.trans (congrArg some (by kernel_rfl))
 f235 := Tryz.func231.trans (congrArg some (by kernel_rfl))
 f236 := Tryz.func232.trans (congrArg some (by kernel_rfl))
 f260 := Tryz.func278.trans (congrArg some (by kernel_rfl))
 f266 := Tryz.func292.trans (congrArg some (by kernel_rfl))
 f271 := Tryz.func260.trans (congrArg some (by kernel_rfl))
 t0 := Tryz.underlying0
 a0 := Tryz.isAgg0
 z0 := Tryz.sizeOf0
 v0 := Tryz.zeroValue0
 t3 := Tryz.underlying3
 a3 := Tryz.isAgg3
 z3 := Tryz.sizeOf3
 v3 := Tryz.zeroValue3
 t4 := Tryz.underlying4
 a4 := Tryz.isAgg4
 z4 := Tryz.sizeOf4
 v4 := Tryz.zeroValue4
 t5 := Tryz.underlying5
 a5 := Tryz.isAgg5
 z5 := Tryz.sizeOf5
 v5 := Tryz.zeroValue5
 t9 := Tryz.underlying9
 a9 := Tryz.isAgg9
 z9 := Tryz.sizeOf9
 v9 := Tryz.zeroValue9
 t21 := Tryz.underlying21
 a21 := Tryz.isAgg21
 z21 := Tryz.sizeOf21
 v21 := Tryz.zeroValue21
 t46 := Tryz.underlying183
 a46 := Tryz.isAgg183
 z46 := Tryz.sizeOf183
 v46 := Tryz.zeroValue183
 t105 := Tryz.underlying317
 a105 := Tryz.isAgg317
 z105 := Tryz.sizeOf317
 v105 := Tryz.zeroValue317
 t116 := Tryz.underlying282
 a116 := Tryz.isAgg282
 z116 := Tryz.sizeOf282
 t117 := Tryz.underlying283
 a117 := Tryz.isAgg283
 z117 := Tryz.sizeOf283
 v117 := Tryz.zeroValue283
 t119 := Tryz.underlying338
 a119 := Tryz.isAgg338
 z119 := Tryz.sizeOf338
 t124 := Tryz.underlying286
 a124 := Tryz.isAgg286
 z124 := Tryz.sizeOf286
 v124 := Tryz.zeroValue286
 t138 := Tryz.underlying340
 a138 := Tryz.isAgg340
 z138 := Tryz.sizeOf340
 v138 := Tryz.zeroValue340
 t139 := Tryz.underlying341
 a139 := Tryz.isAgg341
 z139 := Tryz.sizeOf341
 v139 := Tryz.zeroValue341
 g3 := by kernel_rfl
 g4 := by kernel_rfl }
end Go.Proofs
namespace Go.K
open Go.Proofs
set_option linter.unusedVariables false
set_option linter.unusedSimpArgs false
set_option maxRecDepth 10000
open Go.RowKit Go.Shelf
def small26 : List UInt8 := [97, 98, 99, 100, 101, 102, 103, 104, 105, 106, 107, 108, 109, 110, 111, 112, 113, 114, 115, 116, 117, 118, 119, 120, 121, 122]
def smallB (b : UInt8) : Bool := decide (97 ≤ b.toNat ∧ b.toNat ≤ 122)
def nameB (s : List UInt8) : Bool := decide (1 ≤ s.length ∧ s.length ≤ 12) && s.all smallB
theorem small_is (b : UInt8) : small26.contains b = smallB b := by
 have key : ∀ n : Fin 256, small26.contains (UInt8.ofNat n) = smallB (UInt8.ofNat n) := by decide
 have := key ⟨b.toNat, UInt8.toNat_lt b⟩
 simpa using this
theorem drop_nil {α : Type} (p : α → Bool) : ∀ l : List α, l.dropWhile p = [] ↔ ∀ x ∈ l, p x = true
 |[] => by simp
 |x :: l => by
  rw [List.dropWhile_cons]
  by_cases h : p x = true
  ·rw [if_pos h, drop_nil p l]; simp [h]
  ·rw [if_neg h]; simp [h]
theorem trim_nil (s : List UInt8) : Lib.trimS s small26 = [] ↔ s.all smallB = true := by
 have e : (fun b => small26.contains b) = smallB := funext small_is
 unfold Lib.trimS Lib.trimLeftS Lib.trimRightS
 rw [e, drop_nil, List.all_eq_true]
 constructor
 ·intro h
  have h2 : s.reverse.dropWhile smallB = [] := by
   cases hd : s.reverse.dropWhile smallB with
   |nil => rfl
   |cons x r =>
    have h3 := h x (by rw [hd]; simp)
    have h4 := List.head?_dropWhile_not smallB s.reverse
    rw [hd] at h4
    simp [h3] at h4
  intro x hx
  exact (drop_nil _ _).1 h2 x (List.mem_reverse.2 hx)
 ·intro h x hx
  rw [(drop_nil smallB s.reverse).2 (fun y hy => h y (List.mem_reverse.1 hy))] at hx
  cases hx
theorem trim_spec (s : List UInt8) (hs : s.length ≤ 140737488355328) (w : World) : Spec Tryz.prog 193 #[.string ⟨s.toArray⟩, .string ⟨small26.toArray⟩] w (fun v w' => v = .string ⟨(Lib.trimS s small26).toArray⟩ ∧ ∀ M, Step M w M w' none') :=
 (Any.strings_Trim_ascii Tryz.lays160 Tryz.zeroValue282 (by kernel_rfl) ⟨s.toArray⟩ ⟨small26.toArray⟩ w (by simp [ByteArray.size]; omega) (by decide) (fun j b hj => by
  have hm : b ∈ small26 := List.mem_of_getElem? hj
  have := small_is b
  rw [List.contains_iff_mem.2 hm] at this
  have h2 : 97 ≤ b.toNat ∧ b.toNat ≤ 122 := by simpa [smallB] using this.symm
  omega)).mono fun e w' ⟨h1, h2⟩ => ⟨_, h1, rfl, fun M => .below' h2 M⟩
theorem name_spec (s : List UInt8) (hs : s.length ≤ 140737488355328) (w0 : World) :
  Spec Tryz.prog 151 #[.string ⟨s.toArray⟩] w0 (fun v w => v = .bool (nameB s) ∧ ∀ M, Step M w0 M w none') := by
 refine spec_of (args := [_]) (fn := Tryz.f151) Tryz.func151 rfl (n := 15) Tryz.ntmps151 ?_
 refine T.seq ?_
 refine T.region ?_
 refine Rg.assign rfl rfl ?_
 refine Rg.nil ?_
 refine T.seq ?_
 refine T.region ?_
 refine Rg.move rfl rfl ?_
 refine Rg.strne (p := s) (q := []) rfl rfl rfl ?_
 refine Rg.move rfl rfl ?_
 refine Rg.gsplitp (g := 5) rfl (fun g1_2 => ?_) (fun g1_2 => ?_)
 ·refine Rg.gyes rfl rfl ?_
  refine Rg.move rfl rfl ?_
  refine Rg.gyes rfl rfl ?_
  refine Rg.lenstr Tryz.underlying9 rfl rfl ?_
  refine Rg.eqv (v' := .int .i64 (s.length : Int)) (by simp [ByteArray.size]) ?_
  refine Rg.gyes rfl rfl ?_
  refine Rg.ile rfl rfl rfl ?_
  refine Rg.pickt rfl rfl rfl ?_
  refine Rg.move rfl rfl ?_
  refine Rg.gsplitp (g := 10) rfl (fun g1_7 => ?_) (fun g1_7 => ?_)
  ·refine Rg.gyes rfl rfl ?_
   refine Rg.move rfl rfl ?_
   refine Rg.gyes rfl rfl ?_
   refine Rg.call rfl rfl E193 (trim_spec s hs _) (fun r w9 hc => ?_)
   obtain ⟨rfl, s9⟩ := hc
   refine Rg.gyes rfl rfl ?_
   refine Rg.streq (p := Lib.trimS s small26) (q := []) rfl rfl rfl ?_
   refine Rg.pickt rfl rfl rfl ?_
   refine Rg.assign rfl rfl ?_
   refine Rg.nil ?_
   refine T.ret ?_
   first
   |exact Kret1 rfl rfl ⟨by rw [nameB, decide_eq_true (p := 1 ≤ s.length ∧ s.length ≤ 12) ⟨List.length_pos_iff.2 g1_2, by omega⟩, Bool.true_and]; exact congrArg Value.bool (by rw [Bool.eq_iff_iff, decide_eq_true_eq]; exact trim_nil s), s9⟩
   |exact Kret1 rfl rfl ⟨by rw [nameB, decide_eq_false (p := 1 ≤ s.length ∧ s.length ≤ 12) (by omega), Bool.false_and], fun M => Step.refl _ _⟩
   |(have hs0 : s = [] := Classical.not_not.1 g1_2
     subst hs0
     exact Kret1 rfl rfl ⟨rfl, fun M => Step.refl _ _⟩)
  ·refine Rg.gno rfl rfl rfl rfl ?_
   refine Rg.gno rfl rfl rfl rfl ?_
   refine Rg.gno rfl rfl rfl rfl ?_
   refine Rg.pickf rfl rfl rfl ?_
   refine Rg.assign rfl rfl ?_
   refine Rg.nil ?_
   refine T.ret ?_
   first
   |exact Kret1 rfl rfl ⟨by rw [nameB, decide_eq_true (p := 1 ≤ s.length ∧ s.length ≤ 12) ⟨List.length_pos_iff.2 g1_2, by omega⟩, Bool.true_and]; exact congrArg Value.bool (by rw [Bool.eq_iff_iff, decide_eq_true_eq]; exact trim_nil s), s9⟩
   |exact Kret1 rfl rfl ⟨by rw [nameB, decide_eq_false (p := 1 ≤ s.length ∧ s.length ≤ 12) (by omega), Bool.false_and], fun M => Step.refl _ _⟩
   |(have hs0 : s = [] := Classical.not_not.1 g1_2
     subst hs0
     exact Kret1 rfl rfl ⟨rfl, fun M => Step.refl _ _⟩)
 ·refine Rg.gno rfl rfl rfl rfl ?_
  refine Rg.gno rfl rfl rfl rfl ?_
  refine Rg.gno rfl rfl rfl rfl ?_
  refine Rg.pickf rfl rfl rfl ?_
  refine Rg.move rfl rfl ?_
  refine Rg.gno rfl rfl rfl rfl ?_
  refine Rg.gno rfl rfl rfl rfl ?_
  refine Rg.gno rfl rfl rfl rfl ?_
  refine Rg.pickf rfl rfl rfl ?_
  refine Rg.assign rfl rfl ?_
  refine Rg.nil ?_
  refine T.ret ?_
  first
  |exact Kret1 rfl rfl ⟨by rw [nameB, decide_eq_true (p := 1 ≤ s.length ∧ s.length ≤ 12) ⟨List.length_pos_iff.2 g1_2, by omega⟩, Bool.true_and]; exact congrArg Value.bool (by rw [Bool.eq_iff_iff, decide_eq_true_eq]; exact trim_nil s), s9⟩
  |exact Kret1 rfl rfl ⟨by rw [nameB, decide_eq_false (p := 1 ≤ s.length ∧ s.length ≤ 12) (by omega), Bool.false_and], fun M => Step.refl _ _⟩
  |(have hs0 : s = [] := Classical.not_not.1 g1_2
    subst hs0
    exact Kret1 rfl rfl ⟨rfl, fun M => Step.refl _ _⟩)
theorem fd_val {M : PSet} {w : World} {p : Fd} {v : Value} (h : RT.fd.V M w p v) : v = .agg #[.string ⟨p.1.toArray⟩, .string ⟨p.2.toArray⟩] := by
 obtain ⟨vs, ⟨va, vb, rfl, ⟨rfl, _⟩, ⟨rfl, _⟩⟩, rfl⟩ := h
 rfl
theorem fd_len {M : PSet} {w : World} {p : Fd} {v : Value} (h : RT.fd.V M w p v) : p.1.length ≤ 140737488355328 ∧ p.2.length ≤ 140737488355328 := by
 obtain ⟨vs, ⟨va, vb, rfl, ⟨rfl, h1⟩, ⟨rfl, h2⟩⟩, _⟩ := h
 exact ⟨h1, h2⟩
def mayL : List Fd → List Fd → Nat → Int
 |_, [], n => if 500 < n then 7 else 0
 |seen, f :: fs, n => if nameB f.1 = false then 4 else if (seen.any fun g => decide (g.1 = f.1)) = true then 5 else if tokE 0 (words f.2) ≠ 0 then tokE 0 (words f.2) else mayL (seen ++ [f]) fs (n + (words f.2).length)
def mayD (d : Dc) : Int := if 8 < d.2.length then 7 else mayL [] d.2 0
theorem mayL_at {fs : List Fd} {i n : Nat} {x : Fd} (h : fs[i]? = some x) : mayL (fs.take i) (fs.drop i) n = if nameB x.1 = false then 4 else if ((fs.take i).any fun g => decide (g.1 = x.1)) = true then 5 else if tokE 0 (words x.2) ≠ 0 then tokE 0 (words x.2) else mayL (fs.take (i + 1)) (fs.drop (i + 1)) (n + (words x.2).length) := by
 have hlt := (List.getElem?_eq_some_iff.1 h).1
 rw [List.drop_eq_getElem_cons hlt, (List.getElem?_eq_some_iff.1 h).2, List.take_add_one, h]
 rfl
theorem mayL_end {fs : List Fd} {i n : Nat} (h : fs.length ≤ i) : mayL (fs.take i) (fs.drop i) n = if 500 < n then 7 else 0 := by
 rw [List.drop_of_length_le h]; rfl
theorem may1_spec {M : PSet} {o : Fd} {v0 : Value} (w0 : World) (hM : Lt M w0) (hv : RT.fd.V M w0 o v0) {nm : List UInt8} {t : Value} {bf : Nat} (g : w0.heap[bf]? = some (.cells #[.string ⟨nm.toArray⟩, t] 127 (0, 0))) (m_g : M bf) :
  Spec Tryz.prog 153 #[v0, .pointer (some ⟨bf, 0, none⟩)] w0 (fun v w => v = .bool (decide (o.1 = nm)) ∧ Step M w0 M w none') := by
 refine spec_of (args := [_, _]) (fn := Tryz.f153) Tryz.func153 rfl (n := 9) Tryz.ntmps153 ?_
 have S : Step M w0 M w0 none' := (Step.refl _ _).widen (fun _ h => h.elim) (fun _ h => h.elim)
 refine T.seq ?_
 refine T.region ?_
 refine Rg.boxp (A := RT.fd) rfl rfl hM hv rfl (fun u0 w1 hu0 s0 _ => ?_) --@step s0
 --@vf hu0*
 --@ptr RT.fd ;; o
 have := lt_of_get g
 replace m_g := (s0.mem _ this).2 m_g
 replace g := s0.same0 g
 replace hM := s0.lt hM
 have := S.size
 replace S := S.trans0 s0
 refine Rg.assign rfl rfl ?_
 refine Rg.nil ?_
 refine T.seq ?_
 refine T.region ?_
 refine Rg.fieldAddr (M := M) (A := RT.fd) (B := RT.str) Tryz.underlying127 rfl rfl I9 (by decide) (fd0) rfl rfl (by decide) (by assumption) (by repeat (first | exact Le.refl _ _ | refine Le.trans (Step.le (by assumption)) ?_)) (fun u1_0 hu1_0 => ?_)
 refine Rg.load (M := M) Tryz.underlying9 rfl rfl rfl rfl rfl hu1_0 (Le.refl _ _) (fun v1 hv1 => ?_)
 obtain rfl := V_strE hv1
 refine Rg.fieldc (o' := 0) Tryz.underlying127 rfl rfl I9 (by decide) rfl rfl ?_
 refine Rg.loadc Tryz.underlying9 rfl rfl rfl (by assumption) rfl ?_
 refine Rg.streq (p := o.1) (q := nm) rfl rfl rfl ?_
 refine Rg.assign rfl rfl ?_
 refine Rg.nil ?_
 refine T.ret ?_
 exact Kret1 rfl rfl ⟨rfl, S⟩
theorem mayix_spec {M : PSet} {fs : List Fd} {v0 : Value} (w0 : World) (hM : Lt M w0) (hv : (RT.fd.sl).V M w0 fs v0) {nm : List UInt8} {t : Value} {bf : Nat} (g : w0.heap[bf]? = some (.cells #[.string ⟨nm.toArray⟩, t] 127 (0, 0))) (m_g : M bf) :
  Spec Tryz.prog 194 #[v0, .func (.func 153) #[] #[.pointer (some ⟨bf, 0, none⟩)]] w0 (fun v w => (∃ k : Int, v = .int .i64 k ∧ (0 ≤ k ↔ (fs.any fun g => decide (g.1 = nm)) = true) ∧ -1 ≤ k ∧ k ≤ 9223372036854775807) ∧ Step M w0 M w none') := by
 have hfl := V_sl_len hv
 refine spec_of (args := [_, _]) (fn := Tryz.f194) Tryz.func194 rfl (n := 19) Tryz.ntmps194 ?_
 have S : Step M w0 M w0 none' := (Step.refl _ _).widen (fun _ h => h.elim) (fun _ h => h.elim)
 refine T.seq ?_
 refine T.region ?_
 refine Rg.assign rfl rfl ?_
 refine Rg.nil ?_
 refine T.seq ?_
 refine T.seq ?_
 refine T.region ?_
 refine Rg.move rfl rfl ?_
 refine Rg.lensl Tryz.underlying39 rfl hv rfl ?_
 refine Rg.move rfl rfl ?_
 refine Rg.nil ?_
 refine T.block ?_
 refine T.loop (σ := Nat) (fun i => [(0, v0), (1, .func (.func 153) #[] #[.pointer (some ⟨bf, 0, none⟩)]), (6, v0), (7, .int .i64 (fs.length : Int)), (8, .int .i64 (i : Int))]) (fun i w => Lt M w ∧ Step M w0 M w none' ∧ (w.heap[bf]? = some (.cells #[.string ⟨nm.toArray⟩, t] 127 (0, 0))) ∧ (RT.fd.sl).V M w fs v0 ∧ i ≤ fs.length ∧ ∀ k o, k < i → fs[k]? = some o → o.1 ≠ nm) (fun i => fs.length - i) 0 (.cons rfl (.cons rfl (.cons rfl (.cons rfl (.cons rfl .nil))))) ?_ ?_
 ·exact ⟨hM, S, g, hv, Nat.zero_le _, fun k c h => absurd h (Nat.not_lt_zero k)⟩
 ·rintro i w ⟨hM, S, g, hv, hi, hok⟩
  refine T.seq ?_
  refine T.region ?_
  refine Rg.ilt rfl rfl rfl ?_
  refine Rg.nil ?_
  refine T.seq ?_
  refine T.ifp rfl (fun c2 => ?_) (fun c2 => ?_)
  ·refine T.skip ?_
   refine T.seq ?_
   refine T.block ?_
   refine T.seq ?_
   refine T.region ?_
   refine Rg.move rfl rfl ?_
   refine Rg.assign rfl rfl ?_
   refine Rg.nil ?_
   refine T.seq ?_
   refine T.region ?_
   refine Rg.move rfl rfl ?_
   refine Rg.move rfl rfl ?_
   refine Rg.move rfl rfl ?_
   refine Rg.idx (M := M) Tryz.underlying39 I127 rfl rfl rfl hv (Le.refl _ _) (by omega) (fun u4 o hg4 hu4 => ?_) --@ptr RT.fd ;; o
   refine Rg.loadagg (M := M) (A := RT.fd) Tryz.underlying127 rfl I127 (by decide) rfl rfl rfl hu4 (Le.refl _ _) (fun v4 hv4 => ?_)
   rw [Int.toNat_natCast] at hg4
   refine Rg.callv (first := []) (captured := [.pointer (some ⟨bf, 0, none⟩)]) rfl rfl rfl E153 (may1_spec _ hM hv4 g m_g) (fun r5 w5 hc => ?_)
   obtain ⟨rfl, s5⟩ := hc --@step s5
   have := lt_of_get g
   replace m_g := (s5.mem _ this).2 m_g
   replace g := s5.same0 g
   replace hv := hv.le s5.le
   replace hM := s5.lt hM
   have := S.size
   replace S := S.trans0 s5
   refine Rg.nil ?_
   refine T.ifp rfl (fun c4 => ?_) (fun c4 => ?_)
   ·refine T.seq ?_
    refine T.region ?_
    refine Rg.move rfl rfl ?_
    refine Rg.assign rfl rfl ?_
    refine Rg.nil ?_
    refine T.ret ?_
    exact Kret1 rfl rfl ⟨⟨_, rfl, ⟨fun _ => List.any_eq_true.2 ⟨o, List.mem_of_getElem? hg4, by simpa using (by assumption)⟩, fun _ => by omega⟩, by omega, by omega⟩, S.back⟩
   ·refine T.skip ?_
    refine T.region ?_
    refine Rg.iadd rfl rfl rfl (by omega) ?_
    refine Rg.move rfl rfl ?_
    refine Rg.nil ?_
    refine ⟨rfl, i + 1, (.cons rfl (.cons rfl (.cons rfl (.cons rfl (.cons rfl .nil))))), ?_, ?_⟩
    ·exact ⟨hM, S, g, hv, by omega, fun k o' h hc => by
      rcases Nat.lt_or_ge k i with h2 | h2
      ·exact hok k o' h2 hc
      ·obtain rfl : k = i := by omega
       rw [hg4] at hc; cases hc; assumption⟩
    ·omega
  ·refine T.exit ?_
   refine T.seq ?_
   refine T.region ?_
   refine Rg.assign rfl rfl ?_
   refine Rg.nil ?_
   refine T.ret ?_
   exact Kret1 rfl rfl ⟨⟨-1, rfl, ⟨fun h => by omega, fun h => by
    obtain ⟨o, ho, he⟩ := List.any_eq_true.1 h
    obtain ⟨k, hk⟩ := List.mem_iff_getElem?.1 ho
    exact absurd (by simpa using he) (hok k o (by have := (List.getElem?_eq_some_iff.1 hk).1; omega) hk)⟩, by omega, by omega⟩, S.back⟩
theorem mayhas_spec {M : PSet} {fs : List Fd} {v0 : Value} (w0 : World) (hM : Lt M w0) (hv : (RT.fd.sl).V M w0 fs v0) {nm : List UInt8} {t : Value} {bf : Nat} (g : w0.heap[bf]? = some (.cells #[.string ⟨nm.toArray⟩, t] 127 (0, 0))) (m_g : M bf) :
  Spec Tryz.prog 152 #[v0, .func (.func 153) #[] #[.pointer (some ⟨bf, 0, none⟩)]] w0 (fun v w => v = .bool (fs.any fun g => decide (g.1 = nm)) ∧ Step M w0 M w none') := by
 refine spec_of (args := [_, _]) (fn := Tryz.f152) Tryz.func152 rfl (n := 9) Tryz.ntmps152 ?_
 have S : Step M w0 M w0 none' := (Step.refl _ _).widen (fun _ h => h.elim) (fun _ h => h.elim)
 refine T.seq ?_
 refine T.region ?_
 refine Rg.assign rfl rfl ?_
 refine Rg.nil ?_
 refine T.seq ?_
 refine T.region ?_
 refine Rg.move rfl rfl ?_
 refine Rg.move rfl rfl ?_
 refine Rg.call rfl rfl E194 (mayix_spec _ hM hv g m_g) (fun r1 w1 hc => ?_)
 obtain ⟨⟨k, rfl, hk, _⟩, s1⟩ := hc --@step s1
 have := lt_of_get g
 replace m_g := (s1.mem _ this).2 m_g
 replace g := s1.same0 g
 replace hv := hv.le s1.le
 replace hM := s1.lt hM
 have := S.size
 replace S := S.trans0 s1
 refine Rg.ige rfl rfl rfl ?_
 refine Rg.assign rfl rfl ?_
 refine Rg.nil ?_
 refine T.ret ?_
 exact Kret1 rfl rfl ⟨congrArg Value.bool (by rw [Bool.eq_iff_iff, decide_eq_true_eq]; exact hk), S⟩
theorem may_spec {M : PSet} {d : Dc} {v0 : Value} (w0 : World) (hM : Lt M w0) (hv : RT.dc.V M w0 d v0) (hl : ∀ f ∈ d.2, f.1.length ≤ 900000 ∧ f.2.length ≤ 900000) :
  Spec Tryz.prog 107 #[v0] w0 (fun v w => v = .int .i64 (mayD d) ∧ Step M w0 M w none') := by
 have hM0 := hM
 refine spec_of (args := [_]) (fn := Tryz.f107) Tryz.func107 rfl (n := 49) Tryz.ntmps107 ?_
 have S : Step M w0 M w0 none' := (Step.refl _ _).widen (fun _ h => h.elim) (fun _ h => h.elim)
 refine T.seq ?_
 refine T.region ?_
 refine Rg.boxp (A := RT.dc) rfl rfl hM hv rfl (fun u0 w1 hu0 s0 _ => ?_) --@step s0
 --@vf hu0*
 --@ptr RT.dc ;; d
 replace hM := s0.lt hM
 have := S.size
 replace S := S.trans0 s0
 refine Rg.assign rfl rfl ?_
 refine Rg.nil ?_
 refine T.seq ?_
 refine T.seq ?_
 refine T.region ?_
 refine Rg.fieldAddr (M := M) (A := RT.dc) (B := (RT.fd).sl) Tryz.underlying41 rfl rfl I39 (by decide) (dc1) rfl rfl (by decide) (by assumption) (by repeat (first | exact Le.refl _ _ | refine Le.trans (Step.le (by assumption)) ?_)) (fun u1_0 hu1_0 => ?_)
 refine Rg.load (M := M) Tryz.underlying39 rfl rfl rfl rfl rfl (by assumption) (by repeat (first | exact Le.refl _ _ | refine Le.trans (Step.le (by assumption)) ?_)) (fun v1_1 hv1_1 => ?_)
 refine Rg.lensl Tryz.underlying39 rfl hv1_1 rfl ?_
 refine Rg.igt rfl rfl rfl ?_
 refine Rg.nil ?_
 refine T.ifp rfl (fun c1 => ?_) (fun c1 => ?_)
 ·refine T.seq ?_
  refine T.region ?_
  refine Rg.assign rfl rfl ?_
  refine Rg.nil ?_
  refine T.ret ?_
  exact Kret1 rfl rfl ⟨by rw [mayD, if_pos (by omega)], S.back⟩
 ·refine T.skip ?_
  refine T.seq ?_
  refine T.region ?_
  refine Rg.assign rfl rfl ?_
  refine Rg.nil ?_
  refine T.seq ?_
  refine T.seq ?_
  refine T.region ?_
  refine Rg.fieldAddr (M := M) (A := RT.dc) (B := (RT.fd).sl) Tryz.underlying41 rfl rfl I39 (by decide) (dc1) rfl rfl (by decide) (by assumption) (by repeat (first | exact Le.refl _ _ | refine Le.trans (Step.le (by assumption)) ?_)) (fun u4_0 hu4_0 => ?_)
  refine Rg.load (M := M) Tryz.underlying39 rfl rfl rfl rfl rfl (by assumption) (by repeat (first | exact Le.refl _ _ | refine Le.trans (Step.le (by assumption)) ?_)) (fun v4_1 hv4_1 => ?_)
  refine Rg.lensl Tryz.underlying39 rfl hv4_1 rfl ?_
  refine Rg.move rfl rfl ?_
  refine Rg.nil ?_
  refine T.block ?_
  refine T.loop (σ := Nat × Nat) (fun q => [(1, u0), (3, .int .i64 (q.2 : Int)), (13, v4_1), (14, .int .i64 (d.2.length : Int)), (15, .int .i64 (q.1 : Int))]) (fun q w => ∃ M', Lt M' w ∧ Step M w0 M' w none' ∧ PtrTo RT.dc M' w u0 d ∧ (RT.fd.sl).V M' w d.2 v4_1 ∧ mayD d = mayL (d.2.take q.1) (d.2.drop q.1) q.2 ∧ q.1 ≤ d.2.length ∧ q.2 ≤ 900001 * q.1) (fun q => d.2.length - q.1) (0, 0) (.cons rfl (.cons rfl (.cons rfl (.cons rfl (.cons rfl .nil))))) ?_ ?_
  ·exact ⟨M, hM, S, hu0, hv4_1, by rw [mayD, if_neg (by omega)]; rfl, Nat.zero_le _, Nat.le_refl _⟩
  ·rintro ⟨i, n⟩ w ⟨M1, hM, S, hu0, hvs, hmd, hi, hn⟩
   dsimp only at hmd hi hn ⊢
   refine T.seq ?_
   refine T.region ?_
   refine Rg.ilt rfl rfl rfl ?_
   refine Rg.nil ?_
   refine T.seq ?_
   refine T.ifp rfl (fun c5 => ?_) (fun c5 => ?_)
   ·refine T.skip ?_
    refine T.seq ?_
    refine T.block ?_
    refine T.seq ?_
    refine T.region ?_
    refine Rg.move rfl rfl ?_
    refine Rg.idx (M := M1) Tryz.underlying39 I127 rfl rfl rfl hvs (Le.refl _ _) (by omega) (fun u6 x hg6 hu6 => ?_) --@ptr RT.fd ;; x
    refine Rg.loadagg (M := M1) (A := RT.fd) Tryz.underlying127 rfl I127 (by decide) rfl rfl rfl hu6 (Le.refl _ _) (fun v6 hv6 => ?_)
    rw [Int.toNat_natCast] at hg6
    obtain rfl := fd_val hv6
    have hst := mayL_at (n := n) hg6
    have hxl := hl _ (List.mem_of_getElem? hg6)
    refine Rg.alloc M1 I127 rfl (fun b6_3 w6_3 p6_3 q6_3 g6_3 s6_3 => ?_)
    obtain ⟨M_6_3, eM_6_3⟩ : ∃ M', M' = ins M1 b6_3 := ⟨_, rfl⟩
    rw [← eM_6_3] at s6_3
    have m_g6_3 : M_6_3 b6_3 := by rw [eM_6_3]; exact .inl rfl
    change w6_3.heap[b6_3]? = some (.cells #[.string ⟨#[]⟩, .string ⟨#[]⟩] _ _) at g6_3
    replace hu0 := hu0.le (by decide) s6_3.le
    replace hvs := hvs.le s6_3.le
    replace hM := s6_3.lt hM
    have := S.size
    replace S := S.trans0 s6_3
    refine Rg.assign rfl rfl ?_
    refine Rg.storeaggc (M := M_6_3) (vs := [.string ⟨x.1.toArray⟩, .string ⟨x.2.toArray⟩]) I127 rfl rfl (by intro u hu; simp at hu; rcases hu with rfl | rfl <;> rfl) rfl rfl g6_3 m_g6_3 (fun w6 g6 s6 => ?_) --@wrote s6 g6_3 g6
    have := lt_of_get g6_3
    replace m_g6_3 := (s6.mem _ this).2 m_g6_3
    replace hu0 := hu0.le (by decide) s6.le
    replace hvs := hvs.le s6.le
    replace hM := s6.lt hM
    have := S.size
    replace S := S.trans s6 (fun k hk h => by have h : _ = _ := h; subst h; first | (exfalso; omega) | (show _ ≤ _; omega) | exact ⟨by omega, (S.mem _ hk).1 ((s6.mem _ (lt_of_get g6_3)).1 m_g6_3)⟩ | exact .inl rfl | exact .inr rfl | exact .inr (.inl rfl) | exact .inr (.inr rfl) | exact rfl)
    have g6_3_ := g6
    clear g6_3
    have g6_3 := g6_3_
    clear g6_3_
    refine Rg.nil ?_
    refine T.seq ?_
    refine T.region ?_
    refine Rg.fieldc (o' := 1) Tryz.underlying127 rfl rfl I9 (by decide) rfl rfl ?_
    refine Rg.loadc Tryz.underlying9 rfl rfl rfl (by assumption) rfl ?_
    refine Rg.call rfl rfl E150 (toks_spec _ hM hxl.2) (fun r7 w7 hc => ?_)
    obtain ⟨⟨u7, rfl, hu7⟩, s7⟩ := hc --@step s7
    have := lt_of_get g6_3
    replace m_g6_3 := (s7.mem _ this).2 m_g6_3
    replace g6_3 := s7.same0 g6_3
    replace hu0 := hu0.le (by decide) s7.le
    replace hvs := hvs.le s7.le
    replace hM := s7.lt hM
    have := S.size
    replace S := S.trans0 s7
    refine Rg.move rfl rfl ?_
    refine Rg.extract rfl rfl rfl ?_
    refine Rg.extract rfl rfl rfl ?_
    refine Rg.assign rfl rfl ?_
    refine Rg.assign rfl rfl ?_
    refine Rg.nil ?_
    refine T.seq ?_
    refine T.block ?_
    refine T.seq ?_
    refine T.region ?_
    refine Rg.fieldc (o' := 0) Tryz.underlying127 rfl rfl I9 (by decide) rfl rfl ?_
    refine Rg.loadc Tryz.underlying9 rfl rfl rfl (by assumption) rfl ?_
    refine Rg.call rfl rfl E151 (name_spec x.1 (by omega) _) (fun r8 w8 hc => ?_)
    obtain ⟨rfl, s8_⟩ := hc
    have s8 := s8_ M_6_3 --@step s8
    have := lt_of_get g6_3
    replace m_g6_3 := (s8.mem _ this).2 m_g6_3
    replace g6_3 := s8.same0 g6_3
    replace hu0 := hu0.le (by decide) s8.le
    replace hvs := hvs.le s8.le
    replace hM := s8.lt hM
    have := S.size
    replace S := S.trans0 s8
    refine Rg.not rfl rfl ?_
    refine Rg.eqv (v' := .bool (decide (nameB x.1 = false))) (by cases nameB x.1 <;> rfl) ?_
    refine Rg.assign rfl rfl ?_
    refine Rg.nil ?_
    refine T.ifp rfl (fun c8 => ?_) (fun c8 => ?_)
    ·refine T.seq ?_
     refine T.region ?_
     refine Rg.assign rfl rfl ?_
     refine Rg.nil ?_
     refine T.ret ?_
     exact Kret1 rfl rfl ⟨by rw [hmd, hst, if_pos (by assumption)], S.back⟩
    ·refine T.seq ?_
     refine T.region ?_
     refine Rg.fieldAddr (M := M_6_3) (A := RT.dc) (B := (RT.fd).sl) Tryz.underlying41 rfl rfl I39 (by decide) (dc1) rfl rfl (by decide) (by assumption) (by repeat (first | exact Le.refl _ _ | refine Le.trans (Step.le (by assumption)) ?_)) (fun u10_0 hu10_0 => ?_)
     refine Rg.load (M := M_6_3) Tryz.underlying39 rfl rfl rfl rfl rfl (by assumption) (by repeat (first | exact Le.refl _ _ | refine Le.trans (Step.le (by assumption)) ?_)) (fun v10_1 hv10_1 => ?_)
     refine Rg.move rfl rfl ?_
     refine Rg.slice_h Tryz.underlying39 I127 rfl rfl rfl hv10_1 (by omega) (fun u10 hu10 => ?_)
     rw [Int.toNat_natCast] at hu10
     refine Rg.makeFunc (xs := []) (ys := [.tmp 5]) rfl rfl rfl ?_
     refine Rg.call rfl rfl E152 (mayhas_spec _ hM hu10 g6_3 m_g6_3) (fun r10 w10 hc => ?_)
     obtain ⟨rfl, s10⟩ := hc --@step s10
     have := lt_of_get g6_3
     replace m_g6_3 := (s10.mem _ this).2 m_g6_3
     replace g6_3 := s10.same0 g6_3
     replace hu0 := hu0.le (by decide) s10.le
     replace hvs := hvs.le s10.le
     replace hM := s10.lt hM
     have := S.size
     replace S := S.trans0 s10
     refine Rg.assign rfl rfl ?_
     refine Rg.eqv (v' := .bool (decide (((d.2.take i).any fun g => decide (g.1 = x.1)) = true))) (by cases ((d.2.take i).any fun g => decide (g.1 = x.1)) <;> rfl) ?_
     refine Rg.nil ?_
     refine T.ifp rfl (fun c10 => ?_) (fun c10 => ?_)
     ·refine T.seq ?_
      refine T.region ?_
      refine Rg.assign rfl rfl ?_
      refine Rg.nil ?_
      refine T.ret ?_
      exact Kret1 rfl rfl ⟨by rw [hmd, hst, if_neg (by assumption), if_pos (by assumption)], S.back⟩
     ·refine T.seq ?_
      refine T.region ?_
      refine Rg.move rfl rfl ?_
      refine Rg.ine rfl rfl rfl ?_
      refine Rg.assign rfl rfl ?_
      refine Rg.nil ?_
      refine T.ifp rfl (fun c12 => ?_) (fun c12 => ?_)
      ·refine T.seq ?_
       refine T.region ?_
       refine Rg.move rfl rfl ?_
       refine Rg.assign rfl rfl ?_
       refine Rg.nil ?_
       refine T.ret ?_
       exact Kret1 rfl rfl ⟨by rw [hmd, hst, if_neg (by assumption), if_neg (by assumption), if_pos (by assumption)]; rfl, S.back⟩
      ·refine T.skip ?_
       refine T.region ?_
       refine Rg.move rfl rfl ?_
       have htk : tokE 0 (words x.2) = 0 := Classical.not_not.1 c12
       obtain ⟨a, cap, rfl⟩ := hu7 htk
       have hwl := words_len x.2
       refine Rg.move rfl rfl ?_
       refine Rg.lenraw Tryz.underlying222 rfl rfl ?_
       refine Rg.iadd rfl rfl rfl (by omega) ?_
       refine Rg.assign rfl rfl ?_
       refine Rg.nil ?_
       refine T.region ?_
       refine Rg.iadd rfl rfl rfl (by omega) ?_
       refine Rg.move rfl rfl ?_
       refine Rg.nil ?_
       refine ⟨rfl, (i + 1, n + (words x.2).length), (.cons rfl (.cons rfl (.cons rfl (.cons rfl (.cons rfl .nil))))), ?_, ?_⟩
       ·exact ⟨_, hM, S, hu0, hvs, by rw [hmd, hst, if_neg (by assumption), if_neg (by assumption), if_neg c12], by dsimp only; omega, by dsimp only; omega⟩
       ·dsimp only; omega
   ·refine T.exit ?_
    refine T.seq ?_
    refine T.seq ?_
    refine T.region ?_
    refine Rg.move rfl rfl ?_
    refine Rg.igt rfl rfl rfl ?_
    refine Rg.nil ?_
    refine T.ifp rfl (fun c16 => ?_) (fun c16 => ?_)
    ·refine T.seq ?_
     refine T.region ?_
     refine Rg.assign rfl rfl ?_
     refine Rg.nil ?_
     refine T.ret ?_
     exact Kret1 rfl rfl ⟨by rw [hmd, mayL_end (by omega), if_pos (by omega)], S.back⟩
    ·refine T.skip ?_
     refine T.seq ?_
     refine T.region ?_
     refine Rg.assign rfl rfl ?_
     refine Rg.nil ?_
     refine T.ret ?_
     exact Kret1 rfl rfl ⟨by rw [hmd, mayL_end (by omega), if_neg (by omega)], S.back⟩
end Go.K
namespace Go.K
open Go.Proofs
set_option linter.unusedVariables false
set_option linter.unusedSimpArgs false
set_option maxRecDepth 10000
theorem name_len {s : List UInt8} (h : nameB s = true) : s.length ≤ 12 := by
 simp only [nameB, Bool.and_eq_true, decide_eq_true_eq] at h; omega
end Go.K
namespace Go.K
set_option linter.unusedVariables false
set_option linter.unusedSimpArgs false
open Go.Maps (Keyed)
structure MapW (P : Program) (kt : TypeId) (w : World) (b : Nat) (es : List MapEntry) (clock : Nat) : Prop where
 at_ : w.heap[b]? = some (.map es.toArray clock)
 born : es.Pairwise fun x y => x.born ≠ y.born
 lt : ∀ e ∈ es, e.born < clock
 keys : es.Pairwise fun x y => x.key ≠ y.key
 ok : ∀ e ∈ es, ∃ l, keyOf P kt e.key = some l
def ValAt (zv : Value) (es : List MapEntry) (key v : Value) : Prop := (∃ e ∈ es, e.key = key ∧ v = e.val) ∨ ((∀ e ∈ es, e.key ≠ key) ∧ v = zv)
section
variable {P : Program} {kt : TypeId} {w : World} {b clock : Nat} {es : List MapEntry}
theorem MapW.step {M M' N : PSet} {w' : World} (h : MapW P kt w b es clock) (s : Step M w M' w' N) (hn : ¬ N b) : MapW P kt w' b es clock := ⟨s.keep h.at_ hn, h.born, h.lt, h.keys, h.ok⟩
theorem MapW.step0 {M M' : PSet} {w' : World} (h : MapW P kt w b es clock) (s : Step M w M' w' none') : MapW P kt w' b es clock := h.step s fun h => h
theorem pair_idx {α : Type} {R : α → α → Prop} {l : List α} (h : l.Pairwise R) {i j : Nat} {x y : α} (hi : l[i]? = some x) (hj : l[j]? = some y) (hij : i < j) : R x y := by
 obtain ⟨h1, h2⟩ := List.getElem?_eq_some_iff.1 hi
 obtain ⟨h3, h4⟩ := List.getElem?_eq_some_iff.1 hj
 have := List.pairwise_iff_getElem.1 h i j h1 h3 hij
 rwa [h2, h4] at this
theorem MapW.key_one (h : MapW P kt w b es clock) {x y : MapEntry} (hx : x ∈ es) (hy : y ∈ es) (e : x.key = y.key) : x = y := by
 obtain ⟨i, hi⟩ := List.mem_iff_getElem?.1 hx
 obtain ⟨j, hj⟩ := List.mem_iff_getElem?.1 hy
 rcases Nat.lt_trichotomy i j with h1 | h1 | h1
 ·exact absurd e (pair_idx h.keys hi hj h1)
 ·subst h1; rw [hi] at hj; exact Option.some.inj hj
 ·exact absurd e.symm (pair_idx h.keys hj hi h1)
theorem MapW.born_one (h : MapW P kt w b es clock) {i j : Nat} {x y : MapEntry} (hi : es[i]? = some x) (hj : es[j]? = some y) (e : x.born = y.born) : i = j := by
 rcases Nat.lt_trichotomy i j with h1 | h1 | h1
 ·exact absurd e (pair_idx h.born hi hj h1)
 ·exact h1
 ·exact absurd e.symm (pair_idx h.born hj hi h1)
theorem MapW.val_one (h : MapW P kt w b es clock) {zv key v v' : Value} (h1 : ValAt zv es key v) (h2 : ValAt zv es key v') : v = v' := by
 rcases h1 with ⟨e, he, hk, hv⟩ | ⟨hn, hv⟩
 ·rcases h2 with ⟨e', he', hk', hv'⟩ | ⟨hn', _⟩
  ·have := h.key_one he he' (hk.trans hk'.symm)
   rw [hv, hv', this]
  ·exact absurd hk (hn' e he)
 ·rcases h2 with ⟨e', he', hk', _⟩ | ⟨_, hv'⟩
  ·exact absurd hk' (hn e' he')
  ·rw [hv, hv']
theorem run_getObj_map' {r : Nat} {a : Array MapEntry} {c : Nat} (hb : w.heap[r]? = some (.map a c)) : (getObj r).run P w = .ok (.map a c) w := by simp [getObj, Sem.run, hb]
theorem run_setObj_map {r : Nat} {a : Array MapEntry} {c : Nat} {o : Obj} (hb : w.heap[r]? = some (.map a c)) : (setObj r o).run P w = .ok () { w with heap := w.heap.setIfInBounds r o } := by simp [setObj, Sem.run, hb]
theorem MapW.push (h : MapW P kt w b es clock) {key v : Value} {kl : Lit} (hkey : keyOf P kt key = some kl) (hn : ∀ e ∈ es, e.key ≠ key) {w' : World} (hw : w'.heap[b]? = some (.map (es ++ ([⟨key, v, clock⟩] : List MapEntry)).toArray (clock + 1))) : MapW P kt w' b (es ++ [⟨key, v, clock⟩]) (clock + 1) :=
 ⟨hw, List.pairwise_append.2 ⟨h.born, List.pairwise_singleton _ _, fun x hx y hy => by rw [List.mem_singleton.1 hy]; have := h.lt x hx; show x.born ≠ clock; omega⟩, (fun e he => by
  rcases List.mem_append.1 he with he | he
  ·have := h.lt e he; omega
  ·rw [List.mem_singleton.1 he]; exact Nat.lt_succ_self _), List.pairwise_append.2 ⟨h.keys, List.pairwise_singleton _ _, fun x hx y hy => by rw [List.mem_singleton.1 hy]; exact hn x hx⟩, (fun e he => by
  rcases List.mem_append.1 he with he | he
  ·exact h.ok e he
  ·rw [List.mem_singleton.1 he]; exact ⟨kl, hkey⟩)⟩
theorem ValAt.push {zv key : Value} {s : Nat} (hn : ∀ e ∈ es, e.key ≠ key) (key' v' : Value) : ValAt zv (es ++ [⟨key, zv, s⟩]) key' v' ↔ ValAt zv es key' v' := by
 constructor
 ·rintro (⟨e, he, hk, hv⟩ | ⟨h1, h2⟩)
  ·rcases List.mem_append.1 he with he | he
   ·exact .inl ⟨e, he, hk, hv⟩
   ·rw [List.mem_singleton.1 he] at hk hv
    exact .inr ⟨fun e he => by rw [← hk]; exact hn e he, hv⟩
  ·exact .inr ⟨fun e he => h1 e (List.mem_append_left _ he), h2⟩
 ·rintro (⟨e, he, hk, hv⟩ | ⟨h1, h2⟩)
  ·exact .inl ⟨e, List.mem_append_left _ he, hk, hv⟩
  ·by_cases hk : key = key'
   ·exact .inl ⟨⟨key, zv, s⟩, by simp, hk, h2⟩
   ·exact .inr ⟨fun e he => by
     rcases List.mem_append.1 he with he | he
     ·exact h1 e he
     ·rw [List.mem_singleton.1 he]; exact hk, h2⟩
end
section
variable {P : Program} {r : Option Nat} {n : Nat} {L : Sl} {ds : List Deferred} {w : World} {K : Kt} {ops : Array Oper} {rest : List Oper} {d : Nat} {x y z : Operand} {ty : TypeId} {pos : String} {af : Array Edge}
variable {kt : TypeId} {M : PSet} {b clock : Nat} {es : List MapEntry}
theorem Rg.makeMapW {t e : TypeId} (M : PSet) (ht : P.underlying t = some (.map kt e)) (hd : Nat.blt d n = true)
  (k : ∀ b w', w.heap.size ≤ b → b < w'.heap.size → MapW P kt w' b [] 0 → Step M w (ins M b) w' none' → Rg P r n ops rest ((d, .map (some b)) :: L) ds w' K) :
  Rg P r n ops ({ dst := some d, op := .makeMap t none, type := ty, pos, after := af, guard := none } :: rest) L ds w K := by
 refine .op (fun _ h => by cases h) rfl rfl hd (.map (some w.heap.size)) (w.alloc (.map #[] 0)) (fun ρ hρ => ?_) (k w.heap.size _ (Nat.le_refl _) (by simp) ⟨heap_alloc_at w _, List.Pairwise.nil, (fun e he => by cases he), List.Pairwise.nil, (fun e he => by cases he)⟩ ((step_alloc M w _).own (Nat.le_refl _) (by simp)))
 simp only [execOp]
 simp [Instr.makeMap, newObj, Sem.run, run_underlying ht]
theorem Rg.mapEntry {t e : TypeId} {zv key : Value} {size bytes : Nat} {kl : Lit} (ht : P.underlying t = some (.map kt e)) (Kk : Keyed P kt) (hi : TI P e zv size bytes) (hx : ev L x = some (.map (some b))) (hy : ev L y = some key) (hd : Nat.blt d n = true) (hkey : keyOf P kt key = some kl) (h : MapW P kt w b es clock) (hm : M b)
  (k : ∀ w' es' clock' v s, MapW P kt w' b es' clock' → ValAt zv es key v → (⟨key, v, s⟩ : MapEntry) ∈ es' → (∀ key' v', ValAt zv es' key' v' ↔ ValAt zv es key' v') → ((es'.map (·.key) = es.map (·.key) ∧ ∃ e ∈ es, e.key = key) ∨ (es'.map (·.key) = es.map (·.key) ++ [key] ∧ ∀ e ∈ es, e.key ≠ key)) → Step M w M w' (fun k => k = b) → Rg P r n ops rest ((d, .tuple #[v, .int .i64 (s : Nat)]) :: L) ds w' K) :
  Rg P r n ops ({ dst := some d, op := .mapEntry t x y, type := ty, pos, after := af, guard := none } :: rest) L ds w K := by
 have hlt := lt_of_get h.at_
 rcases Kk.find w hkey es h.ok with ⟨h1, h2⟩ | ⟨j, e0, h1, h2, h3⟩
 ·obtain ⟨inf, i1, i2, _, _⟩ := hi.get
  have hz : (zeroValue e).run P w = .ok zv w := by simp [zeroValue, typeInfo, i1, i2]
  have hw : ({ w with heap := w.heap.setIfInBounds b (.map (es.toArray.push ⟨key, zv, clock⟩) (clock + 1)) } : World).heap[b]? = some (.map (es ++ ([⟨key, zv, clock⟩] : List MapEntry)).toArray (clock + 1)) := by
   simp [Array.getElem?_setIfInBounds, hlt]
  refine .op (fun _ h => by cases h) rfl rfl hd _ _ (fun ρ hρ => ?_) (k _ _ _ zv clock (h.push hkey h2 hw) (Or.inr ⟨h2, rfl⟩) (by simp) (ValAt.push h2) (Or.inr ⟨by simp, h2⟩) (step_setObj M hm))
  simp only [execOp, hρ x _ hx, hρ y _ hy, Instr.mapEntry, Sem.run_bind, run_underlying ht, Result.andThen_ok, run_getObj_map' h.at_, Kk.check w false hkey, h1, hz, run_setObj_map h.at_]
  simp [goInt]
 ·have he : e0 ∈ es := List.mem_of_getElem? h2
  have hmod : es.toArray.modify j (fun e => { e with key := key }) = es.toArray := by
   apply Array.ext_getElem?
   intro i
   rw [Array.getElem?_modify]
   split
   ·rename_i hji
    subst hji
    simp only [List.getElem?_toArray, h2, Option.map_some]
    rw [← h3]
   ·rfl
  have hw : ({ w with heap := w.heap.setIfInBounds b (.map es.toArray clock) } : World).heap[b]? = some (.map es.toArray clock) := by simp [Array.getElem?_setIfInBounds, hlt]
  have hj : es.toArray[j]? = some e0 := by simpa using h2
  have hst : (Instr.keyThatStays ((Option.map (fun (e : MapEntry) => e.key) es.toArray[j]?).getD key) key).run P w = .ok key w := by
   rw [hj]; simp only [Option.map_some, Option.getD_some, h3]; exact Kk.stays w hkey
  refine .op (fun _ h => by cases h) rfl rfl hd _ _ (fun ρ hρ => ?_) (k _ es clock e0.val e0.born ⟨hw, h.born, h.lt, h.keys, h.ok⟩ (Or.inl ⟨e0, he, h3, rfl⟩) (by rw [← h3]; exact he) (fun _ _ => Iff.rfl) (Or.inl ⟨rfl, e0, he, h3⟩) (step_setObj M hm))
  simp only [execOp, hρ x _ hx, hρ y _ hy, Instr.mapEntry, Sem.run_bind, run_underlying ht, Result.andThen_ok, run_getObj_map' h.at_, Kk.check w false hkey, h1, hst, hmod, run_setObj_map h.at_]
  simp [goInt, hj]
theorem Rg.entryStore {t : TypeId} {key v0 val : Value} {s : Nat} (hx : ev L x = some (.map (some b))) (hy : ev L y = some (.int .i64 (s : Int))) (hz : ev L z = some val) (h : MapW P kt w b es clock) (hm : M b) (hin : (⟨key, v0, s⟩ : MapEntry) ∈ es)
  (k : ∀ w' es', MapW P kt w' b es' clock → es'.map (·.key) = es.map (·.key) → (∀ zv key' v', ValAt zv es' key' v' ↔ (key' = key ∧ v' = val) ∨ (key' ≠ key ∧ ValAt zv es key' v')) → Step M w M w' (fun k => k = b) → Rg P r n ops rest L ds w' K) :
  Rg P r n ops ({ dst := none, op := .entryStore t x y z, type := ty, pos, after := af, guard := none } :: rest) L ds w K := by
 have hlt := lt_of_get h.at_
 obtain ⟨i, hi⟩ := List.mem_iff_getElem?.1 hin
 have hil := (List.getElem?_eq_some_iff.1 hi).1
 have hidx : es.toArray.findIdx? (fun e => (e.born : Int) == (s : Int)) = some i := by
  rw [List.findIdx?_toArray, List.findIdx?_eq_some_iff_getElem]
  refine ⟨hil, by rw [(List.getElem?_eq_some_iff.1 hi).2]; simp, fun j hj => ?_⟩
  have hjl : j < es.length := by omega
  have := fun e => h.born_one (List.getElem?_eq_getElem hjl) hi e
  simp only [Bool.not_eq_true, beq_eq_false_iff_ne, ne_eq]
  intro e
  have e2 : ((es[j]).born : Int) = (s : Int) := by simpa using e
  have := this (by show (es[j]).born = s; omega)
  omega
 obtain ⟨es', hes'⟩ : ∃ es', es' = es.set i ⟨key, val, s⟩ := ⟨_, rfl⟩
 have hmod : es.toArray.modify i (fun e => { e with val := val }) = es'.toArray := by
  apply Array.ext_getElem?
  intro j
  rw [Array.getElem?_modify, hes']
  simp only [List.getElem?_toArray, List.getElem?_set]
  split
  ·rename_i hji
   subst hji
   rw [hi]; simp
  ·rfl
 have hget : ∀ j e', es'[j]? = some e' → (j = i ∧ e' = ⟨key, val, s⟩) ∨ (j ≠ i ∧ es[j]? = some e') := fun j e' hj => by
  rw [hes', List.getElem?_set] at hj
  split at hj
  ·rename_i hij
   left; exact ⟨hij.symm, by simpa [hil] using hj.symm⟩
  ·rename_i hij
   exact .inr ⟨fun e => hij e.symm, hj⟩
 have hkeys : es'.map (·.key) = es.map (·.key) := by
  rw [hes', List.map_set]
  apply List.ext_getElem?
  intro j
  rw [List.getElem?_set]
  split
  ·rename_i hij
   subst hij
   have e := (List.getElem?_eq_some_iff.1 hi).2
   simp [hil, e]
  ·rfl
 have hborn : es'.map (·.born) = es.map (·.born) := by
  rw [hes', List.map_set]
  apply List.ext_getElem?
  intro j
  rw [List.getElem?_set]
  split
  ·rename_i hij
   subst hij
   have e := (List.getElem?_eq_some_iff.1 hi).2
   simp [hil, e]
  ·rfl
 have hw : ({ w with heap := w.heap.setIfInBounds b (.map es'.toArray clock) } : World).heap[b]? = some (.map es'.toArray clock) := by simp [Array.getElem?_setIfInBounds, hlt]
 have hmem : ∀ e' ∈ es', (e' = ⟨key, val, s⟩) ∨ (e' ∈ es ∧ e'.key ≠ key) := fun e' he' => by
  obtain ⟨j, hj⟩ := List.mem_iff_getElem?.1 he'
  rcases hget j e' hj with ⟨_, e⟩ | ⟨hne, hj2⟩
  ·exact .inl e
  ·refine .inr ⟨List.mem_of_getElem? hj2, fun e => hne ?_⟩
   rcases Nat.lt_trichotomy j i with h1 | h1 | h1
   ·exact absurd e (pair_idx h.keys hj2 hi h1)
   ·exact h1
   ·exact absurd e.symm (pair_idx h.keys hi hj2 h1)
 have hnew : (⟨key, val, s⟩ : MapEntry) ∈ es' := List.mem_of_getElem? (i := i) (by rw [hes', List.getElem?_set]; simp [hil])
 have hold : ∀ e' ∈ es, e'.key ≠ key → e' ∈ es' := fun e' he' hne => by
  obtain ⟨j, hj⟩ := List.mem_iff_getElem?.1 he'
  refine List.mem_of_getElem? (i := j) ?_
  rw [hes', List.getElem?_set, if_neg]
  ·exact hj
  ·rintro rfl
   rw [hi] at hj; cases hj; exact hne rfl
 have hW : MapW P kt { w with heap := w.heap.setIfInBounds b (.map es'.toArray clock) } b es' clock := by
  refine ⟨hw, ?_, fun e' he' => ?_, ?_, fun e' he' => ?_⟩
  ·have := List.pairwise_map.2 h.born
   rw [← hborn] at this; exact List.pairwise_map.1 this
  ·rcases hmem e' he' with e | ⟨h1, _⟩
   ·rw [e]; exact (h.lt _ hin : s < clock)
   ·exact h.lt _ h1
  ·have := List.pairwise_map.2 h.keys
   rw [← hkeys] at this; exact List.pairwise_map.1 this
  ·rcases hmem e' he' with e | ⟨h1, _⟩
   ·rw [e]; exact (h.ok _ hin : ∃ l, keyOf P kt key = some l)
   ·exact h.ok _ h1
 refine .opu (fun _ h => by cases h) rfl rfl _ (fun ρ hρ => ?_) (k _ es' hW hkeys (fun zv key' v' => ?_) (step_setObj M hm))
 ·simp only [execOp, hρ x _ hx, hρ y _ hy, hρ z _ hz, Instr.entryStore, Sem.run_bind, run_getObj_map' h.at_, Result.andThen_ok, asInt, asIntOf, Sem.run_pure, hidx, hmod, run_setObj_map h.at_]
 ·constructor
  ·rintro (⟨e', he', hk, hv⟩ | ⟨h1, h2⟩)
   ·rcases hmem e' he' with e | ⟨h3, h4⟩
    ·subst e; exact .inl ⟨hk.symm, hv⟩
    ·exact .inr ⟨by rw [← hk]; exact h4, .inl ⟨e', h3, hk, hv⟩⟩
   ·have hne : key' ≠ key := fun e => h1 _ hnew e.symm
    exact .inr ⟨hne, .inr ⟨fun e' he' => fun e => by
     by_cases h5 : e'.key = key
     ·exact hne (e.symm.trans h5)
     ·exact h1 e' (hold e' he' h5) e, h2⟩⟩
  ·rintro (⟨rfl, rfl⟩ | ⟨hne, ⟨e', he', hk, hv⟩ | ⟨h1, h2⟩⟩)
   ·exact .inl ⟨_, hnew, rfl, rfl⟩
   ·exact .inl ⟨e', hold e' he' (by rw [hk]; exact hne), hk, hv⟩
   ·exact .inr ⟨fun e' he' => by
     rcases hmem e' he' with e | ⟨h3, _⟩
     ·rw [e]; exact fun e => hne e.symm
     ·exact h1 e' h3, h2⟩
theorem Rg.lookupW {t e : TypeId} {zv key : Value} {size bytes : Nat} {kl : Lit} (ht : P.underlying t = some (.map kt e)) (Kk : Keyed P kt) (hi : TI P e zv size bytes) (hx : ev L x = some (.map (some b))) (hy : ev L y = some key) (hd : Nat.blt d n = true) (hkey : keyOf P kt key = some kl) (h : MapW P kt w b es clock)
  (k : ∀ v, ValAt zv es key v → Rg P r n ops rest ((d, v) :: L) ds w K) :
  Rg P r n ops ({ dst := some d, op := .lookup t x y false, type := ty, pos, after := af, guard := none } :: rest) L ds w K := by
 rcases Kk.find w hkey es h.ok with ⟨h1, h2⟩ | ⟨j, e0, h1, h2, h3⟩
 ·obtain ⟨inf, i1, i2, _, _⟩ := hi.get
  have hz : (zeroValue e).run P w = .ok zv w := by simp [zeroValue, typeInfo, i1, i2]
  refine .op (fun _ h => by cases h) rfl rfl hd zv w (fun ρ hρ => ?_) (k zv (Or.inr ⟨h2, rfl⟩))
  simp only [execOp, hρ x _ hx, hρ y _ hy, Instr.lookup, Sem.run_bind, run_underlying ht, Result.andThen_ok, run_getObj_map' h.at_, Sem.run_pure, Kk.check w _ hkey, h1, hz]
  simp
 ·refine .op (fun _ h => by cases h) rfl rfl hd e0.val w (fun ρ hρ => ?_) (k e0.val (Or.inl ⟨e0, List.mem_of_getElem? h2, h3, rfl⟩))
  simp only [execOp, hρ x _ hx, hρ y _ hy, Instr.lookup, Sem.run_bind, run_underlying ht, Result.andThen_ok, run_getObj_map' h.at_, Sem.run_pure, Kk.check w _ hkey, h1]
  simp
end
end Go.K
namespace Go.K
open Go.Proofs
set_option linter.unusedVariables false
set_option linter.unusedSimpArgs false
set_option maxRecDepth 10000
open Go.Maps (Keyed)
def kv (t : Fd) : Value := .agg #[.string ⟨t.1.toArray⟩, .string ⟨t.2.toArray⟩]
theorem kv_inj {a b : Fd} (h : kv a = kv b) : a = b := by
 unfold kv at h
 simp only [Value.agg.injEq, Array.mk.injEq, List.cons.injEq, Value.string.injEq, ByteArray.mk.injEq, and_true] at h
 exact Prod.ext h.1 h.2
theorem laidOut_ : laidOutB Tryz.prog = true := by kernel_rfl
theorem types_ : Tryz.prog.types.size = 356 := by kernel_rfl
theorem termKeyed : Keyed Tryz.prog 47 := Keyed.of_law (deep_law_laid laidOut_ (m := 2) (k := 47) (by omega) (by rw [types_]; decide) (by kernel_rfl) (by kernel_rfl))
theorem keyT_ : Tryz.prog.keyType 47 = true := by kernel_rfl
theorem cellsT_ : Tryz.prog.cellsOf 47 = 2 := by kernel_rfl
theorem cellsS_ : Tryz.prog.cellsOf 9 = 1 := by kernel_rfl
theorem kv_key (t : Fd) (h1 : t.1.length ≤ 140737488355328) (h2 : t.2.length ≤ 140737488355328) : ∃ l, keyOf Tryz.prog 47 (kv t) = some l := by
 have e1 : (⟨t.1.toArray⟩ : ByteArray).size = t.1.length := by simp [ByteArray.size]
 have e2 : (⟨t.2.toArray⟩ : ByteArray).size = t.2.length := by simp [ByteArray.size]
 have hs : ∀ (s : ByteArray), s.size ≤ maxLen → Tryz.prog.keyLits 356 9 [.string s] = some [.string s.data.toList] := fun s hs => by
  show (match Tryz.prog.underlying 9, [Value.string s] with | _, _ => _) = _
  rw [Tryz.underlying9]
  exact if_pos hs
 unfold keyOf kv
 rw [Tryz.underlying47]
 simp only [keyT_, Value.formed, Tryz.underlying47, cellsT_, types_]
 have key : ∃ ls, Tryz.prog.keyLits (356 + 1) 47 [.string ⟨t.1.toArray⟩, .string ⟨t.2.toArray⟩] = some ls := by
  unfold Program.keyLits
  simp only [Tryz.underlying47]
  rw [if_pos ⟨by rw [cellsT_]; rfl, by kernel_rfl⟩]
  simp only [List.mapM_cons, List.mapM_nil, cellsS_]
  have g1 := hs ⟨t.1.toArray⟩ (by rw [e1]; unfold maxLen; omega)
  have g2 := hs ⟨t.2.toArray⟩ (by rw [e2]; unfold maxLen; omega)
  refine ⟨[.string (⟨t.1.toArray⟩ : ByteArray).data.toList, .string (⟨t.2.toArray⟩ : ByteArray).data.toList], ?_⟩
  simp only [List.drop_zero, List.drop_succ_cons, List.take_succ_cons, List.take_zero, g1, g2]
  rfl
 obtain ⟨ls, hls⟩ := key
 exact ⟨.string (keyBytes ls), by rw [if_pos (by simp)]; show Option.map _ (Tryz.prog.keyLits (356 + 1) 47 [.string ⟨t.1.toArray⟩, .string ⟨t.2.toArray⟩]) = _; rw [hls]; rfl⟩
end Go.K
namespace Go.K
open Go.Proofs
set_option linter.unusedVariables false
set_option linter.unusedSimpArgs false
set_option maxRecDepth 10000
def tellF (x : Fd) : List (Fd × Nat) := (words x.2).zipIdx.map fun p => ((x.1, p.1), p.2)
def tellsL (l : List Fd) : List (Fd × Nat) := l.flatMap tellF
theorem tellF_len (x : Fd) : (tellF x).length = (words x.2).length := by simp [tellF]
theorem tellF_at {x : Fd} {k : Nat} {y : List UInt8} (h : (words x.2)[k]? = some y) : (tellF x)[k]? = some ((x.1, y), k) := by
 simp [tellF, List.getElem?_zipIdx, h]
theorem tells_take {fs : List Fd} {i : Nat} {x : Fd} (h : fs[i]? = some x) : tellsL (fs.take (i + 1)) = tellsL (fs.take i) ++ tellF x := by
 rw [List.take_add_one, h]; simp [tellsL]
structure Tell (P : Program) (g : FuncId) (cap : List Value) (B : Nat) (J : List (Fd × Nat) → PSet → World → Prop) : Prop where
 enters : Enters P g
 step : ∀ ts M w M' w', J ts M w → Step M w M' w' none' → J ts M' w'
 tell : ∀ ts M w (t : Fd) (i : Nat), J ts M w → Lt M w → t.1.length ≤ 900000 → t.2.length ≤ 140737488355328 → i ≤ 1000000 → ts.length ≤ 10000000 → Spec P g ([kv t, .int .i64 (i : Int)] ++ cap).toArray w (fun _ w' => ∃ M', Lt M' w' ∧ J (ts ++ [(t, i)]) M' w' ∧ Step M w M' w' (mine M B))
theorem each_spec {M : PSet} {d : Dc} {v0 : Value} {g : FuncId} {cap : List Value} {B : Nat} {J : List (Fd × Nat) → PSet → World → Prop} (w0 : World) (hM : Lt M w0) (hv : RT.dc.V M w0 d v0) (hl : ∀ f ∈ d.2, f.1.length ≤ 900000 ∧ f.2.length ≤ 900000) (hd8 : d.2.length ≤ 8) (hT : Tell Tryz.prog g cap B J) (hJ : J [] M w0) :
  Spec Tryz.prog 154 #[v0, .func (.func g) #[] cap.toArray] w0 (fun v w => ∃ M', Lt M' w ∧ J (tellsL d.2) M' w ∧ Step M w0 M' w (mine M B)) := by
 refine spec_of (args := [_, _]) (fn := Tryz.f154) Tryz.func154 rfl (n := 33) Tryz.ntmps154 ?_
 have S : Step M w0 M w0 (mine M B) := (Step.refl _ _).widen (fun _ h => h.elim) (fun _ h => h.2)
 refine T.seq ?_
 refine T.region ?_
 refine Rg.boxp (A := RT.dc) rfl rfl hM hv rfl (fun u0 w1 hu0 s0 _ => ?_) --@step s0
 --@vf hu0*
 --@ptr RT.dc ;; d
 replace hJ := hT.step _ _ _ _ _ hJ s0
 replace hM := s0.lt hM
 have := S.size
 replace S := S.trans0 s0
 refine Rg.nil ?_
 refine T.seq ?_
 refine T.region ?_
 refine Rg.fieldAddr (M := M) (A := RT.dc) (B := (RT.fd).sl) Tryz.underlying41 rfl rfl I39 (by decide) (dc1) rfl rfl (by decide) (by assumption) (by repeat (first | exact Le.refl _ _ | refine Le.trans (Step.le (by assumption)) ?_)) (fun u1_0 hu1_0 => ?_)
 refine Rg.load (M := M) Tryz.underlying39 rfl rfl rfl rfl rfl (by assumption) (by repeat (first | exact Le.refl _ _ | refine Le.trans (Step.le (by assumption)) ?_)) (fun v1_1 hv1_1 => ?_)
 refine Rg.lensl Tryz.underlying39 rfl hv1_1 rfl ?_
 refine Rg.move rfl rfl ?_
 refine Rg.nil ?_
 refine T.block ?_
 refine T.loop (σ := Nat) (fun i => [(1, .func (.func g) #[] cap.toArray), (9, v1_1), (10, .int .i64 (d.2.length : Int)), (11, .int .i64 (i : Int))]) (fun i w => ∃ M', Lt M' w ∧ Step M w0 M' w (mine M B) ∧ (RT.fd.sl).V M' w d.2 v1_1 ∧ J (tellsL (d.2.take i)) M' w ∧ i ≤ d.2.length ∧ (tellsL (d.2.take i)).length ≤ 900001 * i) (fun i => d.2.length - i) 0 (.cons rfl (.cons rfl (.cons rfl (.cons rfl .nil)))) ?_ ?_
 ·exact ⟨_, hM, S, hv1_1, hJ, Nat.zero_le _, Nat.le_refl _⟩
 ·rintro i w ⟨M1, hM, S, hvs, hJ, hi, htl⟩
  refine T.seq ?_
  refine T.region ?_
  refine Rg.ilt rfl rfl rfl ?_
  refine Rg.nil ?_
  refine T.seq ?_
  refine T.ifp rfl (fun c2 => ?_) (fun c2 => ?_)
  ·refine T.skip ?_
   refine T.seq ?_
   refine T.block ?_
   refine T.seq ?_
   refine T.region ?_
   refine Rg.idx (M := M1) Tryz.underlying39 I127 rfl rfl rfl hvs (Le.refl _ _) (by omega) (fun u3 x hg3 hu3 => ?_)
   rw [Int.toNat_natCast] at hg3
   have hxl := hl _ (List.mem_of_getElem? hg3) --@ptr RT.fd ;; x
   refine Rg.loadagg (M := M1) (A := RT.fd) Tryz.underlying127 rfl I127 (by decide) rfl rfl rfl hu3 (Le.refl _ _) (fun v3 hv3 => ?_)
   refine Rg.newagg (A := RT.fd) (M := M1) I127 rfl rfl rfl rfl rfl (by assumption) (Le.refl _ _) hM (fun u3_2 w3_2 hu3_2 s3_2 z3_2 => ?_)
   replace hvs := hvs.le s3_2.le
   replace hJ := hT.step _ _ _ _ _ hJ s3_2
   replace hM := s3_2.lt hM
   have := S.size
   replace S := S.trans0 s3_2
   refine Rg.nil ?_
   refine T.seq ?_
   refine T.region ?_
   refine Rg.fieldAddr (M := M1) (A := RT.fd) (B := RT.str) Tryz.underlying127 rfl rfl I9 (by decide) (fd1) rfl rfl (by decide) (by assumption) (by repeat (first | exact Le.refl _ _ | refine Le.trans (Step.le (by assumption)) ?_)) (fun u4_0 hu4_0 => ?_)
   refine Rg.load (M := M1) Tryz.underlying9 rfl rfl rfl rfl rfl hu4_0 (Le.refl _ _) (fun v4 hv4 => ?_)
   obtain rfl := V_strE hv4
   refine Rg.call rfl rfl E192 (words_spec (l := x.2) _ hM hxl.2) (fun v5 w5 hc => ?_)
   obtain ⟨hws, s5⟩ := hc --@step s5
   --@vf hws
   replace hvs := hvs.le s5.le
   replace hu3_2 := hu3_2.le (by decide) s5.le
   replace hJ := hT.step _ _ _ _ _ hJ s5
   replace hM := s5.lt hM
   have := S.size
   replace S := S.trans0 s5
   have hwl := words_len x.2
   refine Rg.lensl Tryz.underlying55 rfl hws rfl ?_
   refine Rg.move rfl rfl ?_
   refine Rg.nil ?_
   refine T.block ?_
   refine T.loop (σ := Nat) (fun k => [(1, .func (.func g) #[] cap.toArray), (5, u3_2), (9, v1_1), (10, .int .i64 (d.2.length : Int)), (11, .int .i64 (i : Int)), (17, v5), (18, .int .i64 ((words x.2).length : Int)), (19, .int .i64 (k : Int))]) (fun k w => ∃ M', Lt M' w ∧ Step M w0 M' w (mine M B) ∧ (RT.fd.sl).V M' w d.2 v1_1 ∧ PtrTo RT.fd M' w u3_2 x ∧ (RT.str.sl).V M' w (words x.2) v5 ∧ J (tellsL (d.2.take i) ++ (tellF x).take k) M' w ∧ k ≤ (words x.2).length) (fun k => (words x.2).length - k) 0 (.cons rfl (.cons rfl (.cons rfl (.cons rfl (.cons rfl (.cons rfl (.cons rfl (.cons rfl .nil)))))))) ?_ ?_
   ·exact ⟨_, hM, S, hvs, hu3_2, hws, by rw [List.take_zero, List.append_nil]; exact hJ, Nat.zero_le _⟩
   ·rintro k w ⟨M2, hM, S, hvs, hu3_2, hws, hJ, hk⟩
    refine T.seq ?_
    refine T.region ?_
    refine Rg.ilt rfl rfl rfl ?_
    refine Rg.nil ?_
    refine T.seq ?_
    refine T.ifp rfl (fun c5 => ?_) (fun c5 => ?_)
    ·refine T.skip ?_
     refine T.seq ?_
     refine T.block ?_
     refine T.seq ?_
     refine T.region ?_
     refine Rg.move rfl rfl ?_
     refine Rg.idx (M := M2) Tryz.underlying55 I9 rfl rfl rfl hws (Le.refl _ _) (by omega) (fun u6 y hg6 hu6 => ?_)
     rw [Int.toNat_natCast] at hg6 --@ptr RT.str ;; y
     refine Rg.load (M := M2) Tryz.underlying9 rfl rfl rfl rfl rfl hu6 (Le.refl _ _) (fun v6 hv6 => ?_)
     have hyl := (V_str.1 hv6).2
     obtain rfl := V_strE hv6
     refine Rg.assign rfl rfl ?_
     refine Rg.assign rfl rfl ?_
     refine Rg.nil ?_
     refine T.region ?_
     refine Rg.move rfl rfl ?_
     refine Rg.fieldAddr (M := M2) (A := RT.fd) (B := RT.str) Tryz.underlying127 rfl rfl I9 (by decide) (fd0) rfl rfl (by decide) (by assumption) (by repeat (first | exact Le.refl _ _ | refine Le.trans (Step.le (by assumption)) ?_)) (fun u7_1 hu7_1 => ?_)
     refine Rg.load (M := M2) Tryz.underlying9 rfl rfl rfl rfl rfl hu7_1 (Le.refl _ _) (fun v7 hv7 => ?_)
     obtain rfl := V_strE hv7
     refine Rg.move rfl rfl ?_
     refine Rg.build (places := [(0, 1), (1, 1)]) Tryz.underlying47 I47 B47 rfl ⟨_, _, rfl, rfl, _, _, rfl, rfl, rfl⟩ (out := [_, _]) ⟨0, [_], rfl, rfl, by simp [Value.cells], 1, [_], rfl, rfl, by simp [Value.cells], rfl⟩ ?_
     refine Rg.move rfl rfl ?_
     refine Rg.callv (first := []) (captured := cap) (xs := [.tmp 28, .tmp 29]) rfl rfl rfl hT.enters (hT.tell _ _ _ (x.1, y) k hJ hM hxl.1 hyl (by omega) (by rw [List.length_append, List.length_take, tellF_len]; omega)) (fun r7 w7 hc => ?_)
     obtain ⟨M7, hM7, hJ7, s7⟩ := hc
     refine Rg.nil ?_
     refine T.region ?_
     refine Rg.iadd rfl rfl rfl (by omega) ?_
     refine Rg.move rfl rfl ?_
     refine Rg.nil ?_
     refine ⟨rfl, k + 1, (.cons rfl (.cons rfl (.cons rfl (.cons rfl (.cons rfl (.cons rfl (.cons rfl (.cons rfl .nil)))))))), ?_, ?_⟩
     ·exact ⟨M7, hM7, S.trans s7 (fun b hb h => ⟨h.1, (S.mem b hb).1 h.2⟩), hvs.le s7.le, hu3_2.le (by decide) s7.le, hws.le s7.le, by rw [List.take_add_one, tellF_at hg6, Option.toList_some, ← List.append_assoc]; exact hJ7, by omega⟩
     ·omega
    ·refine T.exit ?_
     refine T.region ?_
     refine Rg.iadd rfl rfl rfl (by omega) ?_
     refine Rg.move rfl rfl ?_
     refine Rg.nil ?_
     refine ⟨rfl, i + 1, (.cons rfl (.cons rfl (.cons rfl (.cons rfl .nil)))), ?_, ?_⟩
     ·exact ⟨_, hM, S, hvs, by rw [tells_take hg3]; have e : (tellF x).take k = tellF x := List.take_of_length_le (by rw [tellF_len]; omega); rw [e] at hJ; exact hJ, by omega, by rw [tells_take hg3, List.length_append, tellF_len]; omega⟩
     ·omega
  ·refine T.exit ?_
   first | refine EndP.nil ?_ | simp +decide only [Kseq, Kblock, if_true, if_false] | skip
   have e : d.2.take i = d.2 := List.take_of_length_le (by omega)
   rw [e] at hJ
   exact Kret0n rfl ⟨_, hM, hJ, S⟩
theorem kv_V {M : PSet} {w : World} {t : Fd} (h1 : t.1.length ≤ 140737488355328) (h2 : t.2.length ≤ 140737488355328) : RT.fd.V M w t (kv t) := V_pair_mk (V_str.2 ⟨rfl, h1⟩) (V_str.2 ⟨rfl, h2⟩) rfl rfl rfl rfl
def WJ (b B : Nat) (ts : List (Fd × Nat)) (M : PSet) (w : World) : Prop := w.heap[b]? = some (.cells #[.int .i64 (ts.length : Int)] 3 (0, 0)) ∧ M b ∧ B ≤ b
theorem weight1_spec {M : PSet} {b B : Nat} {ts : List (Fd × Nat)} {t : Fd} {i : Nat} (w0 : World) (hM : Lt M w0) (h1 : t.1.length ≤ 900000) (h2 : t.2.length ≤ 140737488355328) (hts : ts.length ≤ 10000000) (hJ : WJ b B ts M w0) :
  Spec Tryz.prog 161 #[kv t, .int .i64 (i : Int), .pointer (some ⟨b, 0, none⟩)] w0 (fun v w => ∃ M', Lt M' w ∧ WJ b B (ts ++ [(t, i)]) M' w ∧ Step M w0 M' w (mine M B)) := by
 obtain ⟨gb, m_gb, hB⟩ := hJ
 refine spec_of (args := [_, _, _]) (fn := Tryz.f161) Tryz.func161 rfl (n := 7) Tryz.ntmps161 ?_
 have S : Step M w0 M w0 (mine M B) := (Step.refl _ _).widen (fun _ h => h.elim) (fun _ h => h.2)
 refine T.seq ?_
 refine T.region ?_
 refine Rg.boxp (A := RT.fd) rfl rfl hM (kv_V (by omega) h2) rfl (fun u0 w1 hu0 s0 _ => ?_) --@step s0
 have := lt_of_get gb
 replace m_gb := (s0.mem _ this).2 m_gb
 replace gb := s0.same0 gb
 replace hM := s0.lt hM
 have := S.size
 replace S := S.trans0 s0
 refine Rg.nil ?_
 refine T.region ?_
 refine Rg.loadc Tryz.underlying3 rfl rfl rfl (by assumption) rfl ?_
 refine Rg.iadd rfl rfl rfl (by omega) ?_
 refine Rg.storec (M := M) I3 rfl rfl gb rfl (rfl) m_gb (fun w1_2 g1_2 s1_2 => ?_)
 change w1_2.heap[_]? = some (Obj.cells #[.int .i64 ((ts.length : Int) + 1)] _ _) at g1_2
 have := lt_of_get gb
 replace m_gb := (s1_2.mem _ this).2 m_gb
 replace hM := s1_2.lt hM
 have := S.size
 replace S := S.trans s1_2 (fun k hk h => by have h : _ = _ := h; subst h; first | (exfalso; omega) | (show _ ≤ _; omega) | exact ⟨by omega, (S.mem _ hk).1 ((s1_2.mem _ (lt_of_get gb)).1 m_gb)⟩ | exact .inl rfl | exact .inr rfl | exact .inr (.inl rfl) | exact .inr (.inr rfl) | exact rfl)
 have gb_ := g1_2
 clear gb
 have gb := gb_
 clear gb_
 refine Rg.nil ?_
 first | refine EndP.nil ?_ | simp +decide only [Kseq, Kblock, if_true, if_false] | skip
 exact Kret0n rfl ⟨_, hM, ⟨by rw [List.length_append]; exact gb, m_gb, hB⟩, S⟩
theorem weight_tell {b B : Nat} : Tell Tryz.prog 161 [.pointer (some ⟨b, 0, none⟩)] B (WJ b B) :=
 ⟨E161, fun ts M w M' w' ⟨h1, h2, h3⟩ s => ⟨s.same0 h1, (s.mem _ (lt_of_get h1)).2 h2, h3⟩, fun ts M w t i hJ hM h1 h2 _ h4 => weight1_spec w hM h1 h2 h4 hJ⟩
theorem weight_spec {M : PSet} {d : Dc} {v0 : Value} (w0 : World) (hM : Lt M w0) (hv : RT.dc.V M w0 d v0) (hl : ∀ f ∈ d.2, f.1.length ≤ 900000 ∧ f.2.length ≤ 900000) (hd8 : d.2.length ≤ 8) :
  Spec Tryz.prog 110 #[v0] w0 (fun v w => v = .int .i64 ((tellsL d.2).length : Int) ∧ Step M w0 M w none') := by
 refine spec_of (args := [_]) (fn := Tryz.f110) Tryz.func110 rfl (n := 8) Tryz.ntmps110 ?_
 have S : Step M w0 M w0 none' := (Step.refl _ _).widen (fun _ h => h.elim) (fun _ h => h.elim)
 refine T.seq ?_
 refine T.region ?_
 refine Rg.boxp (A := RT.dc) rfl rfl hM hv rfl (fun u0 w1 hu0 s0 _ => ?_) --@step s0
 --@vf hu0*
 --@ptr RT.dc ;; d
 replace hM := s0.lt hM
 have := S.size
 replace S := S.trans0 s0
 refine Rg.assign rfl rfl ?_
 refine Rg.nil ?_
 refine T.seq ?_
 refine T.region ?_
 refine Rg.alloc M I3 rfl (fun b1_0 w1_0 p1_0 q1_0 g1_0 s1_0 => ?_)
 obtain ⟨M_1_0, eM_1_0⟩ : ∃ M', M' = ins M b1_0 := ⟨_, rfl⟩
 rw [← eM_1_0] at s1_0
 have m_g1_0 : M_1_0 b1_0 := by rw [eM_1_0]; exact .inl rfl
 change w1_0.heap[b1_0]? = some (.cells #[.int .i64 0] _ _) at g1_0
 replace hu0 := hu0.le (by decide) s1_0.le
 replace hM := s1_0.lt hM
 have := S.size
 replace S := S.trans0 s1_0
 refine Rg.storec (M := M_1_0) I3 rfl rfl g1_0 rfl (rfl) m_g1_0 (fun w1_1 g1_1 s1_1 => ?_)
 change w1_1.heap[_]? = some (Obj.cells #[.int .i64 0] _ _) at g1_1
 have := lt_of_get g1_0
 replace m_g1_0 := (s1_1.mem _ this).2 m_g1_0
 replace hu0 := hu0.le (by decide) s1_1.le
 replace hM := s1_1.lt hM
 have := S.size
 replace S := S.trans s1_1 (fun k hk h => by have h : _ = _ := h; subst h; first | (exfalso; omega) | (show _ ≤ _; omega) | exact ⟨by omega, (S.mem _ hk).1 ((s1_1.mem _ (lt_of_get g1_0)).1 m_g1_0)⟩ | exact .inl rfl | exact .inr rfl | exact .inr (.inl rfl) | exact .inr (.inr rfl) | exact rfl)
 have g1_0_ := g1_1
 clear g1_0
 have g1_0 := g1_0_
 clear g1_0_
 refine Rg.nil ?_
 refine T.seq ?_
 refine T.region ?_
 refine Rg.loadagg (M := M_1_0) (A := RT.dc) Tryz.underlying41 rfl I41 (by decide) rfl rfl rfl hu0 (Le.refl _ _) (fun v2 hv2 => ?_)
 refine Rg.makeFunc (xs := []) (ys := [.tmp 3]) rfl rfl rfl ?_
 refine Rg.call rfl rfl E154 (each_spec (cap := [.pointer (some ⟨b1_0, 0, none⟩)]) (B := w0.heap.size) _ hM hv2 hl hd8 weight_tell ⟨g1_0, m_g1_0, by omega⟩) (fun r2 w2 hc => ?_)
 obtain ⟨M2, hM2, ⟨g2, _, _⟩, s2⟩ := hc
 replace S := S.transOwn s2 (Nat.le_refl _)
 refine Rg.nil ?_
 refine T.seq ?_
 refine T.region ?_
 refine Rg.loadc Tryz.underlying3 rfl rfl rfl g2 rfl ?_
 refine Rg.assign rfl rfl ?_
 refine Rg.nil ?_
 refine T.ret ?_
 exact Kret1 rfl rfl ⟨rfl, S.back⟩
end Go.K
namespace Go.K
set_option linter.unusedVariables false
set_option linter.unusedSimpArgs false
section
variable {P : Program} {r : Option Nat} {n : Nat} {L : Sl} {ds : List Deferred} {w : World} {K : Kt} {ops : Array Oper} {rest : List Oper} {d : Nat} {x y z : Operand} {ty : TypeId} {pos : String} {af : Array Edge}
variable {kt : TypeId} {M : PSet} {b mb clock : Nat} {es : List MapEntry} {sn : Array Nat}
theorem Rg.rangeMap {t e : TypeId} (M : PSet) (ht : P.underlying t = some (.map kt e)) (hx : ev L x = some (.map (some mb))) (hd : Nat.blt d n = true) (h : MapW P kt w mb es clock)
  (k : ∀ b w', w.heap.size ≤ b → b < w'.heap.size → w'.heap[b]? = some (.mapIter (some mb) clock #[] clock) → Step M w (ins M b) w' none' → Rg P r n ops rest ((d, .pointer (some ⟨b, 0, none⟩)) :: L) ds w' K) :
  Rg P r n ops ({ dst := some d, op := .range t x, type := ty, pos, after := af, guard := none } :: rest) L ds w K := by
 refine .op (fun _ h => by cases h) rfl rfl hd (.pointer (some ⟨w.heap.size, 0, none⟩)) (w.alloc (.mapIter (some mb) clock #[] clock)) (fun ρ hρ => ?_) (k w.heap.size _ (Nat.le_refl _) (by simp) (heap_alloc_at w _) ((step_alloc M w _).own (Nat.le_refl _) (by simp)))
 simp only [execOp, hρ x _ hx]
 simp [Instr.range, Sem.run_bind, run_underlying ht, run_getObj_map' h.at_, newObj, Sem.run]
theorem run_getObj_iter {sb : Option Nat} {s c : Nat} (hb : w.heap[b]? = some (.mapIter sb s sn c)) : (getObj b).run P w = .ok (.mapIter sb s sn c) w := by simp [getObj, Sem.run, hb]
theorem next_false (h : MapW P kt w mb es clock) (seen : Array Nat) : (!seen.isEmpty && !es.toArray.isEmpty && es.toArray.all (fun x => decide (x.born ≥ clock))) = false := by
 cases es with
 |nil => simp
 |cons e l =>
  have := h.lt e (by simp)
  simp only [Bool.and_eq_false_iff]
  right
  rw [Bool.eq_false_iff]
  intro h2
  rw [Array.all_eq_true_iff_forall_mem] at h2
  have := h2 e (by simp)
  simp at this
  omega
theorem choose_some (k : Nat) (hk : 0 < k) : ∃ j w1, j < k ∧ (∀ M, Step M w M w1 none') ∧ w1.heap = w.heap ∧ (choose (Question.mapNext k)).run P w = .ok j w1 := by
 by_cases hf : k ≤ 1
 ·exact ⟨0, w, hk, fun M => Step.refl M w, rfl, by simp [choose, Sem.run, Question.forced, hf]⟩
 ·exact ⟨_, w.drew, Nat.mod_lt _ hk, fun M => step_drew M w, rfl, by
   simp only [choose, Sem.run, Question.forced, decide_eq_true_eq, hf, if_false, Question.cut]
   rfl⟩
theorem run_next (h : MapW P kt w mb es clock) (hb : w.heap[b]? = some (.mapIter (some mb) clock sn clock)) (hm : M b) :
  ((∀ e ∈ es, e.born ∈ sn) ∧ (Instr.next (.pointer (some ⟨b, 0, none⟩)) false ty).run P w = .ok (.tuple #[.bool false]) w) ∨
  ∃ e w', e ∈ es ∧ e.born ∉ sn ∧ w'.heap[b]? = some (.mapIter (some mb) clock (sn.push e.born) clock) ∧ Step M w M w' (fun k => k = b) ∧ (Instr.next (.pointer (some ⟨b, 0, none⟩)) false ty).run P w = .ok (.tuple #[.bool true, e.key, e.val]) w' := by
 have hlt := lt_of_get hb
 simp only [Instr.next, Sem.run_bind, run_getObj_iter hb, Result.andThen_ok, run_getObj_map' h.at_, next_false h sn, Bool.false_eq_true, if_false]
 have hL : ∀ e ∈ es.toArray.filter (fun e => !sn.contains e.born), e.born < clock := fun e he => h.lt e (by simpa using (Array.mem_filter.1 he).1)
 have hin : ∀ e, e ∈ es.toArray.filter (fun e => !sn.contains e.born) ↔ e ∈ es ∧ e.born ∉ sn := fun e => by simp [Array.mem_filter]
 generalize es.toArray.filter (fun e => !sn.contains e.born) = Lf at hL hin ⊢
 have e1 : Lf.filter (fun x => decide (x.born < clock)) = Lf := Array.filter_eq_self.2 fun x hx => by simpa using hL x hx
 have e2 : Lf.filter (fun x => decide (x.born ≥ clock)) = #[] := by
  rw [Array.filter_eq_empty_iff]
  intro x hx
  have := hL x hx
  simp; omega
 simp only [e1, e2, Array.append_empty]
 by_cases h0 : Lf.size = 0
 ·left
  have hnil : Lf = #[] := Array.eq_empty_of_size_eq_zero h0
  subst hnil
  refine ⟨fun e he => ?_, by simp [choose, Sem.run, Question.forced]⟩
  by_cases hs : e.born ∈ sn
  ·exact hs
  ·exact absurd ((hin e).2 ⟨he, hs⟩) (by simp)
 ·right
  have hne : Lf.isEmpty = false := by simp [Array.isEmpty, h0]
  simp only [hne, Bool.false_eq_true, if_false, Array.empty_append, Array.size_map]
  obtain ⟨j, w1, hj, hs1, hh1, hrun⟩ := choose_some (P := P) (w := w) Lf.size (by omega)
  have hb1 : w1.heap[b]? = some (.mapIter (some mb) clock sn clock) := by rw [hh1]; exact hb
  have hmem := (hin Lf[j]).1 (by simp)
  refine ⟨Lf[j], { w1 with heap := w1.heap.setIfInBounds b (.mapIter (some mb) clock (sn.push Lf[j].born) clock) }, hmem.1, hmem.2, by simp [Array.getElem?_setIfInBounds, hh1, hlt], ?_, ?_⟩
  ·exact ((hs1 M).widen (fun _ h => h.elim) (fun k hk => by subst hk; exact hm)).trans (step_setObj M hm) (fun _ _ h => h)
  ·simp only [hrun, Result.andThen_ok, Array.getElem?_map, Array.getElem?_eq_getElem hj, Option.map_some, Sem.run_bind]
   simp [setObj, Sem.run, hb1]
theorem Rg.nextMap (hx : ev L x = some (.pointer (some ⟨b, 0, none⟩))) (hb : w.heap[b]? = some (.mapIter (some mb) clock sn clock)) (hm : M b) (h : MapW P kt w mb es clock) (hd : Nat.blt d n = true)
  (k1 : ∀ e w', e ∈ es → e.born ∉ sn → w'.heap[b]? = some (.mapIter (some mb) clock (sn.push e.born) clock) → Step M w M w' (fun k => k = b) → Rg P r n ops rest ((d, .tuple #[.bool true, e.key, e.val]) :: L) ds w' K)
  (k2 : (∀ e ∈ es, e.born ∈ sn) → Rg P r n ops rest ((d, .tuple #[.bool false]) :: L) ds w K) :
  Rg P r n ops ({ dst := some d, op := .next x false, type := ty, pos, after := af, guard := none } :: rest) L ds w K := by
 rcases run_next (ty := ty) h hb hm with ⟨h1, h2⟩ | ⟨e, w', h1, h2, h3, h4, h5⟩
 ·refine .op (fun _ h => by cases h) rfl rfl hd _ w (fun ρ hρ => ?_) (k2 h1)
  simp only [execOp, hρ x _ hx]
  simp [h2]
 ·refine .op (fun _ h => by cases h) rfl rfl hd _ w' (fun ρ hρ => ?_) (k1 e w' h1 h2 h3 h4)
  simp only [execOp, hρ x _ hx]
  simp [h5]
theorem Rg.entry {e : MapEntry} {sn' : Array Nat} (hx : ev L x = some (.pointer (some ⟨b, 0, none⟩))) (hb : w.heap[b]? = some (.mapIter (some mb) clock (sn'.push e.born) clock)) (h : MapW P kt w mb es clock) (he : e ∈ es) (hd : Nat.blt d n = true)
  (k : Rg P r n ops rest ((d, .tuple #[e.key, e.val]) :: L) ds w K) :
  Rg P r n ops ({ dst := some d, op := .entry x, type := ty, pos, after := af, guard := none } :: rest) L ds w K := by
 have hf : es.find? (fun x => x.born == e.born) = some e := by
  rw [List.find?_eq_some_iff_getElem]
  obtain ⟨i, hi⟩ := List.mem_iff_getElem?.1 he
  obtain ⟨h1, h2⟩ := List.getElem?_eq_some_iff.1 hi
  refine ⟨by simp, i, h1, h2, fun j hj => ?_⟩
  have hjl : j < es.length := by omega
  have := fun q => h.born_one (List.getElem?_eq_getElem hjl) hi q
  simp only [Bool.not_eq_true', beq_eq_false_iff_ne, ne_eq]
  intro q
  have := this q
  omega
 refine .op (fun _ h => by cases h) rfl rfl hd _ w (fun ρ hρ => ?_) k
 simp only [execOp, hρ x _ hx, Instr.entry, Sem.run_bind, run_getObj_iter hb, Result.andThen_ok, run_getObj_map' h.at_]
 simp [hf, Sem.run_bind, run_getObj_map' h.at_]
end
end Go.K
namespace Go.K
open Go.Proofs
set_option linter.unusedVariables false
set_option linter.unusedSimpArgs false
set_option maxRecDepth 10000
theorem filter_lt {α : Type} {p q : α → Bool} {a : α} : ∀ {l : List α}, (∀ x ∈ l, q x = true → p x = true) → a ∈ l → p a = true → q a = false → (l.filter q).length < (l.filter p).length
 |[], _, ha, _, _ => by cases ha
 |x :: l, h, ha, hp, hq => by
  have hle : (l.filter q).length ≤ (l.filter p).length := by
   rw [← List.countP_eq_length_filter, ← List.countP_eq_length_filter]
   exact List.countP_mono_left fun y hy => h y (List.mem_cons_of_mem _ hy)
  rcases List.mem_cons.1 ha with rfl | ha
  ·rw [List.filter_cons_of_pos hp, List.filter_cons_of_neg (by simp [hq])]; simp; omega
  ·have := filter_lt (fun y hy => h y (List.mem_cons_of_mem _ hy)) ha hp hq
   by_cases hx : q x = true
   ·rw [List.filter_cons_of_pos hx, List.filter_cons_of_pos (h x (List.mem_cons_self ..) hx)]; simp; omega
   ·rw [List.filter_cons_of_neg hx]
    by_cases hx2 : p x = true
    ·rw [List.filter_cons_of_pos hx2]; simp; omega
    ·rw [List.filter_cons_of_neg hx2]; omega
theorem MapW.key_eq {P : Program} {kt : TypeId} {w : World} {b clock : Nat} {es : List MapEntry} (h : MapW P kt w b es clock) {x y : MapEntry} (hx : x ∈ es) (hy : y ∈ es) (hk : x.key = y.key) : x = y := by
 obtain ⟨i, hi⟩ := List.mem_iff_getElem?.1 hx
 obtain ⟨j, hj⟩ := List.mem_iff_getElem?.1 hy
 rcases Nat.lt_trichotomy i j with hij | rfl | hij
 ·exact absurd hk (pair_idx h.keys hi hj hij)
 ·exact Option.some.inj (hi.symm.trans hj)
 ·exact absurd hk.symm (pair_idx h.keys hj hi hij)
theorem MapW.born_eq {P : Program} {kt : TypeId} {w : World} {b clock : Nat} {es : List MapEntry} (h : MapW P kt w b es clock) {x y : MapEntry} (hx : x ∈ es) (hy : y ∈ es) (hk : x.born = y.born) : x = y := by
 obtain ⟨i, hi⟩ := List.mem_iff_getElem?.1 hx
 obtain ⟨j, hj⟩ := List.mem_iff_getElem?.1 hy
 rcases Nat.lt_trichotomy i j with hij | rfl | hij
 ·exact absurd hk (pair_idx h.born hi hj hij)
 ·exact Option.some.inj (hi.symm.trans hj)
 ·exact absurd hk.symm (pair_idx h.born hj hi hij)
def IsIt (w : World) (k : Nat) : Prop := ∃ m s sn c, w.heap[k]? = some (.mapIter m s sn c)
def Known (es : List MapEntry) : Prop := ∀ e ∈ es, ∃ t : Fd, e.key = kv t ∧ t.1.length ≤ 140737488355328 ∧ t.2.length ≤ 140737488355328
theorem keys1_spec {yl bs mb clock : Nat} {es : List MapEntry} {J : List Fd → World → Prop} (w0 : World) (hk : Known es) (hJs : ∀ ts w w' N, J ts w → Step allM w allM w' N → (∀ k, k < w.heap.size → N k → w0.heap.size ≤ k ∧ IsIt w k) → J ts w') (hJb : ∀ ts w, J ts w → w.heap[bs]? = some (.cells #[.map (some mb)] 227 (0, 0)) ∧ MapW Tryz.prog 47 w mb es clock) (hy : ∀ ts w (t : Fd), J ts w → (∃ e ∈ es, e.key = kv t) → t ∉ ts → ts.length < es.length → Yield Tryz.prog yl [kv t].toArray w (fun r w' => r = .bool true ∧ J (ts ++ [t]) w' ∧ ∃ N, Step allM w allM w' N ∧ ∀ k, N k → ¬ IsIt w k)) (h0 : J [] w0) :
  Spec Tryz.prog 197 #[.func (.yield yl) #[] #[], .pointer (some ⟨bs, 0, none⟩)] w0 (fun v w => ∃ ts, J ts w ∧ ts.Nodup ∧ ∀ t, t ∈ ts ↔ ∃ e ∈ es, e.key = kv t) := by
 obtain ⟨gb, hW⟩ := hJb _ _ h0
 have hJ := h0
 clear h0
 refine spec_of (args := [_, _]) (fn := Tryz.f197) Tryz.func197 rfl (n := 14) Tryz.ntmps197 ?_
 have S : Step allM w0 allM w0 allM := (Step.refl _ _).widen (fun _ h => h.elim) (fun _ _ => trivial)
 refine T.seq ?_
 refine T.region ?_
 refine Rg.loadc Tryz.underlying227 rfl rfl rfl (by assumption) rfl ?_
 refine Rg.rangeMap allM Tryz.underlying227 rfl rfl hW (fun bi w1 hb1 hb2 gi s1 => ?_)
 replace s1 := s1.all --@step s1 gi
 --@box gi
 have := lt_of_get gb
 replace gb := s1.same0 gb
 replace hJ := hJs _ _ _ _ hJ s1 (fun _ _ h => h.elim)
 have := S.size
 replace S := S.trans0 s1
 refine Rg.nil ?_
 refine T.block ?_
 refine T.loop (σ := List Fd × Array Nat) (fun s => [(0, .func (.yield yl) #[] #[]), (1, .pointer (some ⟨bs, 0, none⟩)), (5, .pointer (some ⟨bi, 0, none⟩))]) (fun s w => J s.1 w ∧ Step allM w0 allM w allM ∧ w.heap[bi]? = some (.mapIter (some mb) clock s.2 clock) ∧ s.1.Nodup ∧ (∀ e ∈ es, e.born ∈ s.2 ↔ ∃ t ∈ s.1, e.key = kv t) ∧ (∀ t ∈ s.1, ∃ e ∈ es, e.key = kv t)) (fun s => (es.filter fun e => decide (e.born ∉ s.2)).length) ([], #[]) (.cons rfl (.cons rfl (.cons rfl .nil))) ?_ ?_
 ·exact ⟨hJ, S, gi, List.nodup_nil, fun e _ => by simp, fun t h => by cases h⟩
 ·rintro ⟨ts, sn⟩ w ⟨hJ, S, gi, hnd, hsn, hin⟩
  dsimp only at hJ gi hnd hsn hin ⊢
  obtain ⟨gb, hW⟩ := hJb _ _ hJ
  refine T.seq ?_
  refine T.region ?_
  refine Rg.nextMap (M := allM) rfl gi trivial hW rfl (fun e1_0 w1_0 he1_0 hn1_0 g1_0 s1_0 => ?_) (fun n1_0 => ?_)
  ·have gi0 := gi
   replace gb := s1_0.keep gb (fun hk => by have hk : _ = _ := hk; omega)
   replace hJ := hJs _ _ _ _ hJ s1_0 (fun k hk h => by have h : k = bi := h; subst h; exact ⟨hb1, _, _, _, _, gi0⟩)
   have := S.size
   replace S := S.trans s1_0 (fun k hk h => by have h : _ = _ := h; subst h; first | (exfalso; omega) | (show _ ≤ _; omega) | exact .inl rfl | exact .inr rfl | exact .inr (.inl rfl) | exact .inr (.inr rfl) | exact rfl)
   have gi_ := g1_0
   clear gi
   have gi := gi_
   clear gi_
   refine Rg.extract rfl rfl rfl ?_
   refine Rg.nil ?_
   refine T.seq ?_
   refine T.ift rfl ?_
   refine T.skip ?_
   refine T.block ?_
   refine T.seq ?_
   refine T.region ?_
   refine Rg.entry rfl gi (hJb _ _ hJ).2 he1_0 rfl ?_
   obtain ⟨t, hkt, ht1, ht2⟩ := hk _ he1_0
   have hnt : t ∉ ts := fun h => hn1_0 ((hsn _ he1_0).2 ⟨t, h, hkt⟩)
   have hlt : ts.length < es.length := by
    have h1 : ((t :: ts).map kv).Nodup := List.pairwise_map.2 ((List.nodup_cons.2 ⟨hnt, hnd⟩).imp fun h e => h (kv_inj e))
    have h2 := h1.length_le_of_subset (l₂ := es.map (·.key)) (fun x hx => by
     obtain ⟨u, hu, rfl⟩ := List.mem_map.1 hx
     rcases List.mem_cons.1 hu with rfl | hu
     ·rw [← hkt]; exact List.mem_map_of_mem he1_0
     ·obtain ⟨e, he, h⟩ := hin u hu; rw [← h]; exact List.mem_map_of_mem he)
    simp at h2; omega
   rw [hkt]
   refine Rg.extract rfl rfl rfl ?_
   refine Rg.newagg (A := RT.fd) (M := none') I47 rfl rfl rfl rfl rfl (kv_V ht1 ht2) (Le.refl _ _) (Lt.none _) (fun u2 w2 hu2 s2 z2 => ?_)
   replace s2 := s2.all --@step s2
   have := lt_of_get gb
   replace gb := s2.same0 gb
   have := lt_of_get gi
   replace gi := s2.same0 gi
   replace hJ := hJs _ _ _ _ hJ s2 (fun _ _ h => h.elim)
   have := S.size
   replace S := S.trans0 s2
   skip
   refine Rg.nil ?_
   refine T.seq ?_
   refine T.region ?_
   refine Rg.move rfl rfl ?_
   refine Rg.loadagg (M := none') (A := RT.fd) Tryz.underlying47 rfl I47 (by decide) rfl rfl rfl hu2 (Le.refl _ _) (fun v3 hv3 => ?_)
   obtain rfl := fd_val hv3
   refine Rg.yield (vs := [kv t]) rfl rfl rfl (hy _ _ t hJ ⟨_, he1_0, hkt⟩ hnt hlt) (fun r3 w3 hc => ?_)
   obtain ⟨rfl, hJ3, N3, s3, hN3⟩ := hc
   clear g1_0
   replace gi := s3.keep gi (fun h => hN3 _ h ⟨_, _, _, _, gi⟩)
   replace hJ := hJ3
   clear hJ3
   obtain ⟨gb, -⟩ := hJb _ _ hJ
   replace S := S.trans s3 (fun _ _ _ => trivial) --@bool true
   refine Rg.not rfl rfl ?_
   refine Rg.eqv (v' := .bool false) rfl ?_
   refine Rg.nil ?_
   refine T.iff rfl ?_
   refine T.skip ?_
   refine ⟨rfl, (ts ++ [t], sn.push e1_0.born), (.cons rfl (.cons rfl (.cons rfl .nil))), ?_, ?_⟩
   ·have hone : ∀ e ∈ es, e.born = e1_0.born ↔ e.key = kv t := fun e he => by
     constructor
     ·intro h
      rw [MapW.born_eq hW he he1_0 h, hkt]
     ·intro h
      rw [MapW.key_eq hW he he1_0 (h.trans hkt.symm)]
    refine ⟨hJ, S, gi, List.nodup_append.2 ⟨hnd, by simp, fun a ha b hb h => by simp at hb; subst hb; subst h; exact hnt ha⟩, fun e he => ?_, fun u hu => ?_⟩
    ·rw [Array.mem_push, hsn e he, hone e he]
     constructor
     ·rintro (⟨u, h1, h2⟩ | h)
      ·exact ⟨u, List.mem_append_left _ h1, h2⟩
      ·exact ⟨t, by simp, h⟩
     ·rintro ⟨u, h1, h2⟩
      rcases List.mem_append.1 h1 with h1 | h1
      ·exact .inl ⟨u, h1, h2⟩
      ·simp at h1; subst h1; exact .inr h2
    ·rcases List.mem_append.1 hu with hu | hu
     ·exact hin u hu
     ·simp at hu; subst hu; exact ⟨_, he1_0, hkt⟩
   ·exact filter_lt (a := e1_0) (fun e _ h => by simp only [decide_eq_true_eq, Array.mem_push, not_or] at h ⊢; exact h.1) he1_0 (by simpa using hn1_0) (by simp)
  ·refine Rg.extract rfl rfl rfl ?_
   refine Rg.nil ?_
   refine T.seq ?_
   refine T.iff rfl ?_
   refine T.exit ?_
   first | refine EndP.nil ?_ | simp +decide only [Kseq, Kblock, if_true, if_false] | skip
   exact Kret0n rfl ⟨ts, hJ, hnd, fun t => ⟨hin t, fun ⟨e, he, hkt⟩ => by obtain ⟨t', h1, h2⟩ := (hsn e he).1 (n1_0 e he); rw [← kv_inj (h2.symm.trans hkt)]; exact h1⟩⟩
end Go.K
namespace Go.K
open Go.Proofs
set_option linter.unusedVariables false
set_option linter.unusedSimpArgs false
set_option maxRecDepth 10000
theorem AllR.any {α : Type} {A : RT α} (hA : ∀ M w M' w' x vs, A.R M w x vs → A.R M' w' x vs) {M M' : PSet} {w w' : World} : ∀ {xs : List α} {C : List Value}, AllR A M w xs C → AllR A M' w' xs C
 |[], _, h => h
 |x :: xs, C, h => by
  obtain ⟨vs, r, h1, h2, h3⟩ := h
  exact ⟨vs, r, h1, hA _ _ _ _ _ _ h2, AllR.any hA h3⟩
theorem fd_any (M : PSet) (w : World) (M' : PSet) (w' : World) (x : Fd) (vs : List Value) (h : RT.fd.R M w x vs) : RT.fd.R M' w' x vs := h
theorem Own.keepA {α : Type} {A : RT α} (hA : ∀ M w M' w' x vs, A.R M w x vs → A.R M' w' x vs) {e : TypeId} {M N : PSet} {w w' : World} {base : Nat} {v : Value} {xs : List α} (h : Own A e M w base v xs) (s : Step allM w allM w' N) (hn : ∀ b, v.ownBlock = some b → ¬ N b) : Own A e (blkM v) w' base v xs := by
 obtain ⟨⟨C, h1, h2⟩, _⟩ := h
 refine ⟨⟨C, ⟨h1.1, ?_⟩, AllR.any hA h2⟩, fun _ h => h⟩
 rcases h1.2 with h3 | ⟨g, cap, cur, h3, h4, h5, h6, h7, h8⟩
 ·exact .inl h3
 ·exact .inr ⟨g, cap, cur, h3, h4, by rw [s.same g (lt_of_get h5) (hn g (by rw [h3]; rfl))]; exact h5, h6, h7, h8⟩
theorem Own.isCells {α : Type} {A : RT α} {e : TypeId} {M : PSet} {w : World} {base b : Nat} {v : Value} {xs : List α} (h : Own A e M w base v xs) (hb : v.ownBlock = some b) : ∃ cs, w.heap[b]? = some (.cells cs e (0, 0)) := by
 obtain ⟨⟨C, h1, _⟩, _⟩ := h
 rcases h1.2 with h3 | ⟨g, cap, cur, h3, h4, h5, _⟩
 ·rw [h3.1] at hb; cases hb
 ·rw [h3] at hb; cases hb; exact ⟨_, h5⟩
structure Aq (w0 : World) (bt D : Nat) (st : Loop) (v : Value) (ts : List Fd) (w : World) : Prop where
 S : Step allM w0 allM w none'
 c : w.heap[bt]? = some (.cells #[v] 98 (0, 0))
 o : Own RT.fd 47 (blkM v) w w0.heap.size v ts
 d : w.heap[D]? = some (.deferred (some []))
 r : w.heap[D + 1]? = some (.loop st)
 hb : w0.heap.size ≤ bt
 hD : w0.heap.size ≤ D
theorem Aq.step {w0 w w' : World} {bt D : Nat} {st : Loop} {v : Value} {ts : List Fd} {N : PSet} (h : Aq w0 bt D st v ts w) (s : Step allM w allM w' N) (hN : ∀ k, k < w.heap.size → N k → w0.heap.size ≤ k ∧ IsIt w k) : Aq w0 bt D st v ts w' := by
 have no : ∀ {k o}, w.heap[k]? = some o → (∀ m s sn c, o ≠ .mapIter m s sn c) → ¬ N k := fun hk ho hn => by
  obtain ⟨_, m, s, sn, c, h'⟩ := hN _ (lt_of_get hk) hn
  rw [hk] at h'; exact ho m s sn c (Option.some.inj h')
 refine ⟨h.S.trans s (fun k hk hn => ?_), s.keep h.c (no h.c (by intros; simp)), h.o.keepA fd_any s (fun b hb => ?_), s.keep h.d (no h.d (by intros; simp)), s.keep h.r (no h.r (by intros; simp)), h.hb, h.hD⟩
 ·have := (hN k (Nat.lt_of_lt_of_le hk h.S.size) hn).1; omega
 ·obtain ⟨cs, hc⟩ := h.o.isCells hb
  exact no hc (by intros; simp)
theorem Aq.setR {w0 w : World} {bt D : Nat} {st st' : Loop} {v : Value} {ts : List Fd} (h : Aq w0 bt D st v ts w) : Aq w0 bt D st' v ts (w.putObj (D + 1) (.loop st')) := by
 have s : Step allM w allM (w.putObj (D + 1) (.loop st')) (fun k => k = D + 1) := step_putObj trivial
 have hD := h.hD
 refine ⟨h.S.trans s (fun k hk hn => by have hn : k = D + 1 := hn; omega), s.keep h.c (fun hn => by have hn : bt = D + 1 := hn; have h1 := h.c; rw [hn, h.r] at h1; cases h1), h.o.keepA fd_any s (fun b hb hn => ?_), s.keep h.d (fun hn => by have hn : D = D + 1 := hn; omega), by have := lt_of_get h.r; simp [World.putObj, Array.getElem?_setIfInBounds, this], h.hb, h.hD⟩
 have hn : b = D + 1 := hn
 obtain ⟨cs, hc⟩ := h.o.isCells hb
 rw [hn, h.r] at hc; cases hc
theorem gather_spec {bs mb clock : Nat} {es : List MapEntry} (w0 : World) (hk : Known es) (hes : es.length ≤ 100000000) (gbs : w0.heap[bs]? = some (.cells #[.map (some mb)] 227 (0, 0))) (hW : MapW Tryz.prog 47 w0 mb es clock) :
  Spec Tryz.prog 233 #[.slice none 0 0, .func (.func 197) #[] [.pointer (some ⟨bs, 0, none⟩)].toArray] w0 (fun v w => ∃ ts : List Fd, ts.Nodup ∧ (∀ t, t ∈ ts ↔ ∃ e ∈ es, e.key = kv t) ∧ Own RT.fd 47 (blkM v) w w0.heap.size v ts ∧ Step allM w0 allM w none') := by
 refine spec_ofM (args := [_, _]) (fn := Tryz.f233) Tryz.func233 rfl (n := 13) Tryz.ntmps233 ?_
 refine T.seq ?_
 refine T.region ?_
 refine Rg.box allM rfl rfl (fun bt w1 hb1 hb1' gt s1 => ?_)
 change w1.heap[bt]? = some (.cells #[.slice none 0 0] 98 (0, 0)) at gt
 replace s1 := s1.all
 refine Rg.assign rfl rfl ?_
 refine Rg.nil ?_
 refine T.seq ?_
 refine T.seq ?_
 refine T.region ?_
 refine Rg.move rfl rfl ?_
 refine Rg.nil ?_
 refine T.block ?_
 refine T.range (gf := 197) (lb := [.pointer (some ⟨bs, 0, none⟩)].toArray) rfl E197 (fun rec hrec => ?_)
 obtain ⟨D, hD⟩ : ∃ D, D = w1.heap.size := ⟨_, rfl⟩
 have sA : Step allM w1 allM ((w1.alloc (.deferred (some []))).alloc (.loop (rec .ready none))) none' := (step_alloc _ _ _).trans0 (step_alloc _ _ _)
 have h0 : Aq w0 bt D (rec .ready none) (.slice none 0 0) [] ((w1.alloc (.deferred (some []))).alloc (.loop (rec .ready none))) := by
  refine ⟨s1.trans0 sA, sA.same0 gt, Own.nil _ _ _ _ _, ?_, ?_, hb1, by rw [hD]; exact s1.size⟩
  ·rw [hD]; exact (step_alloc allM (w1.alloc _) _).same0 (heap_alloc_at w1 _)
  ·rw [hD]; have := heap_alloc_at (w1.alloc (.deferred (some []))) (.loop (rec .ready none)); rwa [World.size_alloc] at this
 rw [← hD] at hrec ⊢
 have hz := h0.S.size
 refine Spec.mono (keys1_spec (J := fun ts w => ∃ v, Aq w0 bt D (rec .ready none) v ts w) _ hk (fun ts w w' N ⟨v, h⟩ s hN => ⟨v, h.step s (fun k hk hn => ⟨Nat.le_trans hz (hN k hk hn).1, (hN k hk hn).2⟩)⟩) (fun ts w ⟨v, h⟩ => ⟨h.S.same0 gbs, hW.step0 h.S⟩) (fun ts wr t hJ hin hnt hlt => ?_) ⟨_, h0⟩) (fun _ w3 h3 => ?_)
 ·obtain ⟨v, h⟩ := hJ
  obtain ⟨e, he, hke⟩ := hin
  obtain ⟨t', hkt', ht1, ht2⟩ := hk e he
  obtain rfl := kv_inj (hke.symm.trans hkt')
  have hzr := lt_of_get h.r
  refine yield_rec (ps := [7]) (vs := [kv t]) hrec h.r rfl (by decide) ?_
  refine T.region ?_
  refine Rg.newagg (A := RT.fd) (M := fun k => k = D + 1) I47 rfl rfl rfl rfl rfl (kv_V ht1 ht2) (Le.refl _ _) (fun k hk => by have hk : k = D + 1 := hk; omega) (fun u2 w2 hu2 s2 z2 => ?_)
  replace s2 := s2.all
  skip
  refine Rg.nil ?_
  refine ⟨rfl, s2.same0 h.r, ?_⟩
  have h4 := (h.step s2 (fun _ _ h => h.elim)).setR (st' := rec .busy none)
  have s3' : Step (fun k => k = D + 1) w2 (fun k => k = D + 1) (w2.putObj (D + 1) (.loop (rec .busy none))) (fun k => k = D + 1) := step_putObj rfl
  have s3 := s3'.all
  have hu4 := hu2.le (by decide) s3'.le
  clear s3'
  generalize w2.putObj (D + 1) _ = w4 at h4 s3 hu4 ⊢
  refine T.block ?_
  refine T.region ?_
  refine Rg.loadc Tryz.underlying98 rfl rfl rfl h4.c rfl ?_
  refine Rg.loadagg (M := fun k => k = D + 1) (A := RT.fd) Tryz.underlying47 rfl I47 (by decide) rfl rfl rfl hu4 (Le.refl _ _) (fun v3 hv3 => ?_)
  obtain rfl := fd_val hv3
  refine Rg.sl1 (A := RT.fd) (hn := by decide) (M := blkM v) Tryz.underlying98 I47 (by decide) rfl rfl (fun b hb => (h4.o.base b hb).2) (kv_V ht1 ht2) (.inl rfl) (fun u5 w5 hu5 s5 => ?_)
  refine Rg.append (M := blkM v) (base := w0.heap.size) Tryz.underlying98 I47 rfl rfl rfl rfl (h4.o.step0 s5) hu5 (Le.refl _ _) (by simp; omega) (by simp; omega) (Nat.le_trans h4.S.size s5.size) (fun v6 M6 w6 ho6 s6 => ?_)
  have gc := s6.all.keep (s5.all.same0 h4.c) (fun hn => h4.o.neT h4.c (by decide) hn)
  refine Rg.storec (M := allM) I98 rfl rfl gc rfl (by obtain ⟨_, _, he, _⟩ := ho6.isSlice; rw [he]; rfl) trivial (fun w7 gc7 s7 => ?_)
  refine Rg.nil ?_
  have own6 : ∀ k, blkM v k → ¬ IsIt wr k := fun k hk ⟨_, _, _, _, h9⟩ => by
   obtain ⟨cs, hc⟩ := h.o.isCells hk
   rw [hc] at h9; cases h9
  have pr : ∀ k, k < wr.heap.size → k = D + 1 → ¬ IsIt wr k := fun k _ hk ⟨_, _, _, _, h9⟩ => by subst hk; rw [h.r] at h9; cases h9
  have pc : ∀ k, k < wr.heap.size → k = bt → ¬ IsIt wr k := fun k _ hk ⟨_, _, _, _, h9⟩ => by subst hk; rw [h.c] at h9; cases h9
  have h7 : Aq w0 bt D (rec .busy none) v6 (ts ++ [t]) w7 := by
   have nb : ∀ b, v6.ownBlock = some b → b ≠ bt := fun b hb hn => by subst hn; exact ho6.neT gc (by decide) hb
   refine ⟨?_, gc7, ho6.keepA fd_any s7 nb, ?_, ?_, h.hb, h.hD⟩
   ·refine ((h4.S.trans0 s5.all).trans s6.all (fun k hk hn => ?_)).trans s7 (fun k hk hn => ?_)
    ·have := (h4.o.base k hn).1; omega
    ·have hn : k = bt := hn; have := h.hb; omega
   ·exact s7.keep (s6.all.keep (s5.all.same0 h4.d) (fun hn => by obtain ⟨cs, hc⟩ := h4.o.isCells hn; rw [h4.d] at hc; cases hc)) (fun hn => by have hn : D = bt := hn; have h1 := h.c; rw [← hn, h.d] at h1; cases h1)
   ·exact s7.keep (s6.all.keep (s5.all.same0 h4.r) (fun hn => by obtain ⟨cs, hc⟩ := h4.o.isCells hn; rw [h4.r] at hc; cases hc)) (fun hn => by have hn : D + 1 = bt := hn; have h1 := h.c; rw [← hn, h.r] at h1; cases h1)
  have s8 : Step allM w7 allM (w7.putObj (D + 1) (.loop (rec .ready none))) (fun k => k = D + 1) := step_putObj trivial
  exact ⟨h7.r, rfl, ⟨v6, h7.setR⟩, fun k => ¬ IsIt wr k, (((((s2.widen (fun _ h => h.elim) (fun _ _ => trivial)).trans s3 pr).trans0 s5.all).trans s6.all (fun k _ hn => own6 k hn)).trans s7 pc).trans s8 pr, fun _ h => h⟩
 ·obtain ⟨ts, ⟨v, h⟩, hnd, hin⟩ := h3
  left
  refine ⟨h.r, ?_⟩
  have h5 := h.setR (st' := rec .exhausted none)
  generalize w3.putObj (D + 1) _ = wE at h5 ⊢
  refine T.seq ?_
  refine T.region ?_
  refine Rg.loadc Tryz.underlying98 rfl rfl rfl h5.c rfl ?_
  refine Rg.assign rfl rfl ?_
  refine Rg.nil ?_
  refine T.ret ?_
  have sE : Step allM wE allM (wE.putObj D (.deferred none)) (fun k => k = D) := step_putObj trivial
  have hDD := h.hD
  exact KretM1 rfl rfl h5.d ⟨ts, hnd, hin, h5.o.keepA fd_any sE (fun b hb hn => by have hn : b = D := hn; obtain ⟨cs, hc⟩ := h5.o.isCells hb; rw [hn, h5.d] at hc; cases hc), h5.S.trans sE (fun k hk hn => by have hn : k = D := hn; omega)⟩
end Go.K
namespace Go.K
open Go.Proofs
set_option linter.unusedVariables false
set_option linter.unusedSimpArgs false
set_option maxRecDepth 10000
theorem collect_spec {bs mb clock : Nat} {es : List MapEntry} (w0 : World) (hk : Known es) (hes : es.length ≤ 100000000) (gbs : w0.heap[bs]? = some (.cells #[.map (some mb)] 227 (0, 0))) (hW : MapW Tryz.prog 47 w0 mb es clock) :
  Spec Tryz.prog 195 #[.func (.func 197) #[] [.pointer (some ⟨bs, 0, none⟩)].toArray] w0 (fun v w => ∃ ts : List Fd, ts.Nodup ∧ (∀ t, t ∈ ts ↔ ∃ e ∈ es, e.key = kv t) ∧ Own RT.fd 47 (blkM v) w w0.heap.size v ts ∧ Step allM w0 allM w none') := by
 refine spec_of (args := [_]) (fn := Tryz.f195) Tryz.func195 rfl (n := 5) Tryz.ntmps195 ?_
 refine T.seq ?_
 refine T.region ?_
 refine Rg.assign rfl rfl ?_
 refine Rg.nil ?_
 refine T.seq ?_
 refine T.region ?_
 refine Rg.move rfl rfl ?_
 refine Rg.call rfl rfl E233 (gather_spec _ hk hes gbs hW) (fun r w1 hc => ?_)
 refine Rg.assign rfl rfl ?_
 refine Rg.nil ?_
 refine T.ret ?_
 exact Kret1 rfl rfl hc
def keyE (t : Fd) : List UInt8 := t.1 ++ [0] ++ t.2
theorem key_spec {M : PSet} {t : Fd} (w0 : World) (hM : Lt M w0) (h1 : t.1.length ≤ 1000000) (h2 : t.2.length ≤ 1000000) :
  Spec Tryz.prog 74 #[kv t] w0 (fun v w => v = .string ⟨(keyE t).toArray⟩ ∧ Step M w0 M w none') := by
 refine spec_of (args := [_]) (fn := Tryz.f74) Tryz.func74 rfl (n := 9) Tryz.ntmps74 ?_
 have S : Step M w0 M w0 none' := (Step.refl _ _).widen (fun _ h => h.elim) (fun _ h => h.elim)
 refine T.seq ?_
 refine T.region ?_
 refine Rg.boxp (A := RT.fd) rfl rfl hM (kv_V (by omega) (by omega)) rfl (fun u0 w1 hu0 s0 _ => ?_) --@step s0
 --@vf hu0*
 --@ptr RT.fd ;; t
 replace hM := s0.lt hM
 have := S.size
 replace S := S.trans0 s0
 refine Rg.assign rfl rfl ?_
 refine Rg.nil ?_
 refine T.seq ?_
 refine T.region ?_
 refine Rg.fieldAddr (M := M) (A := RT.fd) (B := RT.str) Tryz.underlying47 rfl rfl I9 (by decide) (fd0) rfl rfl (by decide) (by assumption) (by repeat (first | exact Le.refl _ _ | refine Le.trans (Step.le (by assumption)) ?_)) (fun u1_0 hu1_0 => ?_)
 refine Rg.load (M := M) Tryz.underlying9 rfl rfl rfl rfl rfl hu1_0 (Le.refl _ _) (fun v1 hv1 => ?_)
 obtain rfl := V_strE hv1
 refine Rg.cat (p := t.1) (q := [0]) rfl rfl rfl (by simp; omega) ?_
 refine Rg.fieldAddr (M := M) (A := RT.fd) (B := RT.str) Tryz.underlying47 rfl rfl I9 (by decide) (fd1) rfl rfl (by decide) (by assumption) (by repeat (first | exact Le.refl _ _ | refine Le.trans (Step.le (by assumption)) ?_)) (fun u1_3 hu1_3 => ?_)
 refine Rg.load (M := M) Tryz.underlying9 rfl rfl rfl rfl rfl hu1_3 (Le.refl _ _) (fun v4 hv4 => ?_)
 obtain rfl := V_strE hv4
 refine Rg.cat (p := t.1 ++ [0]) (q := t.2) rfl rfl rfl (by simp; omega) ?_
 refine Rg.assign rfl rfl ?_
 refine Rg.nil ?_
 refine T.ret ?_
 exact Kret1 rfl rfl ⟨rfl, S⟩
end Go.K
namespace Go.K
open Go.Proofs
set_option linter.unusedVariables false
set_option linter.unusedSimpArgs false
set_option maxRecDepth 10000
theorem compare_spec (a b : List UInt8) (w : World) : Spec Tryz.prog 159 #[.string ⟨a.toArray⟩, .string ⟨b.toArray⟩] w (fun v w' => v = .int .i64 (Lib.compareBytes a b) ∧ w' = w) := (Any.strings_Compare Tryz.lays106 ⟨a.toArray⟩ ⟨b.toArray⟩ w).mono fun e w' ⟨h1, h2⟩ => ⟨_, h1, rfl, h2⟩
end Go.K
namespace Go.K
set_option linter.unusedVariables false
set_option linter.unusedSimpArgs false
section
variable {P : Program} {r : Option Nat} {n : Nat} {L : Sl} {ds : List Deferred} {w : World} {K : Kt} {ops : Array Oper} {rest : List Oper} {d : Nat} {x : Operand} {ty : TypeId} {pos : String} {af : Array Edge}
theorem DrawInv.tE {id : Nat} {l : List Oper} (hm : P.follows .mixedOrders = true) (hlex : lexOk l 0 = true) (h : DrawInv P r n l L ds (w.drewN 1) K) : T P r n (.region id l.toArray true) L ds w K := by
 refine ⟨fun a ha => wpIn_region_draw fun t => ?_⟩
 simp only [Region.schedule, hm, Bool.true_or, if_true, Region.linearise]
 obtain ⟨J, h1, h2, h3, h4⟩ := h a ha
 refine go_ordersJ (J := J) hlex (fun {D D' a w} hi hD => h1 D D' a w hi hD) (fun {D a' w' j o rest} hj ho hnD hp hcl hi hk => h2 _ _ _ _ _ _ _ hj ho hnD hp hcl hi hk) h3 _ t _ a _ (by simp) (by simp [List.countP_replicate]) (fun i o h1 h2 => ?_) (h1 _ _ _ _ h4 fun i _ => ?_)
 ·simp [Array.getElem?_replicate] at h2
 ·simp [Array.getElem?_replicate]
theorem T.drawPE {id : Nat} {l l' : List Oper} (π : List Nat) (m : Nat) (fl : List Nat) (c : Nat) (N : PSet) (hm : P.follows .mixedOrders = true) (hren : ren π l = l') (hlex0 : lexOk l 0 = true) (hπ : permOk π l.length = true) (hml : Nat.blt m l'.length = true) (hlex : lexOk l' 0 = true) (hsl : slotsOk l' m = true) (hfl : floatsOk l' m fl c = true)
  (h : QRg P r n l'.toArray (l'.take m) L ds (w.drewN 1) (fun L' => (∀ j o, j ∈ fl → l'[j]? = some o → FloatOk P N (w.drewN 1) L' o) ∧ TRg P r n l'.toArray N (w.drewN 1) K c (l'.drop m) L' ds (w.drewN 1))) : T P r n (.region id l.toArray true) L ds w K := by
 subst hren
 exact DrawInv.tE hm hlex0 (.perm π hπ hlex0 (drawInvF m fl c N hml hlex hsl hfl h))
theorem Rg.boxE {e : TypeId} {v : Value} (hx : ev L x = some v) (hd : Nat.blt d n = true) (k : Rg P r n ops rest ((d, .pointer (some ⟨w.heap.size, 0, none⟩)) :: L) ds (w.alloc (.cells v.cells e (0, 0))) K) :
  Rg P r n ops ({ dst := some d, op := .box e x, type := ty, pos, after := af, guard := none } :: rest) L ds w K := by
 refine .op (fun _ h => by cases h) rfl rfl hd _ (w.alloc (.cells v.cells e (0, 0))) (fun ρ hρ => ?_) k
 simp only [execOp, hρ x _ hx]
 simp [Instr.box, newVar, newRow, newObj, Sem.run]
theorem alloc_grow (w : World) (o : Obj) : w.alloc o = Go.Sort.grow w #[o] := by
 unfold World.alloc Go.Sort.grow
 congr 1
theorem grow_drewN (w : World) (os : Array Obj) (q : Nat) : (Go.Sort.grow w os).drewN q = Go.Sort.grow (w.drewN q) os := rfl
end
end Go.K
namespace Go.K
open Go.Proofs
set_option linter.unusedVariables false
set_option linter.unusedSimpArgs false
set_option maxRecDepth 10000
abbrev termO (t : Fd) : Obj := .cells #[.string ⟨t.1.toArray⟩, .string ⟨t.2.toArray⟩] 47 (0, 0)
theorem key_ex {t : Fd} (w0 : World) (h1 : t.1.length ≤ 1000000) (h2 : t.2.length ≤ 1000000) :
  Spec Tryz.prog 74 #[kv t] w0 (fun v w => v = .string ⟨(keyE t).toArray⟩ ∧ w = w0.alloc (termO t)) := by
 refine spec_of (args := [_]) (fn := Tryz.f74) Tryz.func74 rfl (n := 9) Tryz.ntmps74 ?_
 refine T.seq ?_
 refine T.region ?_
 refine Rg.boxE rfl rfl ?_
 have gb := heap_alloc_at w0 (termO t)
 change Rg _ _ _ _ _ _ _ (w0.alloc (termO t)) _
 generalize hw : w0.alloc (termO t) = w1 at gb ⊢
 refine Rg.assign rfl rfl ?_
 refine Rg.nil ?_
 refine T.seq ?_
 refine T.region ?_
 refine Rg.fieldc (o' := 0) Tryz.underlying47 rfl rfl I9 (by decide) rfl rfl ?_
 refine Rg.loadc Tryz.underlying9 rfl rfl rfl gb rfl ?_
 refine Rg.cat (p := t.1) (q := [0]) rfl rfl rfl (by simp; omega) ?_
 refine Rg.fieldc (o' := 1) Tryz.underlying47 rfl rfl I9 (by decide) rfl rfl ?_
 refine Rg.loadc Tryz.underlying9 rfl rfl rfl gb rfl ?_
 refine Rg.cat (p := t.1 ++ [0]) (q := t.2) rfl rfl rfl (by simp; omega) ?_
 refine Rg.assign rfl rfl ?_
 refine Rg.nil ?_
 refine T.ret ?_
 exact Kret1 rfl rfl ⟨rfl, rfl⟩
theorem inv2_ex {s t : Fd} (w0 : World) (h1 : s.1.length ≤ 1000000) (h2 : s.2.length ≤ 1000000) (h3 : t.1.length ≤ 1000000) (h4 : t.2.length ≤ 1000000) :
  Spec Tryz.prog 158 #[kv s, kv t] w0 (fun v w => v = .int .i64 (Lib.compareBytes (keyE s) (keyE t)) ∧ w = ((((w0.alloc (termO s)).alloc (termO t)).drewN 1).alloc (termO s)).alloc (termO t)) := by
 refine spec_of (args := [_, _]) (fn := Tryz.f158) Tryz.func158 rfl (n := 10) Tryz.ntmps158 ?_
 refine T.seq ?_
 refine T.region ?_
 refine Rg.boxE rfl rfl ?_
 change Rg _ _ _ _ _ _ _ (w0.alloc (termO s)) _
 refine Rg.boxE rfl rfl ?_
 change Rg _ _ _ _ _ _ _ ((w0.alloc (termO s)).alloc (termO t)) _
 have g1 : ((w0.alloc (termO s)).alloc (termO t)).heap[w0.heap.size]? = some (termO s) := (step_alloc none' _ _).same0 (heap_alloc_at w0 _)
 have g2 := heap_alloc_at (w0.alloc (termO s)) (termO t)
 have kp := Keep.refl none' (((w0.alloc (termO s)).alloc (termO t)).drewN 1)
 refine Rg.assign rfl rfl ?_
 refine Rg.nil ?_
 refine T.seq ?_
 apply T.drawPE [0, 2, 1, 3, 4, 5] 2 [1] 1 none' mixed
 ·simp +decide only [ren, renO, List.map_cons, List.map_nil, List.getD_cons_zero, List.getD_cons_succ, List.map_toArray, Option.map_some, Option.map_none, List.idxOf_cons, cond_true, cond_false, Nat.reduceBEq, Nat.reduceAdd, beq_self_eq_true]; rfl
 ·rfl
 ·rfl
 ·rfl
 ·rfl
 ·rfl
 ·rfl
 have g1' : (((w0.alloc (termO s)).alloc (termO t)).drewN 1).heap[w0.heap.size]? = some (termO s) := g1
 have g2' : (((w0.alloc (termO s)).alloc (termO t)).drewN 1).heap[(w0.alloc (termO s)).heap.size]? = some (termO t) := g2
 refine Rg.loadaggc (vs := [.string ⟨s.1.toArray⟩, .string ⟨s.2.toArray⟩]) Tryz.underlying47 rfl I47 rfl rfl rfl g1' ?_
 refine Rg.nil ⟨rfl, rfl, rfl, ?_⟩
 refine Rg.loadaggc (vs := [.string ⟨t.1.toArray⟩, .string ⟨t.2.toArray⟩]) Tryz.underlying47 rfl I47 rfl rfl rfl g2' ?_
 refine Rg.nil ⟨rfl, rfl, rfl, ?_⟩
 refine QRg.nil ?_
 refine ⟨Floats.all ⟨FloatOk.load rfl (by assumption) (by first | assumption | exact fun h => h | (intro h; have h : _ = _ := h; omega)), trivial⟩, ?_⟩
 replace kp := kp.go0 (step_alloc none' (((w0.alloc (termO s)).alloc (termO t)).drewN 1) (termO s))
 refine Rg.call rfl rfl E74 (key_ex (t := s) _ h1 h2) (fun r5 w5 hc => ?_)
 obtain ⟨rfl, rfl⟩ := hc
 refine (fun (kp : Keep _ _ _) => Rg.nil ⟨rfl, rfl, fun _ => kp, ?_⟩) (by first | exact kp | exact kp.go0 (by assumption) | exact kp.goN (by assumption) | exact kp.go (by assumption) (fun _ _ h => by first | exact h | exact h.elim))
 refine Rg.call rfl rfl E74 (key_ex (t := t) _ h3 h4) (fun r6 w6 hc => ?_)
 obtain ⟨rfl, rfl⟩ := hc
 refine Rg.nil ⟨rfl, rfl, fun h => absurd rfl h, ?_⟩
 refine Rg.call rfl rfl E159 (compare_spec _ _ _) (fun r7 w7 hc => ?_)
 obtain ⟨rfl, rfl⟩ := hc
 refine Rg.nil ⟨rfl, rfl, fun h => absurd rfl h, ?_⟩
 refine Rg.assign rfl rfl ?_
 refine Rg.nil ⟨rfl, rfl, fun h => absurd rfl h, ?_⟩
 refine TRg.nil ?_
 refine T.ret ?_
 exact Kret1 rfl rfl ⟨rfl, rfl⟩
end Go.K
namespace Go.K
set_option linter.unusedVariables false
set_option linter.unusedSimpArgs false
open Go.Lib (compareBytes)
theorem cmp_cons (a b : UInt8) (x y : List UInt8) : compareBytes (a :: x) (b :: y) = if a.toNat < b.toNat then -1 else if b.toNat < a.toNat then 1 else compareBytes x y := by
 rw [compareBytes]; simp only [UInt8.lt_iff_toNat_lt]
theorem cmp_self : ∀ a, compareBytes a a = 0
 |[] => rfl
 |a :: x => by rw [cmp_cons, if_neg (Nat.lt_irrefl _), if_neg (Nat.lt_irrefl _)]; exact cmp_self x
theorem cmp_zero : ∀ {a b}, compareBytes a b = 0 → a = b
 |[], [], _ => rfl
 |[], _ :: _, h => by simp [compareBytes] at h
 |_ :: _, [], h => by simp [compareBytes] at h
 |a :: x, b :: y, h => by
  rw [cmp_cons] at h
  split at h
  ·omega
  ·split at h
   ·omega
   ·rw [cmp_zero h, UInt8.toNat_inj.1 (show a.toNat = b.toNat by omega)]
theorem cmp_neg : ∀ a b, compareBytes a b = - compareBytes b a
 |[], [] => rfl
 |[], _ :: _ => rfl
 |_ :: _, [] => rfl
 |a :: x, b :: y => by
  rw [cmp_cons, cmp_cons, cmp_neg x y]
  split <;> split <;> first | omega | rfl
theorem cmp_trans : ∀ {a b c}, compareBytes a b < 0 → compareBytes b c < 0 → compareBytes a c < 0
 |[], [], _, h, _ => by simp [compareBytes] at h
 |_ :: _, [], _, h, _ => by simp [compareBytes] at h
 |_, _ :: _, [], _, h => by simp [compareBytes] at h
 |[], _ :: _, _ :: _, _, _ => by simp [compareBytes]
 |a :: x, b :: y, c :: z, h1, h2 => by
  rw [cmp_cons] at h1 h2 ⊢
  split at h1
  ·split at h2
   ·rw [if_pos (by omega)]; omega
   ·split at h2
    ·omega
    ·rw [if_pos (by omega)]; omega
  ·split at h1
   ·omega
   ·split at h2
    ·rw [if_pos (by omega)]; omega
    ·split at h2
     ·omega
     ·rw [if_neg (by omega), if_neg (by omega)]; exact cmp_trans h1 h2
theorem cmp_swo {α : Type} (f : α → List UInt8) : Go.Sort.SWO (Go.Proofs.ltOf fun x y => compareBytes (f x) (f y)) where
 irrefl x := by simp [Go.Proofs.ltOf, cmp_self]
 trans x y z h1 h2 := by
  simp only [Go.Proofs.ltOf, decide_eq_true_eq] at *
  exact cmp_trans h1 h2
 ntrans x y z h1 h2 := by
  simp only [Go.Proofs.ltOf, decide_eq_false_iff_not] at *
  intro h3
  by_cases e1 : compareBytes (f x) (f y) = 0
  ·rw [cmp_zero e1] at h3; exact h2 h3
  ·by_cases e2 : compareBytes (f y) (f z) = 0
   ·rw [cmp_zero e2] at h1; exact h1 h3
   ·have n1 := cmp_neg (f x) (f y)
    have n2 := cmp_neg (f y) (f z)
    have n3 := cmp_neg (f x) (f z)
    have : compareBytes (f z) (f x) < 0 := cmp_trans (b := f y) (by omega) (by omega)
    omega
end Go.K
namespace Go.Proofs
open Go.Shelf
def Tryz.sortFt_ren : Go.Shelf.Ren := ⟨fun | 6 => 196 | 15 => 166 | 14 => 234 | 28 => 210 | 29 => 211 | 20 => 261 | 21 => 262 | 22 => 263 | 23 => 264 | 24 => 265 | 25 => 266 | 26 => 267 | 27 => 268 | 46 => 281 | 47 => 246 | 48 => 247 | 49 => 282 | 50 => 283 | 57 => 290 | n => n, fun | 22 => 98 | 24 => 47 | 25 => 235 | 3 => 3 | 39 => 183 | 0 => 0 | 53 => 273 | 55 => 165 | 4 => 4 | 46 => 267 | 45 => 266 | 50 => 121 | 5 => 5 | 9 => 9 | 66 => 295 | 70 => 299 | 76 => 327 | 77 => 305 | n => n, fun | n => n⟩
theorem Tryz.sortFt : Go.Proofs.SlLaysF0.n6 Tryz.prog Tryz.sortFt_ren := {
 mixed := by kernel_rfl
 f6 := ⟨Tryz.f196.name, by decide, Tryz.func196.trans (congrArg some (by kernel_rfl))⟩
 f14 := ⟨Tryz.f234.name, by decide, Tryz.func234.trans (congrArg some (by kernel_rfl))⟩
 f15 := Tryz.func166.trans (congrArg some (by kernel_rfl))
 f20 := ⟨Tryz.f261.name, by decide, Tryz.func261.trans (congrArg some (by kernel_rfl))⟩
 f21 := ⟨Tryz.f262.name, by decide, Tryz.func262.trans (congrArg some (by kernel_rfl))⟩
 f22 := ⟨Tryz.f263.name, by decide, Tryz.func263.trans (congrArg some (by kernel_rfl))⟩
 f23 := ⟨Tryz.f264.name, by decide, Tryz.func264.trans (congrArg some (by kernel_rfl))⟩
 f24 := ⟨Tryz.f265.name, by decide, Tryz.func265.trans (congrArg some (by kernel_rfl))⟩
 f25 := ⟨Tryz.f266.name, by decide, Tryz.func266.trans (congrArg some (by kernel_rfl))⟩
 f26 := ⟨Tryz.f267.name, by decide, Tryz.func267.trans (congrArg some (by kernel_rfl))⟩
 f27 := ⟨Tryz.f268.name, by decide, Tryz.func268.trans (congrArg some (by kernel_rfl))⟩
 f28 := Tryz.func210.trans (congrArg some (by kernel_rfl))
 f29 := Tryz.func211.trans (congrArg some (by kernel_rfl))
 f46 := ⟨Tryz.f281.name, by decide, Tryz.func281.trans (congrArg some (by kernel_rfl))⟩
 f47 := Tryz.func246.trans (congrArg some (by kernel_rfl))
 f48 := Tryz.func247.trans (congrArg some (by kernel_rfl))
 f49 := ⟨Tryz.f282.name, by decide, Tryz.func282.trans (congrArg some (by kernel_rfl))⟩
 f50 := ⟨Tryz.f283.name, by decide, Tryz.func283.trans (congrArg some (by kernel_rfl))⟩
 f57 := ⟨Tryz.f290.name, by decide, Tryz.func290.trans (congrArg some (by kernel_rfl))⟩
 t0 := Tryz.underlying0
 a0 := Tryz.isAgg0
 z0 := Tryz.sizeOf0
 v0 := Tryz.zeroValue0
 t3 := Tryz.underlying3
 a3 := Tryz.isAgg3
 z3 := Tryz.sizeOf3
 v3 := Tryz.zeroValue3
 t4 := Tryz.underlying4
 a4 := Tryz.isAgg4
 z4 := Tryz.sizeOf4
 v4 := Tryz.zeroValue4
 t5 := Tryz.underlying5
 a5 := Tryz.isAgg5
 z5 := Tryz.sizeOf5
 v5 := Tryz.zeroValue5
 t9 := Tryz.underlying9
 a9 := Tryz.isAgg9
 z9 := Tryz.sizeOf9
 v9 := Tryz.zeroValue9
 t22 := Tryz.underlying98
 a22 := Tryz.isAgg98
 z22 := Tryz.sizeOf98
 v22 := Tryz.zeroValue98
 t25 := Tryz.underlying235
 a25 := Tryz.isAgg235
 z25 := Tryz.sizeOf235
 v25 := Tryz.zeroValue235
 t39 := Tryz.underlying183
 a39 := Tryz.isAgg183
 z39 := Tryz.sizeOf183
 v39 := Tryz.zeroValue183
 t45 := Tryz.underlying266
 a45 := Tryz.isAgg266
 z45 := Tryz.sizeOf266
 v45 := Tryz.zeroValue266
 t46 := Tryz.underlying267
 a46 := Tryz.isAgg267
 z46 := Tryz.sizeOf267
 v46 := Tryz.zeroValue267
 t50 := Tryz.underlying121
 a50 := Tryz.isAgg121
 z50 := Tryz.sizeOf121
 v50 := Tryz.zeroValue121
 t53 := Tryz.underlying273
 a53 := Tryz.isAgg273
 z53 := Tryz.sizeOf273
 v53 := Tryz.zeroValue273
 t55 := Tryz.underlying165
 a55 := Tryz.isAgg165
 z55 := Tryz.sizeOf165
 v55 := Tryz.zeroValue165
 t66 := Tryz.underlying295
 a66 := Tryz.isAgg295
 z66 := Tryz.sizeOf295
 v66 := Tryz.zeroValue295
 t70 := Tryz.underlying299
 a70 := Tryz.isAgg299
 z70 := Tryz.sizeOf299
 v70 := Tryz.zeroValue299
 t76 := Tryz.underlying327
 a76 := Tryz.isAgg327
 z76 := Tryz.sizeOf327
 v76 := Tryz.zeroValue327
 t77 := Tryz.underlying305
 a77 := Tryz.isAgg305
 z77 := Tryz.sizeOf305
 v77 := Tryz.zeroValue305 }
end Go.Proofs
namespace Go.K
open Go.Proofs
set_option linter.unusedVariables false
set_option linter.unusedSimpArgs false
set_option maxRecDepth 10000
open Go.Proofs Go.Sort
abbrev TK : Type := {t : Fd // (0 : UInt8) ∉ t.1 ∧ t.1.length ≤ 1000000 ∧ t.2.length ≤ 1000000}
instance inhTK : Inhabited TK := ⟨⟨([], []), by simp, by simp, by simp⟩⟩
def encT (x : TK) : List Value := [.string ⟨x.1.1.toArray⟩, .string ⟨x.1.2.toArray⟩]
def cfT (x y : TK) : Int := Lib.compareBytes (keyE x.1) (keyE y.1)
theorem keyE_inj : ∀ {a b x y : List UInt8}, (0 : UInt8) ∉ a → (0 : UInt8) ∉ b → a ++ [0] ++ x = b ++ [0] ++ y → a = b ∧ x = y
 |[], [], _, _, _, _, h => ⟨rfl, by simpa using h⟩
 |[], c :: b, _, _, _, hb, h => by
  simp at h; exact absurd (by rw [← h.1]; exact List.mem_cons_self ..) hb
 |c :: a, [], _, _, ha, _, h => by
  simp at h; exact absurd (by rw [h.1]; exact List.mem_cons_self ..) ha
 |c :: a, e :: b, x, y, ha, hb, h => by
  simp only [List.cons_append, List.cons.injEq] at h
  obtain ⟨h1, h2⟩ := keyE_inj (fun h => ha (List.mem_cons_of_mem _ h)) (fun h => hb (List.mem_cons_of_mem _ h)) h.2
  exact ⟨by rw [h.1, h1], h2⟩
theorem agg_ (w : World) : (isAgg 47).run Tryz.prog w = .ok true w := by simp [isAgg, Sem.run_bind, run_underlying Tryz.underlying47]
theorem size_ (w : World) : (Go.sizeOf 47).run Tryz.prog w = .ok 2 w := by
 obtain ⟨i, h1, _, h2, _⟩ := I47.get
 simp [Go.sizeOf, typeInfo, Sem.run_bind, program, Sem.run, h1, h2]
theorem cmpLays_ (blk off size : Nat) (w : World) : CmpLays Tryz.prog 158 #[] encT 2 cfT blk off size w := fun m os dk hs x y =>
 (show Calls Tryz.prog 158 #[kv x.1, kv y.1] (sortWorldK encT 2 w blk off m dk os) (fun e w' => ∃ v, e = .returned v ∧ _ ∧ _) from inv2_ex (s := x.1) (t := y.1) _ x.2.2.1 x.2.2.2 y.2.2.1 y.2.2.2).mono fun e w' ⟨v, h1, h2, h3⟩ => ⟨by rw [h1, h2]; rfl, 1, #[termO x.1, termO y.1, termO x.1, termO y.1], by rw [h3]; simp only [alloc_grow, grow_drewN, Go.Sort.grow_grow]; rfl⟩
theorem sortF (blk off cap : Nat) (d : Array TK) (w : World) (hH : HoldsK encT 2 w blk off d) (hblk : blk < w.heap.size) (hsz : d.size < 4611686018427387904) :
  Spec Tryz.prog 196 #[.slice (some ⟨blk, off, none⟩) d.size cap, .func (.func 158) #[] #[]] w (fun v w' => v = .tuple #[] ∧ ∃ n os, w' = sortWorldK encT 2 w blk off n (d.toList.mergeSort fun x y => !(Go.Proofs.ltOf cfT) y x).toArray os) := by
 exact (Go.Proofs.AnyQ.slices_SortFunc_total Tryz.sortFt 2 agg_ size_ encT (fun _ => rfl) (fun x v hv => by simp [encT] at hv; rcases hv with rfl | rfl <;> rfl) cfT (cmp_swo _) 158 #[] blk off cap d w E158 (cmpLays_ blk off d.size w) hH hblk hsz (fun x y h1 h2 => by
  have h0 : cfT x y = 0 := by
   have := cmp_neg (keyE x.1) (keyE y.1)
   simp only [Go.Proofs.ltOf, decide_eq_false_iff_not] at h1 h2
   unfold cfT at h1 h2 ⊢; omega
  have h3 := cmp_zero h0
  obtain ⟨h4, h5⟩ := keyE_inj x.2.1 y.2.1 h3
  exact Subtype.ext (Prod.ext h4 h5))).mono fun e w' ⟨h1, h2⟩ => ⟨_, h1, rfl, h2⟩
end Go.K
namespace Go.K
set_option linter.unusedVariables false
set_option linter.unusedSimpArgs false
set_option linter.unusedSectionVars false
open Go.Sort Go.Proofs
section
variable {α : Type} [Inhabited α] {enc : α → List Value} {k : Nat}
theorem flatMap_get (hk : ∀ x, (enc x).length = k) (h0 : 0 < k) : ∀ (l : List α) (t : Nat), (l.flatMap enc)[t]? = (l[t / k]?).bind fun x => (enc x)[t % k]?
 |[], t => by simp
 |x :: l, t => by
  rw [List.flatMap_cons]
  rcases Nat.lt_or_ge t k with h | h
  ·rw [List.getElem?_append_left (by rw [hk]; exact h), Nat.div_eq_of_lt h, Nat.mod_eq_of_lt h]; rfl
  ·rw [List.getElem?_append_right (by rw [hk]; exact h), hk, flatMap_get hk h0 l]
   have e1 : t / k = (t - k) / k + 1 := by rw [Nat.div_eq t k, if_pos ⟨h0, h⟩]
   have e2 : (t - k) % k = t % k := by rw [Nat.mod_eq t k, if_pos ⟨h0, h⟩]
   rw [e1, e2, List.getElem?_cons_succ]
theorem flatMap_len (hk : ∀ x, (enc x).length = k) : ∀ l : List α, (l.flatMap enc).length = l.length * k
 |[] => by simp
 |x :: l => by rw [List.flatMap_cons, List.length_append, hk, flatMap_len hk l, List.length_cons, Nat.add_mul]; omega
theorem flatK_list (hk : ∀ x, (enc x).length = k) (h0 : 0 < k) (d : Array α) {t : Nat} (ht : t < d.size * k) : (d.toList.flatMap enc)[t]? = some (flatK enc k d)[t]! := by
 have h1 : t / k < d.size := Nat.div_lt_of_lt_mul (by rw [Nat.mul_comm]; exact ht)
 have h2 : t % k < k := Nat.mod_lt _ h0
 rw [flatMap_get hk h0, get_flatK _ _ _ _ ht]
 have e : d.toList[t / k]? = some d[t / k]! := by simp [h1]
 rw [e]
 simp [hk, h2]
theorem holdsK_of {w : World} {g : Nat} {cur : Array Value} {e : TypeId} {d : Array α} (hk : ∀ x, (enc x).length = k) (h0 : 0 < k) (hg : w.heap[g]? = some (.cells cur e (0, 0))) (hC : cur.toList.take (d.size * k) = d.toList.flatMap enc) : HoldsK enc k w g 0 d := fun j hj => by
 rw [size_flatK] at hj
 have h1 := flatK_list hk h0 d hj
 rw [← hC, List.getElem?_take, if_pos hj, Array.getElem?_toList] at h1
 constructor
 ·simp [World.cell?, hg, h1]
 ·simp [World.frozen?, hg]
theorem sortWorldK_at {w : World} {g n : Nat} {cur : Array Value} {e : TypeId} {d : Array α} {os : Array Obj} (hg : w.heap[g]? = some (.cells cur e (0, 0))) : (sortWorldK enc k w g 0 n d os).heap[g]? = some (.cells (putCells id 0 (flatK enc k d) cur) e (0, 0)) := by
 have hlt : g < w.heap.size := lt_of_get hg
 have h1 : (w.heap.modify g (onCells (putCells id 0 (flatK enc k d))))[g]? = some (.cells (putCells id 0 (flatK enc k d) cur) e (0, 0)) := by
  rw [Array.getElem?_modify, if_pos rfl, hg]; rfl
 show ((w.heap.modify g (onCells (putCells id 0 (flatK enc k d)))) ++ os)[g]? = _
 rw [Array.getElem?_append_left (by simpa using hlt)]; exact h1
theorem sortWorldK_step {w : World} {g n : Nat} {d : Array α} {os : Array Obj} : Step allM w allM (sortWorldK enc k w g 0 n d os) (fun b => b = g) :=
 ⟨fun h => absurd (h w.heap.size trivial) (Nat.lt_irrefl _), rfl, rfl, rfl, by show _ ≤ ((w.heap.modify g _) ++ os).size; simp, fun _ _ => Iff.rfl, fun b hb hn => by
  have hn : ¬ b = g := hn
  show ((w.heap.modify g (onCells (putCells id 0 (flatK enc k d)))) ++ os)[b]? = _
  rw [Array.getElem?_append_left (by simpa using hb), Array.getElem?_modify, if_neg (fun h => hn h.symm)], fun _ _ => trivial⟩
theorem putCells_take {F cur : Array Value} (h : F.size ≤ cur.size) : (putCells id 0 F cur).toList.take F.size = F.toList := by
 apply List.ext_getElem?
 intro j
 rw [List.getElem?_take]
 by_cases hj : j < F.size
 ·rw [if_pos hj]
  simp [putCells, hj, Nat.lt_of_lt_of_le hj h]
 ·rw [if_neg hj, List.getElem?_eq_none (by simpa using hj)]
theorem flatK_toList (hk : ∀ x, (enc x).length = k) (h0 : 0 < k) (d : Array α) : (flatK enc k d).toList = d.toList.flatMap enc := by
 apply List.ext_getElem?
 intro j
 by_cases hj : j < d.size * k
 ·rw [flatK_list hk h0 d hj]
  have : j < (flatK enc k d).size := by rw [size_flatK]; exact hj
  rw [Array.getElem?_toList, getElem!_pos _ j this]; exact Array.getElem?_eq_getElem this
 ·rw [List.getElem?_eq_none (by rw [Array.length_toList, size_flatK]; omega), List.getElem?_eq_none (by rw [flatMap_len hk, Array.length_toList]; omega)]
end
end Go.K
namespace Go.K
open Go.Proofs
set_option linter.unusedVariables false
set_option linter.unusedSimpArgs false
set_option maxRecDepth 10000
open Go.Proofs Go.Sort
theorem AllR_fd : ∀ {ts : List Fd} {C : List Value} {M : PSet} {w : World}, AllR RT.fd M w ts C → C = ts.flatMap fun t => [.string ⟨t.1.toArray⟩, .string ⟨t.2.toArray⟩]
 |[], C, _, _, h => h
 |t :: ts, C, _, _, ⟨vs, r, h1, h2, h3⟩ => by
  obtain ⟨va, vb, rfl, h4, h5⟩ := h2
  rw [h1, AllR_fd h3, h4.1, h5.1]; rfl
theorem AllR_fd' {M : PSet} {w : World} : ∀ {ts : List Fd}, (∀ t ∈ ts, t.1.length ≤ 1000000 ∧ t.2.length ≤ 1000000) → AllR RT.fd M w ts (ts.flatMap fun t => [.string ⟨t.1.toArray⟩, .string ⟨t.2.toArray⟩])
 |[], _ => rfl
 |t :: ts, h => by
  obtain ⟨h1, h2⟩ := h t (List.mem_cons_self ..)
  exact ⟨_, _, rfl, ⟨_, _, rfl, ⟨rfl, by omega⟩, ⟨rfl, by omega⟩⟩, AllR_fd' fun u hu => h u (List.mem_cons_of_mem _ hu)⟩
def ByKey (us : List Fd) : Prop := us.Pairwise fun a b => ¬ Lib.compareBytes (keyE b) (keyE a) < 0
theorem termSort_spec {base : Nat} {v : Value} {ts : List Fd} (w0 : World) (ho : Own RT.fd 47 (blkM v) w0 base v ts) (hT : ∀ t ∈ ts, (0 : UInt8) ∉ t.1 ∧ t.1.length ≤ 1000000 ∧ t.2.length ≤ 1000000) (hl : ts.length ≤ 100000000) :
  Spec Tryz.prog 196 #[v, .func (.func 158) #[] #[]] w0 (fun r w => r = .tuple #[] ∧ ∃ us : List Fd, us.Perm ts ∧ ByKey us ∧ Own RT.fd 47 (blkM v) w base v us ∧ Step allM w0 allM w (blkM v)) := by
 obtain ⟨⟨C, ⟨hC, hr⟩, hA⟩, hm⟩ := ho
 rcases hr with ⟨rfl, h0⟩ | ⟨g, cap, cur, rfl, hb, hg, hle, hmx, hcz, hpre⟩
 ·have hts : ts = [] := List.length_eq_zero_iff.1 h0
  subst hts
  exact (AnyF.slices_SortFunc_none Tryz.sortFt none 0 _ w0).mono fun e w' ⟨h1, h2⟩ => ⟨_, h1, rfl, [], .refl _, List.Pairwise.nil, Own.nil _ _ _ _ _, by rw [h2]; exact (Step.refl allM w0).widen (fun _ h => h.elim) (fun _ _ => trivial)⟩
 ·obtain ⟨d, hd⟩ : ∃ d : Array TK, d.toList.map (·.1) = ts := ⟨(ts.attach.map fun x => (⟨x.1, hT x.1 x.2⟩ : TK)).toArray, by rw [List.toList_toArray, List.map_map]; exact List.attach_map_subtype_val ts⟩
  have hsz : d.size = ts.length := by rw [← hd]; simp
  have hk : ∀ x : TK, (encT x).length = 2 := fun _ => rfl
  have henc : ∀ l : List TK, (l.map (·.1)).flatMap (fun t : Fd => [Value.string ⟨t.1.toArray⟩, .string ⟨t.2.toArray⟩]) = l.flatMap encT := fun l => by rw [List.flatMap_map]; rfl
  have hH : HoldsK encT 2 w0 g 0 d := holdsK_of hk (by omega) hg (by
   have e2 : RT.fd.n = 2 := rfl
   rw [e2] at hpre; rw [hsz, hpre, AllR_fd hA, ← hd, henc])
  have hs := sortF g 0 cap d w0 hH (lt_of_get hg) (by omega)
  rw [hsz] at hs
  refine hs.mono fun r w' ⟨h1, n, os, h2⟩ => ⟨h1, (d.toList.mergeSort fun x y => !(ltOf cfT) y x).map (·.1), ?_, ?_, ?_, ?_⟩
  ·rw [← hd]; exact (List.mergeSort_perm _ _).map _
  ·refine List.pairwise_map.2 ((List.pairwise_mergeSort (fun a b c h1 h2 => ?_) (fun a b => ?_) _).imp fun h => ?_)
   ·simp only [ltOf, Bool.not_eq_true', decide_eq_false_iff_not] at *
    have := (cmp_swo fun x : TK => keyE x.1).ntrans c b a (by simpa [ltOf, cfT] using h2) (by simpa [ltOf, cfT] using h1)
    simpa [ltOf, cfT] using this
   ·simp only [ltOf, Bool.or_eq_true, Bool.not_eq_true', decide_eq_false_iff_not]
    have := cmp_neg (keyE a.1) (keyE b.1)
    unfold cfT; omega
   ·rw [Bool.not_eq_true'] at h; exact of_decide_eq_false h
  ·have hp := List.mergeSort_perm d.toList fun x y => !(ltOf cfT) y x
   rw [h2]
   generalize (d.toList.mergeSort fun x y => !(ltOf cfT) y x) = us at hp
   have hul : (us.map (·.1)).length = ts.length := by rw [List.length_map, hp.length_eq, Array.length_toList, hsz]
   have hus : us.toArray.size * 2 = ts.length * 2 := by rw [← hul]; simp
   have e2 : RT.fd.n = 2 := rfl
   refine ⟨⟨(us.map (·.1)).flatMap (fun t : Fd => [Value.string ⟨t.1.toArray⟩, .string ⟨t.2.toArray⟩]), ⟨?_, .inr ⟨g, cap, _, by rw [hul], hb, sortWorldK_at hg, by rw [hul]; exact hle, hmx, by rw [← hcz]; simp [putCells], ?_⟩⟩, AllR_fd' fun t ht => ?_⟩, hm⟩
   ·rw [henc, flatMap_len hk, List.length_map, e2]
   ·rw [henc, hul, e2, ← hus, ← size_flatK encT, putCells_take (by rw [size_flatK, hus, hcz, e2]; omega), flatK_toList hk (by omega)]
   ·obtain ⟨x, _, rfl⟩ := List.mem_map.1 ht
    exact x.2.2
  ·rw [h2]; exact sortWorldK_step.widen (fun b hb => by have hb : b = g := hb; subst hb; rfl) (fun _ _ => trivial)
end Go.K
namespace Go.K
open Go.Proofs
set_option linter.unusedVariables false
set_option linter.unusedSimpArgs false
set_option maxRecDepth 10000
theorem sorted_spec {bs mb clock : Nat} {es : List MapEntry} (w0 : World) (hk : Known es) (hT : ∀ e ∈ es, ∀ t, e.key = kv t → (0 : UInt8) ∉ t.1 ∧ t.1.length ≤ 1000000 ∧ t.2.length ≤ 1000000) (hes : es.length ≤ 100000000) (hlen : ∀ ts : List Fd, ts.Nodup → (∀ t ∈ ts, ∃ e ∈ es, e.key = kv t) → ts.length ≤ 100000000) (gbs : w0.heap[bs]? = some (.cells #[.map (some mb)] 227 (0, 0))) (hW : MapW Tryz.prog 47 w0 mb es clock) :
  Spec Tryz.prog 156 #[.func (.func 197) #[] [.pointer (some ⟨bs, 0, none⟩)].toArray, .func (.func 158) #[] #[]] w0 (fun v w => ∃ us : List Fd, us.Nodup ∧ (∀ t, t ∈ us ↔ ∃ e ∈ es, e.key = kv t) ∧ ByKey us ∧ Own RT.fd 47 (blkM v) w w0.heap.size v us ∧ Step allM w0 allM w none') := by
 refine spec_of (args := [_, _]) (fn := Tryz.f156) Tryz.func156 rfl (n := 12) Tryz.ntmps156 ?_
 refine T.seq ?_
 refine T.region ?_
 refine Rg.assign rfl rfl ?_
 refine Rg.nil ?_
 refine T.seq ?_
 refine T.region ?_
 refine Rg.move rfl rfl ?_
 refine Rg.call rfl rfl E195 (collect_spec _ hk hes gbs hW) (fun v1 w1 hc => ?_)
 obtain ⟨ts, hnd, hin, ho, s1⟩ := hc
 refine Rg.assign rfl rfl ?_
 refine Rg.nil ?_
 refine T.seq ?_
 refine T.region ?_
 refine Rg.move rfl rfl ?_
 refine Rg.move rfl rfl ?_
 refine Rg.call rfl rfl E196 (termSort_spec _ ho (fun t ht => by obtain ⟨e, he, hke⟩ := (hin t).1 ht; exact hT e he t hke) (hlen ts hnd fun t ht => (hin t).1 ht)) (fun r2 w2 hc => ?_)
 obtain ⟨rfl, us, hp, hby, hou, s2⟩ := hc
 refine Rg.nil ?_
 refine T.seq ?_
 refine T.region ?_
 refine Rg.move rfl rfl ?_
 refine Rg.assign rfl rfl ?_
 refine Rg.nil ?_
 refine T.ret ?_
 exact Kret1 rfl rfl ⟨us, hp.nodup_iff.2 hnd, fun t => hp.mem_iff.trans (hin t), hby, hou, s1.trans s2 (fun k hk hn => by have := (ho.base k hn).1; omega)⟩
theorem mkeys_spec {mb : Nat} (w0 : World) :
  Spec Tryz.prog 157 #[.map (some mb)] w0 (fun v w => ∃ bs, v = .func (.func 197) #[] [.pointer (some ⟨bs, 0, none⟩)].toArray ∧ w.heap[bs]? = some (.cells #[.map (some mb)] 227 (0, 0)) ∧ w0.heap.size ≤ bs ∧ Step allM w0 allM w none') := by
 refine spec_of (args := [_]) (fn := Tryz.f157) Tryz.func157 rfl (n := 4) Tryz.ntmps157 ?_
 refine T.seq ?_
 refine T.region ?_
 refine Rg.box allM rfl rfl (fun bs w1 hb1 hb2 gs s1 => ?_)
 change w1.heap[bs]? = some (.cells #[.map (some mb)] 227 (0, 0)) at gs
 replace s1 := s1.all
 refine Rg.assign rfl rfl ?_
 refine Rg.nil ?_
 refine T.seq ?_
 refine T.region ?_
 refine Rg.makeFunc (xs := []) (ys := [.tmp 1]) rfl rfl rfl ?_
 refine Rg.assign rfl rfl ?_
 refine Rg.nil ?_
 refine T.ret ?_
 exact Kret1 rfl rfl ⟨bs, rfl, gs, hb1, s1⟩
end Go.K

/- The rules of the operations on memory: slices, boxes, appends, texts of bytes. No program is named here. -/
import Derived.Test.YtohfoenhmkfjkaaGreatDoorKOps
import Derived.ArgAppend
namespace Go.K
set_option linter.unusedVariables false
set_option linter.unusedSimpArgs false

/-- the pointer v leads to cells that stand for x -/
def PtrTo {α : Type} (A : RT α) (M : PSet) (w : World) (v : Value) (x : α) : Prop := ∃ b o vs, v = .pointer (some ⟨b, o, none⟩) ∧ ¬ M b ∧ A.R M w x vs ∧ w.rangeAt b o vs

theorem PtrTo.le {α : Type} {A : RT α} (hn : 0 < A.n) {M M' : PSet} {w w' : World} {v : Value} {x : α} (hl : Le M w M' w') (h : PtrTo A M w v x) : PtrTo A M' w' v x := by
  obtain ⟨b, o, vs, h1, h2, h3, h4⟩ := h
  have hp : 0 < vs.length := by rw [A.len h3]; exact hn
  have hc := h4 0 (vs[0]'hp) (List.getElem?_eq_getElem hp)
  exact ⟨b, o, vs, h1, (hl b (World.block_lt_of_cell? w _ hc) h2).1, A.le hl h3, rangeAt_le hl h2 h4⟩

/-- B is a part of A, so many cells behind its beginning -/
structure Part {α β : Type} (A : RT α) (B : RT β) (f : α → β) (off : Nat) : Prop where
  get : ∀ {M w x vs}, A.R M w x vs → ∃ a b c, vs = a ++ b ++ c ∧ a.length = off ∧ B.R M w (f x) b

theorem Part.self {α : Type} (A : RT α) : Part A A id 0 := ⟨fun {_ _ _ vs} h => ⟨[], vs, [], by simp, rfl, h⟩⟩
theorem Part.fst {α β : Type} (A : RT α) (B : RT β) : Part (A.pair B) A Prod.fst 0 := ⟨fun {_ _ _ _} ⟨va, vb, h0, h1, _⟩ => ⟨[], va, vb, by simpa using h0, rfl, h1⟩⟩
theorem Part.snd {α β : Type} (A : RT α) (B : RT β) : Part (A.pair B) B Prod.snd A.n := ⟨fun {_ _ _ _} ⟨va, vb, h0, h1, h2⟩ => ⟨va, vb, [], by simpa using h0, A.len h1, h2⟩⟩
theorem Part.trans {α β γ : Type} {A : RT α} {B : RT β} {C : RT γ} {f : α → β} {g : β → γ} {i j : Nat} (h : Part A B f i) (h' : Part B C g j) : Part A C (g ∘ f) (i + j) :=
  ⟨fun {_ _ _ _} hx => by
    obtain ⟨a, b, c, h1, h2, h3⟩ := h.get hx
    obtain ⟨a', b', c', h4, h5, h6⟩ := h'.get h3
    exact ⟨a ++ a', b', c' ++ c, by rw [h1, h4]; simp, by rw [List.length_append, h2, h5], h6⟩⟩
theorem Part.iso {α β γ : Type} {A : RT α} {B : RT γ} {f : α → γ} {i : Nat} (g : β → α) (h : Part A B f i) : Part (A.iso g) B (f ∘ g) i := ⟨fun {_ _ _ _} hx => h.get hx⟩

theorem PtrTo.part {α β : Type} {A : RT α} {B : RT β} {f : α → β} {off : Nat} (hp : Part A B f off) {M : PSet} {w : World} {b o : Nat} {x : α} {vs : List Value} (hm : ¬ M b) (hx : A.R M w x vs) (hr : w.rangeAt b o vs) :
    PtrTo B M w (.pointer (some ⟨b, o + off, none⟩)) (f x) := by
  obtain ⟨a, c, e, h1, h2, h3⟩ := hp.get hx
  refine ⟨b, o + off, c, rfl, hm, h3, fun j v hv => ?_⟩
  have hj : j < c.length := (List.getElem?_eq_some_iff.1 hv).1
  have := hr (off + j) v (by
    rw [h1, List.append_assoc, List.getElem?_append_right (by omega), h2, List.getElem?_append_left (by omega)]
    rw [show off + j - off = j from by omega]; exact hv)
  rwa [show o + (off + j) = o + off + j from by omega] at this

/-- a type that is no struct and no array -/
def flat : TypeDesc → Bool
  | .struct _ | .array _ _ => false
  | _ => true

theorem run_loadFlat {P : Program} {w : World} {t : TypeId} {u : TypeDesc} (hu : P.underlying t = some u) (hf : flat u = true) {b o : Nat} {v : Value} (hc : w.cell? ⟨b, o, none⟩ = some v) :
    (Instr.loadAt t (.pointer (some ⟨b, o, none⟩))).run P w = .ok v w := by
  have hagg : (isAgg t).run P w = .ok false w := by
    unfold isAgg
    rw [Sem.run_bind, run_underlying hu w]
    cases u <;> simp_all [flat, Result.andThen]
  simp [Instr.loadAt, Instr.sureAddr, loadVar, hagg, load, Sem.run, hc]

theorem run_storeFlat {P : Program} {w : World} {t : TypeId} {z : Value} {bytes : Nat} (ht : TI P t z 1 bytes) {b o : Nat} {v : Value} (h1 : v.oneCell' = true) (hc : (w.cell? ⟨b, o, none⟩).isSome = true) (hf : w.frozen? ⟨b, o, none⟩ = false) :
    (Instr.storeAt t (.pointer (some ⟨b, o, none⟩)) v).run P w = .ok () (w.setCell ⟨b, o, none⟩ v) := by
  obtain ⟨u, hu⟩ := Option.isSome_iff_exists.1 hc
  have hv : v.cells = #[v] := by cases v <;> simp_all [Value.oneCell', Value.cells]
  simp only [Instr.storeAt, Instr.sureAddr, storeVar, Sem.run_bind, Sem.run_pure, Result.andThen_ok, ht.sizeOf, hv]
  simp only [List.size_toArray, List.length_cons, List.length_nil, ne_eq, not_true_eq_false, if_false, storeCells, Addr.add_mid]
  cases v <;> simp_all [store, Sem.run, Value.oneCell']

section
variable {P : Program} {r : Option Nat} {n : Nat} {L : Sl} {ds : List Deferred} {w : World} {K : Kt} {ops : Array Oper} {rest : List Oper}
variable {d : Nat} {ty : TypeId} {pos : String} {af : Array Edge} {x y z : Operand} {α : Type} {A : RT α}

/-- the address of an element -/
theorem Rg.idx {t e : TypeId} {i : Operand} {κ : IntKind} {j : Int} {hn : 0 < A.n} {M M1 : PSet} {w1 : World} {xs : List α} {v zv : Value} {bytes : Nat} (ht : P.underlying t = some (.slice e)) (hi : TI P e zv A.n bytes)
    (hx : ev L x = some v) (hix : ev L i = some (.int κ j)) (hd : Nat.blt d n = true) (hv : (A.sl hn).V M1 w1 xs v) (hle : Le M1 w1 M w) (hj : 0 ≤ j ∧ j < xs.length)
    (k : ∀ u a, xs[j.toNat]? = some a → PtrTo A M w u a → Rg P r n ops rest ((d, u) :: L) ds w K) :
    Rg P r n ops ({ dst := some d, op := .indexAddr t x i, type := ty, pos, after := af, guard := none } :: rest) L ds w K := by
  obtain ⟨a, cap, rfl, hc, hl, hs⟩ := V_sl.1 (hv.le hle)
  have hlt : j.toNat < xs.length := by omega
  rcases hs with rfl | ⟨b, o, rfl, hm, hel⟩
  · simp at hlt
  · obtain ⟨vs, h1, h2⟩ := hel _ _ (List.getElem?_eq_getElem hlt)
    refine .op (fun _ h => by cases h) rfl rfl hd (.pointer (some ⟨b, o + j.toNat * A.n, none⟩)) w (fun ρ h => ?_) (k _ xs[j.toNat] (List.getElem?_eq_getElem hlt) ⟨b, _, vs, rfl, hm, h1, h2⟩)
    simp only [execOp, h x _ hx, h i _ hix]
    simp [Instr.indexAt, run_underlying ht, asIntOf, hj, hi.sizeOf, Addr.add_mid]

/-- an element's part that is one cell -/
theorem Rg.load {t : TypeId} {u : TypeDesc} {M M1 : PSet} {w1 : World} {p : Value} {a : α} (hu : P.underlying t = some u) (hf : flat u = true) (hA : A.n = 1) (hg : A.agg = false)
    (hx : ev L x = some p) (hd : Nat.blt d n = true) (hp : PtrTo A M1 w1 p a) (hle : Le M1 w1 M w) (k : ∀ v, A.V M w a v → Rg P r n ops rest ((d, v) :: L) ds w K) :
    Rg P r n ops ({ dst := some d, op := .load t x, type := ty, pos, after := af, guard := none } :: rest) L ds w K := by
  obtain ⟨b, o, vs, rfl, hm, h1, h2⟩ := hp.le (by omega) hle
  have hl := A.len h1
  match vs, hl with
  | [v], _ =>
    refine .op (fun _ h => by cases h) rfl rfl hd v w (fun ρ h => ?_) (k v ⟨[v], h1, by simp [RT.val, hg]⟩)
    simp only [execOp, h x _ hx]
    have := run_loadFlat (P := P) hu hf (h2 0 v rfl)
    simp only [Nat.add_zero] at this
    rw [Sem.run_bind, this]; simp
  | [], hl => simp at hl; omega
  | _ :: _ :: _, hl => simp at hl; omega
theorem Rg.loadint {t : TypeId} {κ : IntKind} {M1 : PSet} {w1 : World} {p : Value} {a : Int} (hu : P.underlying t = some (.int κ)) (hx : ev L x = some p) (hd : Nat.blt d n = true) {M : PSet} (hp : PtrTo (RT.int κ) M1 w1 p a)
    (hle : Le M1 w1 M w) (k : κ.min ≤ a → a ≤ κ.max → Rg P r n ops rest ((d, .int κ a) :: L) ds w K) :
    Rg P r n ops ({ dst := some d, op := .load t x, type := ty, pos, after := af, guard := none } :: rest) L ds w K :=
  .load hu rfl rfl rfl hx hd hp hle fun v hv => by obtain ⟨rfl, h1, h2⟩ := V_int.1 hv; exact k h1 h2
theorem V_cells {hn : 0 < A.n} {M : PSet} {w : World} {xs : List α} {v : Value} (h : (A.sl hn).V M w xs v) : v.cells = #[v] := by
  obtain ⟨a, cap, rfl, _⟩ := V_sl.1 h; rfl
theorem V_i64 {M : PSet} {w : World} {x : Int} (h : -9223372036854775808 ≤ x ∧ x ≤ 9223372036854775807) : (RT.int .i64).V M w x (.int .i64 x) := V_int.2 ⟨rfl, h.1, h.2⟩
theorem Rg.loadi64 {t : TypeId} {M1 : PSet} {w1 : World} {p : Value} {a : Int} (hu : P.underlying t = some (.int .i64)) (hx : ev L x = some p) (hd : Nat.blt d n = true) {M : PSet} (hp : PtrTo (RT.int .i64) M1 w1 p a)
    (hle : Le M1 w1 M w) (k : -9223372036854775808 ≤ a ∧ a ≤ 9223372036854775807 → Rg P r n ops rest ((d, .int .i64 a) :: L) ds w K) :
    Rg P r n ops ({ dst := some d, op := .load t x, type := ty, pos, after := af, guard := none } :: rest) L ds w K :=
  .loadint hu hx hd hp hle fun h1 h2 => k ⟨h1, h2⟩
/-- what a slice's numbers are held to -/
theorem i64_of {hn : 0 < (RT.int .i64).n} {M : PSet} {w : World} {xs : List Int} {v : Value} (h : ((RT.int .i64).sl hn).V M w xs v) {i : Nat} {x : Int} (hx : xs[i]? = some x) : -9223372036854775808 ≤ x ∧ x ≤ 9223372036854775807 := by
  obtain ⟨a, cap, _, _, _, hs⟩ := V_sl.1 h
  rcases hs with rfl | ⟨b, o, _, _, hel⟩
  · simp at hx
  · obtain ⟨vs, h1, _⟩ := hel i x hx
    exact ⟨h1.2.1, h1.2.2⟩
theorem Rg.loadu8 {t : TypeId} {M1 : PSet} {w1 : World} {p : Value} {a : UInt8} (hu : P.underlying t = some (.int .u8)) (hx : ev L x = some p) (hd : Nat.blt d n = true) {M : PSet} (hp : PtrTo RT.u8 M1 w1 p a)
    (hle : Le M1 w1 M w) (k : Rg P r n ops rest ((d, .int .u8 a.toNat) :: L) ds w K) :
    Rg P r n ops ({ dst := some d, op := .load t x, type := ty, pos, after := af, guard := none } :: rest) L ds w K :=
  .load hu rfl rfl rfl hx hd hp hle fun v hv => by rw [V_u8.1 hv]; exact k
/-- an element that is a struct -/
theorem Rg.loadagg {t : TypeId} {fs : TypeDesc} {zv : Value} {bytes : Nat} {M M1 : PSet} {w1 : World} {p : Value} {a : α} (hu : P.underlying t = some fs) (hf : fs.isRow = true) (hi : TI P t zv A.n bytes) (hA : 0 < A.n) (hg : A.agg = true)
    (hx : ev L x = some p) (hd : Nat.blt d n = true) (hp : PtrTo A M1 w1 p a) (hle : Le M1 w1 M w) (k : ∀ v, A.V M w a v → Rg P r n ops rest ((d, v) :: L) ds w K) :
    Rg P r n ops ({ dst := some d, op := .load t x, type := ty, pos, after := af, guard := none } :: rest) L ds w K := by
  obtain ⟨b, o, vs, rfl, hm, h1, h2⟩ := hp.le hA hle
  refine .op (fun _ h => by cases h) rfl rfl hd (.agg vs.toArray) w (fun ρ h => ?_) (k _ ⟨vs, h1, by simp [RT.val, hg]⟩)
  simp only [execOp, h x _ hx]
  obtain ⟨i, hi1, _, hi2, _⟩ := hi.get
  have := run_loadAt_mid (P := P) w b o t vs fs h2 hu hf (by simp [hi1, hi2, A.len h1])
  simp [this]

/-- the address of a struct's field -/
theorem Rg.fieldAddr {β : Type} {B : RT β} {f : α → β} {off : Nat} {s : TypeId} {fs : Array Field} {fd : Field} {j : Nat} {zv : Value} {bytes : Nat} {M M1 : PSet} {w1 : World} {p : Value} {a : α}
    (hu : P.underlying s = some (.struct fs)) (hfd : fs[j]? = some fd) (ho : fd.offset = off) (hi : TI P fd.type zv B.n bytes) (hB : 0 < B.n) (hp : Part A B f off)
    (hx : ev L x = some p) (hd : Nat.blt d n = true) (hA : 0 < A.n) (hpt : PtrTo A M1 w1 p a) (hle : Le M1 w1 M w) (k : ∀ u, PtrTo B M w u (f a) → Rg P r n ops rest ((d, u) :: L) ds w K) :
    Rg P r n ops ({ dst := some d, op := .fieldAddr s x j, type := ty, pos, after := af, guard := none } :: rest) L ds w K := by
  obtain ⟨b, o, vs, rfl, hm, h1, h2⟩ := hpt.le hA hle
  refine .op (fun _ h => by cases h) rfl rfl hd _ w (fun ρ h => ?_) (k _ (PtrTo.part hp hm h1 h2))
  simp only [execOp, h x _ hx]
  simp [Instr.fieldAt, run_underlying hu, hfd, Instr.sureAddr, fieldPlace, hi.sizeOf, show B.n ≠ 0 from by omega, ho, Addr.add_mid]

/-- a struct's field -/
theorem Rg.field {β : Type} {B : RT β} {f : α → β} {off : Nat} {s : TypeId} {fs : Array Field} {fd : Field} {j : Nat} {u : TypeDesc} {zv : Value} {bytes : Nat} {M : PSet} {w1 : World} {p : Value} {a : α}
    (hu : P.underlying s = some (.struct fs)) (hfd : fs[j]? = some fd) (ho : fd.offset = off) (hft : P.underlying fd.type = some u) (hi : TI P fd.type zv B.n bytes) (hag : u.isRow = B.agg) (hB : B.agg = false → B.n = 1) (hp : Part A B f off)
    (hx : ev L x = some p) (hd : Nat.blt d n = true) (hg : A.agg = true) (hpt : A.V M w1 a p) (k : ∀ v, B.V M w1 (f a) v → Rg P r n ops rest ((d, v) :: L) ds w K) :
    Rg P r n ops ({ dst := some d, op := .field s x j, type := ty, pos, after := af, guard := none } :: rest) L ds w K := by
  obtain ⟨vs, h1, rfl⟩ := hpt
  obtain ⟨va, vb, vc, h2, h3, h4⟩ := hp.get h1
  have hl := B.len h4
  have hagg : (isAgg fd.type).run P w = .ok B.agg w := by
    unfold isAgg
    rw [Sem.run_bind, run_underlying hft w, ← hag]
    cases u <;> simp [Result.andThen, TypeDesc.isRow]
  refine .op (fun _ h => by cases h) rfl rfl hd (B.val vb) w (fun ρ h => ?_) (k _ ⟨vb, h4, rfl⟩)
  simp only [execOp, h x _ hx, RT.val, hg, if_true]
  simp only [Instr.field, part, asAgg, Sem.run_bind, Sem.run_pure, Result.andThen_ok, run_underlying hu, hfd, hagg, hi.sizeOf, ho]
  cases hb : B.agg with
  | true =>
    have : List.take B.n (List.drop off vs) = vb := by
      rw [h2, ← h3, List.append_assoc, List.drop_left, ← hl, List.take_left]
    simp [this, hi.sizeOf]
  | false =>
    have h1 := hB hb
    match vb, hl, h1 with
    | [v], _, _ =>
      have : vs[off]? = some v := by rw [h2, List.append_assoc, List.getElem?_append_right (by omega), h3]; simp
      simp [this]
    | [], hl, h1 => simp at hl; omega
    | _ :: _ :: _, hl, h1 => simp at hl; omega

/-! ### Parts of slices -/
theorem SlAt.slice {M : PSet} {w : World} {a : Option Addr} {xs : List α} (lo hi cap m : Nat) (h1 : lo ≤ hi) (h2 : hi ≤ xs.length) (hm : hi ≤ m) (hs : SlAt A M w a xs) :
    SlAt A M w (if m = lo then a else a.map (·.add (lo * A.n))) ((xs.take hi).drop lo) := by
  by_cases hml : m = lo
  · left
    apply List.drop_eq_nil_of_le
    rw [List.length_take]; omega
  · rw [if_neg hml]
    rcases hs with rfl | ⟨b, o, rfl, h3, h4⟩
    · left; simp
    · right
      refine ⟨b, o + lo * A.n, by simp [Addr.add_mid], h3, fun i x hx => ?_⟩
      rw [List.getElem?_drop, List.getElem?_take] at hx
      split at hx
      · obtain ⟨vs, h5, h6⟩ := h4 _ _ hx
        refine ⟨vs, h5, ?_⟩
        rw [show o + lo * A.n + i * A.n = o + (lo + i) * A.n from by rw [Nat.add_mul]; omega]; exact h6
      · cases hx

theorem elem_of {t e : TypeId} (ht : P.underlying t = some (.slice e)) : P.underlying t = some (.slice (P.elem t)) := by simp [Program.elem, ht]
theorem elem_eq {t e : TypeId} (ht : P.underlying t = some (.slice e)) : P.elem t = e := by simp [Program.elem, ht]

/-- x[lo:hi], hi up to the length -/
theorem Rg.slice_lh {t e : TypeId} {l h : Operand} {κ κ' : IntKind} {lo hi : Int} {hn : 0 < A.n} {M : PSet} {w1 : World} {xs : List α} {v zv : Value} {bytes : Nat} (ht : P.underlying t = some (.slice e)) (hti : TI P e zv A.n bytes)
    (hx : ev L x = some v) (hl : ev L l = some (.int κ lo)) (hh : ev L h = some (.int κ' hi)) (hd : Nat.blt d n = true) (hv : (A.sl hn).V M w1 xs v) (hb : 0 ≤ lo ∧ lo ≤ hi ∧ hi ≤ xs.length)
    (k : ∀ u, (A.sl hn).V M w1 ((xs.take hi.toNat).drop lo.toNat) u → Rg P r n ops rest ((d, u) :: L) ds w K) :
    Rg P r n ops ({ dst := some d, op := .slice t x (some l) (some h) none, type := ty, pos, after := af, guard := none } :: rest) L ds w K := by
  obtain ⟨a, cap, rfl, hc, hlen, hs⟩ := V_sl.1 hv
  have hlen2 : ((xs.take hi.toNat).drop lo.toNat).length = hi.toNat - lo.toNat := by rw [List.length_drop, List.length_take]; omega
  refine .op (fun _ h => by cases h) rfl rfl hd (sliced a lo.toNat hi.toNat cap A.n) w (fun ρ hρ => ?_) (k _ (V_sl.2 ⟨_, cap - lo.toNat, ?_, by omega, by omega, hs.slice lo.toNat hi.toNat cap cap (by omega) (by omega) (by omega)⟩))
  · simp only [execOp, hρ x _ hx, Option.map_some, Option.map_none, hρ l _ hl, hρ h _ hh]
    rw [Sem.run_bind, run_sliceAt_slice _ _ _ _ _ _ (elem_of ht), run_slice_lh _ _ _ _ _ (elem_of ht) _ _ _ _ hb.1 hb.2.1 (by omega), elem_eq ht, hti.sizeOf]
    simp
  · rw [hlen2]; rfl
theorem Rg.slice_h {t e : TypeId} {h : Operand} {κ' : IntKind} {hi : Int} {hn : 0 < A.n} {M : PSet} {w1 : World} {xs : List α} {v zv : Value} {bytes : Nat} (ht : P.underlying t = some (.slice e)) (hti : TI P e zv A.n bytes)
    (hx : ev L x = some v) (hh : ev L h = some (.int κ' hi)) (hd : Nat.blt d n = true) (hv : (A.sl hn).V M w1 xs v) (hb : 0 ≤ hi ∧ hi ≤ xs.length)
    (k : ∀ u, (A.sl hn).V M w1 (xs.take hi.toNat) u → Rg P r n ops rest ((d, u) :: L) ds w K) :
    Rg P r n ops ({ dst := some d, op := .slice t x none (some h) none, type := ty, pos, after := af, guard := none } :: rest) L ds w K := by
  obtain ⟨a, cap, rfl, hc, hlen, hs⟩ := V_sl.1 hv
  have hlen2 : (xs.take hi.toNat).length = hi.toNat := by rw [List.length_take]; omega
  have hs2 := hs.slice (A := A) 0 hi.toNat cap cap (by omega) (by omega) (by omega)
  rw [List.drop_zero] at hs2
  refine .op (fun _ h => by cases h) rfl rfl hd (sliced a 0 hi.toNat cap A.n) w (fun ρ hρ => ?_) (k _ (V_sl.2 ⟨_, cap, ?_, by omega, by omega, hs2⟩))
  · simp only [execOp, hρ x _ hx, Option.map_some, Option.map_none, hρ h _ hh]
    rw [Sem.run_bind, run_sliceAt_slice _ _ _ _ _ _ (elem_of ht), run_slice_h _ _ _ _ _ (elem_of ht) _ _ hb.1 (by omega), elem_eq ht, hti.sizeOf]
    simp
  · rw [hlen2]; simp [sliced]
theorem Rg.slice_l {t e : TypeId} {l : Operand} {κ : IntKind} {lo : Int} {hn : 0 < A.n} {M : PSet} {w1 : World} {xs : List α} {v zv : Value} {bytes : Nat} (ht : P.underlying t = some (.slice e)) (hti : TI P e zv A.n bytes)
    (hx : ev L x = some v) (hl : ev L l = some (.int κ lo)) (hd : Nat.blt d n = true) (hv : (A.sl hn).V M w1 xs v) (hb : 0 ≤ lo ∧ lo ≤ xs.length)
    (k : ∀ u, (A.sl hn).V M w1 (xs.drop lo.toNat) u → Rg P r n ops rest ((d, u) :: L) ds w K) :
    Rg P r n ops ({ dst := some d, op := .slice t x (some l) none none, type := ty, pos, after := af, guard := none } :: rest) L ds w K := by
  obtain ⟨a, cap, rfl, hc, hlen, hs⟩ := V_sl.1 hv
  have hlen2 : (xs.drop lo.toNat).length = xs.length - lo.toNat := by rw [List.length_drop]
  have hs2 := hs.slice (A := A) lo.toNat xs.length cap cap (by omega) (by omega) (by omega)
  rw [List.take_length] at hs2
  refine .op (fun _ h => by cases h) rfl rfl hd (sliced a lo.toNat xs.length cap A.n) w (fun ρ hρ => ?_) (k _ (V_sl.2 ⟨_, cap - lo.toNat, ?_, by omega, by omega, hs2⟩))
  · simp only [execOp, hρ x _ hx, Option.map_some, Option.map_none, hρ l _ hl]
    rw [Sem.run_bind, run_sliceAt_slice _ _ _ _ _ _ (elem_of ht), run_slice_l _ _ _ _ _ (elem_of ht) _ _ hb.1 (by omega), elem_eq ht, hti.sizeOf]
    simp
  · rw [hlen2]; rfl
/-- x[:len(x):len(x)]: no room is left behind it -/
theorem Rg.slice_clip {t e : TypeId} {h m : Operand} {κ κ' : IntKind} {hi mx : Int} {hn : 0 < A.n} {M : PSet} {w1 : World} {xs : List α} {v zv : Value} {bytes : Nat} (ht : P.underlying t = some (.slice e)) (hti : TI P e zv A.n bytes)
    (hx : ev L x = some v) (hh : ev L h = some (.int κ hi)) (hm : ev L m = some (.int κ' mx)) (hd : Nat.blt d n = true) (hv : (A.sl hn).V M w1 xs v) (hb : hi = xs.length ∧ mx = xs.length)
    (k : ∀ a, (A.sl hn).V M w1 xs (.slice a xs.length xs.length) → (a = none → xs = []) → Rg P r n ops rest ((d, .slice a xs.length xs.length) :: L) ds w K) :
    Rg P r n ops ({ dst := some d, op := .slice t x none (some h) (some m), type := ty, pos, after := af, guard := none } :: rest) L ds w K := by
  obtain ⟨a, cap, rfl, hc, hlen, hs⟩ := V_sl.1 hv
  obtain ⟨rfl, rfl⟩ := hb
  refine .op (fun _ h => by cases h) rfl rfl hd (.slice a xs.length xs.length) w (fun ρ hρ => ?_) (k a (V_sl.2 ⟨_, xs.length, rfl, Nat.le_refl _, hlen, hs⟩) ?_)
  · simp only [execOp, hρ x _ hx, Option.map_some, Option.map_none, hρ h _ hh, hρ m _ hm]
    rw [Sem.run_bind, run_sliceAt_slice _ _ _ _ _ _ (elem_of ht), run_slice_hm _ _ _ _ _ (elem_of ht) _ _ _ _ (by omega) (by omega) (by omega), elem_eq ht, hti.sizeOf]
    simp only [Result.andThen_ok, sliced, Int.toNat_natCast, Nat.zero_mul, Nat.sub_zero, Sem.run_pure]
    by_cases h0 : xs.length = 0
    · simp [h0]
    · rw [if_neg h0]
      rcases hs with rfl | ⟨b, o, rfl, _⟩
      · simp at h0
      · simp [Addr.add_mid]
  · rintro rfl
    rcases hs with h | ⟨b, o, h, _⟩
    · exact h
    · cases h

/-! ### New memory -/
theorem heap_alloc_at (w : World) (o : Obj) : (w.alloc o).heap[w.heap.size]? = some o := heap_alloc_new w o

/-- a variable in memory of its own -/
theorem Rg.box {e : TypeId} {v : Value} (M : PSet) (hx : ev L x = some v) (hd : Nat.blt d n = true)
    (k : ∀ b w', w.heap.size ≤ b → b < w'.heap.size → w'.heap[b]? = some (.cells v.cells e (0, 0)) → Step M w (ins M b) w' none' → Rg P r n ops rest ((d, .pointer (some ⟨b, 0, none⟩)) :: L) ds w' K) :
    Rg P r n ops ({ dst := some d, op := .box e x, type := ty, pos, after := af, guard := none } :: rest) L ds w K := by
  refine .op (fun _ h => by cases h) rfl rfl hd _ (w.alloc (.cells v.cells e)) (fun ρ hρ => ?_) (k w.heap.size _ (Nat.le_refl _) (by simp) (heap_alloc_at w _) ((step_alloc M w _).own (Nat.le_refl _) (by simp)))
  simp only [execOp, hρ x _ hx]
  simp [Instr.box, newVar, newRow, newObj, Sem.run]
theorem Rg.alloc {e : TypeId} {zv : Value} {size bytes : Nat} (M : PSet) (hi : TI P e zv size bytes) (hd : Nat.blt d n = true)
    (k : ∀ b w', w.heap.size ≤ b → b < w'.heap.size → w'.heap[b]? = some (.cells zv.cells e (0, 0)) → Step M w (ins M b) w' none' → Rg P r n ops rest ((d, .pointer (some ⟨b, 0, none⟩)) :: L) ds w' K) :
    Rg P r n ops ({ dst := some d, op := .alloc e, type := ty, pos, after := af, guard := none } :: rest) L ds w K := by
  obtain ⟨i, h1, h2, h3, h4⟩ := hi.get
  refine .op (fun _ h => by cases h) rfl rfl hd _ (w.alloc (.cells zv.cells e)) (fun ρ hρ => ?_) (k w.heap.size _ (Nat.le_refl _) (by simp) (heap_alloc_at w _) ((step_alloc M w _).own (Nat.le_refl _) (by simp)))
  simp only [execOp]
  simp [Instr.alloc, zeroValue, typeInfo, h1, h2, newVar, newRow, newObj, Sem.run]

theorem cell_at {b o : Nat} {cs : Array Value} {e : TypeId} {fr : Nat × Nat} {v : Value} (hb : w.heap[b]? = some (.cells cs e fr)) (hv : cs[o]? = some v) : w.cell? ⟨b, o, none⟩ = some v := by
  simp [World.cell?, hb, hv]

/-- a cell of a block that is known -/
theorem Rg.loadc {t : TypeId} {u : TypeDesc} {b o : Nat} {cs : Array Value} {e : TypeId} {fr : Nat × Nat} {v : Value} (hu : P.underlying t = some u) (hf : flat u = true) (hx : ev L x = some (.pointer (some ⟨b, o, none⟩))) (hd : Nat.blt d n = true)
    (hb : w.heap[b]? = some (.cells cs e fr)) (hv : cs[o]? = some v) (k : Rg P r n ops rest ((d, v) :: L) ds w K) :
    Rg P r n ops ({ dst := some d, op := .load t x, type := ty, pos, after := af, guard := none } :: rest) L ds w K :=
  .op (fun _ h => by cases h) rfl rfl hd v w (fun ρ hρ => by
    simp only [execOp, hρ x _ hx]
    rw [Sem.run_bind, run_loadFlat (P := P) hu hf (cell_at hb hv)]; simp) k

theorem setCell_at {b o : Nat} {cs : Array Value} {e : TypeId} {fr : Nat × Nat} {v : Value} (hb : w.heap[b]? = some (.cells cs e fr)) : (w.setCell ⟨b, o, none⟩ v).heap[b]? = some (.cells (cs.setIfInBounds o v) e fr) := by
  simp [World.setCell, Array.getElem?_modify, hb]
theorem step_setCell (M : PSet) {b o : Nat} {v : Value} (hm : M b) : Step M w M (w.setCell ⟨b, o, none⟩ v) (fun k => k = b) :=
  ⟨fun h b hb => by simpa [World.setCell] using h b hb, rfl, rfl, rfl, by simp [World.setCell], fun _ _ => Iff.rfl, fun k _ hn => Go.RowKit.Below.heap_setCell w _ v k hn, fun k hk => by subst hk; exact hm⟩

theorem Rg.storec {t : TypeId} {zv : Value} {bytes : Nat} {b o : Nat} {cs : Array Value} {e : TypeId} {u v : Value} {M : PSet} (hi : TI P t zv 1 bytes) (hx : ev L x = some (.pointer (some ⟨b, o, none⟩))) (hy : ev L y = some v)
    (hb : w.heap[b]? = some (.cells cs e (0, 0))) (hv : cs[o]? = some u) (h1 : v.oneCell' = true) (hm : M b)
    (k : ∀ w', w'.heap[b]? = some (.cells (cs.setIfInBounds o v) e (0, 0)) → Step M w M w' (fun k => k = b) → Rg P r n ops rest L ds w' K) :
    Rg P r n ops ({ dst := none, op := .store t x y, type := ty, pos, after := af, guard := none } :: rest) L ds w K := by
  refine .opu (fun _ h => by cases h) rfl rfl (w.setCell ⟨b, o, none⟩ v) (fun ρ hρ => ?_) (k _ (setCell_at hb) (step_setCell M hm))
  simp only [execOp, hρ x _ hx, hρ y _ hy]
  have := run_storeFlat (P := P) hi (w := w) (b := b) (o := o) h1 (by rw [cell_at hb hv]; rfl) (by simp [World.frozen?, hb])
  simp [this]

/-! ### A slice of what is listed -/
theorem fill_one (size : Nat) (zs vs : Array Value) (v : Value) (hz : zs.size = size) (hv : v.cells = vs) (hs : vs.size = size) : Instr.fill (fun i => some (i * size, size)) zs [(0, v)] = some vs := by
  simp only [Instr.fill, hv, hs, Nat.zero_mul, Nat.zero_add, hz]
  simp only [ne_eq, not_true_eq_false, decide_false, Bool.false_or, Nat.lt_irrefl, decide_false, gt_iff_lt, if_false, Bool.false_eq_true]
  congr 1
  have key : ∀ (l : List Value) (k : Nat) (cs : Array Value), k + l.length = cs.size → ∀ j : Nat, ((l.zipIdx k).foldl (fun (cs : Array Value) (x : Value × Nat) => cs.setIfInBounds x.2 x.1) cs)[j]? = if j < k then cs[j]? else l[j - k]? := by
    intro l
    induction l with
    | nil =>
      intro k cs hk j
      simp at hk ⊢
      intro h; omega
    | cons a l ih =>
      intro k cs hk j
      simp only [List.zipIdx_cons, List.foldl_cons]
      rw [ih (k + 1) _ (by simp at hk ⊢; omega) j]
      rw [Array.getElem?_setIfInBounds]
      simp at hk
      by_cases h1 : j < k
      · rw [if_pos (by omega), if_pos h1, if_neg (by omega)]
      · by_cases h2 : j = k
        · subst h2; rw [if_pos (by omega), if_pos rfl, if_neg h1]; simp; omega
        · rw [if_neg (by omega), if_neg h1, show j - k = (j - (k + 1)) + 1 from by omega]; simp
  apply Array.ext_getElem?
  intro j
  have := key vs.toList 0 zs (by simp [hs, hz]) j
  simp only [Nat.not_lt_zero, if_false, Nat.sub_zero, Array.getElem?_toList] at this
  rw [← this]
  rw [← Array.foldl_toList]
  simp [Array.toList_zipIdx]

theorem Rg.sl1 {t e : TypeId} {zv v : Value} {bytes : Nat} {hn : 0 < A.n} {M : PSet} {a : α} (ht : P.underlying t = some (.slice e)) (hi : TI P e zv A.n bytes) (hsm : A.n ≤ 1000) (hx : ev L x = some v) (hd : Nat.blt d n = true) (hm : Lt M w)
    (hv : A.V M w a v) (hag : A.agg = true ∨ A.n = 1 ∧ A.agg = false) (k : ∀ u w', (A.sl hn).V M w' [a] u → Step M w M w' none' → Rg P r n ops rest ((d, u) :: L) ds w' K) :
    Rg P r n ops ({ dst := some d, op := .buildSlice t 1 #[(0, x)], type := ty, pos, after := af, guard := none } :: rest) L ds w K := by
  obtain ⟨vs, h1, h2⟩ := hv
  have hl := A.len h1
  have hone := A.one h1
  have hc : v.cells = vs.toArray := by
    subst h2
    rcases hag with hg | ⟨h3, hg⟩
    · simp [RT.val, hg, Value.cells]
    · match vs, hl, h3 with
      | [u], _, _ =>
        have := hone u (by simp)
        simp only [RT.val, hg, List.headD_cons]
        cases u <;> simp_all [Value.cells, Value.oneCell']
      | [], hl, h3 => simp at hl; omega
      | _ :: _ :: _, hl, h3 => simp at hl; omega
  obtain ⟨i, hi1, hi2, hi3, hi4⟩ := hi.get
  have hs := step_alloc M w (.cells vs.toArray e)
  refine .op (fun _ h => by cases h) rfl rfl hd (.slice (some ⟨w.heap.size, 0, none⟩) 1 1) (w.alloc (.cells vs.toArray e)) (fun ρ hρ => ?_)
    (k _ _ (V_sl.2 ⟨_, 1, rfl, Nat.le_refl _, by simp, .inr ⟨w.heap.size, 0, rfl, fun h => by have := hm _ h; omega, fun i x hx => ?_⟩⟩) hs)
  · simp only [execOp, List.map_toArray, List.map_cons, List.map_nil, hρ x _ hx]
    simp only [Instr.buildSlice, Sem.run_bind, run_underlying ht, Result.andThen_ok, hi.sizeOf, Nat.one_mul]
    rw [if_neg (by omega), if_neg (by omega)]
    simp only [Sem.run_bind, zeroValue, typeInfo, program, Sem.run, hi1, hi2, Result.andThen_ok, Sem.run_pure]
    rw [fill_one A.n _ vs.toArray v (by simp) hc (by simpa using hl)]
    simp [newRow, newObj, Sem.run]
  · cases i with
    | zero =>
      simp at hx; subst hx
      refine ⟨vs, A.le hs.le h1, fun j u hu => ?_⟩
      exact cell_at (heap_alloc_at w _) (by simpa using hu)
    | succ i => simp at hx

/-! ### A slice of several parts -/
theorem fill_cons (size : Nat) (zs : Array Value) (i : Nat) (v : Value) (vs : List Value) (rest : List (Nat × Value)) (hv : v.cells = vs.toArray) (hs : vs.length = size) (hz : i * size + size ≤ zs.size) :
    ∃ zs', Instr.fill (fun i => some (i * size, size)) zs ((i, v) :: rest) = Instr.fill (fun i => some (i * size, size)) zs' rest ∧ zs'.size = zs.size ∧
      ∀ j, zs'[j]? = if i * size ≤ j ∧ j < i * size + size then vs[j - i * size]? else zs[j]? := by
  have key : ∀ (l : List Value) (k o : Nat) (cs : Array Value), o + k + l.length ≤ cs.size → ((l.zipIdx k).foldl (fun (cs : Array Value) (x : Value × Nat) => cs.setIfInBounds (o + x.2) x.1) cs).size = cs.size ∧
      ∀ j : Nat, ((l.zipIdx k).foldl (fun (cs : Array Value) (x : Value × Nat) => cs.setIfInBounds (o + x.2) x.1) cs)[j]? = if o + k ≤ j ∧ j < o + k + l.length then l[j - (o + k)]? else cs[j]? := by
    intro l
    induction l with
    | nil =>
      intro k o cs hk
      refine ⟨rfl, fun j => ?_⟩
      simp
      intro h1 h2; omega
    | cons a l ih =>
      intro k o cs hk
      simp only [List.zipIdx_cons, List.foldl_cons]
      simp only [List.length_cons] at hk
      obtain ⟨h1, h2⟩ := ih (k + 1) o (cs.setIfInBounds (o + k) a) (by simp; omega)
      refine ⟨by rw [h1]; simp, fun j => ?_⟩
      rw [h2 j, Array.getElem?_setIfInBounds, List.length_cons]
      by_cases h3 : o + (k + 1) ≤ j ∧ j < o + (k + 1) + l.length
      · rw [if_pos h3, if_pos (by omega), show j - (o + k) = (j - (o + (k + 1))) + 1 from by omega]; simp
      · rw [if_neg h3]
        by_cases h4 : o + k = j
        · subst h4; rw [if_pos rfl, if_pos (by omega), if_pos (by omega)]; simp
        · rw [if_neg h4, if_neg (by omega)]
  obtain ⟨k1, k2⟩ := key vs 0 (i * size) zs (by omega)
  refine ⟨_, ?_, k1, fun j => ?_⟩
  · conv => lhs; rw [Instr.fill]
    simp only [hv, hs]
    simp [hs, show ¬ (zs.size < i * size + size) by omega]
  · rw [k2 j, Nat.add_zero, hs]

/-- the values of a list of parts: their slots' values, each in the sense of its type -/
def Vals {α : Type} (A : RT α) (M : PSet) (w : World) (L : List (Nat × Value)) : Nat → List (Nat × Operand) → List α → Prop
  | _, [], xs => xs = []
  | i, p :: ps, xs => ∃ a as v, xs = a :: as ∧ p.1 = i ∧ ev L p.2 = some v ∧ A.V M w a v ∧ Vals A M w L (i + 1) ps as
theorem cells_of {α : Type} {A : RT α} {M : PSet} {w : World} {a : α} {vs : List Value} (h1 : A.R M w a vs) (hag : A.agg = true ∨ A.n = 1 ∧ A.agg = false) : (A.val vs).cells = vs.toArray := by
  have hl := A.len h1
  have hone := A.one h1
  rcases hag with hg | ⟨h3, hg⟩
  · simp [RT.val, hg, Value.cells]
  · match vs, hl, h3 with
    | [u], _, _ =>
      have := hone u (by simp)
      simp only [RT.val, hg, List.headD_cons]
      cases u <;> simp_all [Value.cells, Value.oneCell']
    | [], hl, h3 => simp at hl; omega
    | _ :: _ :: _, hl, h3 => simp at hl; omega
theorem fill_all {α : Type} {A : RT α} {M : PSet} {w : World} {L : List (Nat × Value)} (hag : A.agg = true ∨ A.n = 1 ∧ A.agg = false) : ∀ (ps : List (Nat × Operand)) (i : Nat) (xs : List α) (zs : Array Value),
    Vals A M w L i ps xs → zs.size = (i + xs.length) * A.n →
    ∃ (vals : List (Nat × Value)) (C : List Value) (zs' : Array Value), (∀ ρ : Operand → Value, (∀ x v, ev L x = some v → ρ x = v) → ps.map (fun p => (p.1, ρ p.2)) = vals) ∧ AllR A M w xs C ∧ Instr.fill (fun i => some (i * A.n, A.n)) zs vals = some zs' ∧ zs'.size = zs.size ∧
      ∀ j, zs'[j]? = if i * A.n ≤ j then C[j - i * A.n]? else zs[j]?
  | [], i, xs, zs, hp, hz => by
    cases hp
    refine ⟨[], [], zs, fun ρ _ => rfl, rfl, rfl, rfl, fun j => ?_⟩
    split
    · simp at hz ⊢; omega
    · rfl
  | p :: ps, i, xs, zs, hp, hz => by
    obtain ⟨a, as, v, rfl, hpi, hev, hv, hr⟩ := hp
    obtain ⟨vs, h1, h2⟩ := hv
    have hc := cells_of h1 hag
    rw [← h2] at hc
    have hl := A.len h1
    have hmul : (i + (a :: as).length) * A.n = i * A.n + A.n + as.length * A.n := by rw [List.length_cons, Nat.add_mul, Nat.add_mul]; omega
    obtain ⟨z1, e1, e2, e3⟩ := fill_cons A.n zs i v vs (ps.map fun _ => (0, undef)) hc hl (by rw [hz, hmul]; omega)
    obtain ⟨vals, C, z2, f1, f2, f3, f4, f5⟩ := fill_all hag ps (i + 1) as z1 hr (by rw [e2, hz, List.length_cons, show i + 1 + as.length = i + (as.length + 1) from by omega])
    obtain ⟨z1', e1', e2', e3'⟩ := fill_cons A.n zs i v vs vals hc hl (by rw [hz, hmul]; omega)
    have hzz : z1 = z1' := Array.ext_getElem? fun j => by rw [e3 j, e3' j]
    subst hzz
    refine ⟨(i, v) :: vals, vs ++ C, z2, fun ρ hρ => by rw [List.map_cons, f1 ρ hρ, hpi, hρ _ _ hev], ⟨vs, C, rfl, h1, f2⟩, by rw [e1', f3], by rw [f4, e2], fun j => ?_⟩
    rw [f5 j, e3 j, Nat.add_mul, Nat.one_mul]
    by_cases h3 : i * A.n + A.n ≤ j
    · rw [if_pos h3, if_pos (by omega), List.getElem?_append_right (by omega), hl, show j - i * A.n - A.n = j - (i * A.n + A.n) from by omega]
    · rw [if_neg h3]
      by_cases h4 : i * A.n ≤ j
      · rw [if_pos (by omega), if_pos h4, List.getElem?_append_left (by omega)]
      · rw [if_neg (by omega), if_neg h4]

theorem Rg.sln {t e : TypeId} {zv : Value} {bytes nn : Nat} {ps : Array (Nat × Operand)} {hn : 0 < A.n} {M : PSet} {xs : List α} (ht : P.underlying t = some (.slice e)) (hi : TI P e zv A.n bytes) (hz : zv.cells.size = A.n) (hsm : nn * A.n ≤ 16777216) (hnn : nn = xs.length) (hps : Vals A M w L 0 ps.toList xs) (hd : Nat.blt d n = true) (hm : Lt M w)
    (hag : A.agg = true ∨ A.n = 1 ∧ A.agg = false) (hnz : 0 < nn) (k : ∀ u w', (A.sl hn).V M w' xs u → Step M w M w' none' → Rg P r n ops rest ((d, u) :: L) ds w' K) :
    Rg P r n ops ({ dst := some d, op := .buildSlice t nn ps, type := ty, pos, after := af, guard := none } :: rest) L ds w K := by
  subst hnn
  obtain ⟨i, hi1, hi2, hi3, hi4⟩ := hi.get
  obtain ⟨vals, C, zs', f1, f2, f3, f4, f5⟩ := fill_all hag ps.toList 0 xs (Array.map (fun x => zv.cells[x % zv.cells.size]!) (Array.range (xs.length * A.n))) hps (by simp)
  have hzC : zs' = C.toArray := Array.ext_getElem? fun j => by rw [f5 j, Nat.zero_mul, if_pos (Nat.zero_le _), Nat.sub_zero]; simp
  subst hzC
  have hs := step_alloc M w (.cells C.toArray e)
  have hpos : 0 < xs.length * A.n := Nat.mul_pos hnz hn
  have hlen : xs.length ≤ 16777216 := Nat.le_trans (by have := Nat.mul_le_mul_left xs.length hn; omega) hsm
  refine .op (fun _ h => by cases h) rfl rfl hd (.slice (some ⟨w.heap.size, 0, none⟩) xs.length xs.length) (w.alloc (.cells C.toArray e)) (fun ρ hρ => ?_)
    (k _ _ (V_sl.2 ⟨_, _, rfl, Nat.le_refl _, by omega, .inr ⟨w.heap.size, 0, rfl, fun h => by have := hm _ h; omega, fun i x hx => ?_⟩⟩) hs)
  · have hmp : (ps.map fun (i, x) => (i, ρ x)).toList = vals := by rw [Array.toList_map]; exact f1 ρ hρ
    simp only [execOp]
    simp only [Instr.buildSlice, Sem.run_bind, run_underlying ht, Result.andThen_ok, hi.sizeOf]
    rw [if_neg (by omega), if_neg (by omega)]
    simp only [Sem.run_bind, zeroValue, typeInfo, program, Sem.run, hi1, hi2, Result.andThen_ok, Sem.run_pure]
    rw [hmp, f3]
    simp [newRow, newObj, Sem.run]
  · obtain ⟨us, h1, h2⟩ := (f2.le hs.le).at_ i x hx
    exact ⟨us, h1, fun j u hu => by rw [Nat.zero_add]; exact cell_at (heap_alloc_at w _) (by simpa using h2 j u hu)⟩

/-! ### append -/
/-- what is in M, and a slice's own block -/
def insV (M : PSet) (v : Value) : PSet := fun k => v.ownBlock = some k ∨ M k
def blk (v : Value) : PSet := fun k => v.ownBlock = some k

theorem lt_insV {M : PSet} {w' : World} {v' : Value} (hs : w.heap.size ≤ w'.heap.size) (hv : ∀ b, v'.ownBlock = some b → b < w'.heap.size) (h : Lt M w) : Lt (insV M v') w' := fun b hb => by
  rcases hb with hb | hb
  · exact hv b hb
  · exact Nat.lt_of_lt_of_le (h b hb) hs
theorem step_grown {M : PSet} {w' : World} {v v' : Value} (hg : w.grownBy w' v.ownBlock) (hm : ∀ b, v.ownBlock = some b → M b) (hv : ∀ b, v'.ownBlock = some b → w.heap.size ≤ b ∨ v.ownBlock = some b) (hlt : ∀ b, v'.ownBlock = some b → b < w'.heap.size) :
    Step M w (insV M v') w' (blk v) :=
  ⟨lt_insV hg.size hlt, hg.os, hg.tape, hg.output, hg.size, fun b hb => ⟨fun h => by
    rcases h with h | h
    · rcases hv b h with h2 | h2
      · omega
      · exact hm b h2
    · exact h, fun h => .inr h⟩, fun b hb hn => hg.block b hb (fun h => hn h.symm), fun b hb => hm b hb⟩

theorem run_append_none {t ty e : TypeId} {zv : Value} {size bytes : Nat} (ht : P.underlying t = some (.slice e)) (hi : TI P e zv size bytes) (a : Option Addr) (l cap c : Nat) (b : Option Addr) (hl : l ≤ cap) :
    (Builtin.append_ #[t, t] ty #[.slice a l cap, .slice b 0 c]).run P w = .ok (.slice a l cap) w := by
  obtain ⟨i, h1, h2, h3, h4⟩ := hi.get
  cases a <;> cases b <;> simp [Builtin.append_, run_underlying ht, sizeOf, typeInfo, h1, Builtin.lenOf, hl, Builtin.firstCells, loadCells, loadCellsFrom, storeCells]

theorem Own.appendF {t ty e : TypeId} {zv : Value} {bytes : Nat} {hn : 0 < A.n} {M M2 : PSet} {base : Nat} {v u : Value} {xs ys : List α} (ht : P.underlying t = some (.slice e)) (hi : TI P e zv A.n bytes) (hz : zv.cells.size = A.n)
    (h : Own A e M w base v xs) (hle : Le M2 w M w) (hu : (A.sl hn).V M2 w ys u) (hlen : xs.length + ys.length ≤ 140737488355328) (hb : (xs.length + ys.length) * bytes ≤ 140737488355328) (hbase : base ≤ w.heap.size) :
    ∃ v' w', (Builtin.append_ #[t, t] ty #[v, u]).run P w = .ok v' w' ∧ Own A e (insV M v') w' base v' (xs ++ ys) ∧ Step M w (insV M v') w' (blk v) ∧ (∀ b, v'.ownBlock = some b → w.heap.size ≤ b ∨ v.ownBlock = some b) := by
  obtain ⟨a, c, rfl, hc, hl, hs⟩ := V_sl.1 hu
  obtain ⟨i, h1, h2, h3, h4⟩ := hi.get
  have hmax : xs.length + ys.length ≤ maxLen := by unfold maxLen; omega
  rcases hs with rfl | ⟨b, o, rfl, hmb, hel⟩
  · obtain ⟨a', cap, rfl, hcap⟩ := h.isSlice
    refine ⟨_, w, run_append_none ht hi a' xs.length cap c a hcap, ?_, ?_, fun b hb => .inr hb⟩
    · rw [List.append_nil]
      obtain ⟨⟨C, hr, ha⟩, hm⟩ := h
      have hs : Step M w (insV M (.slice a' xs.length cap)) w none' := ⟨lt_insV (Nat.le_refl _) (fun b hb => (hr.lt b hb).2), rfl, rfl, rfl, Nat.le_refl _, fun b _ => ⟨fun h => h.elim (hm b) id, fun h => .inr h⟩, fun _ _ _ => rfl, fun _ h => h.elim⟩
      exact ⟨⟨C, hr, ha.le hs.le⟩, fun b hb => .inl hb⟩
    · exact ⟨lt_insV (Nat.le_refl _) (fun b hb => (h.base b hb).2), rfl, rfl, rfl, Nat.le_refl _, fun b _ => ⟨fun h' => h'.elim (h.mut_ b) id, fun h => .inr h⟩, fun _ _ _ => rfl, fun b hb => h.mut_ b hb⟩
  · obtain ⟨D, hD, hDr⟩ := SlAt.all hel
    have hDl := hD.length
    have hnews : ∀ j u, D[j]? = some u → w.cell? ((⟨b, o, none⟩ : Addr).add j) = some u := fun j u hj => by rw [Addr.add_mid]; exact hDr j u hj
    have hD1 := hD.one
    obtain ⟨⟨C, hr, ha⟩, hm⟩ := h
    have hr' := hr
    obtain ⟨hCl, hr2⟩ := hr'
    have fin : ∀ v' w', w'.ownsRow base e A.n v' (xs.length + ys.length) (C ++ D) → w.grownBy w' v.ownBlock → (∀ b, v'.ownBlock = some b → w.heap.size ≤ b ∨ v.ownBlock = some b) →
        Own A e (insV M v') w' base v' (xs ++ ys) ∧ Step M w (insV M v') w' (blk v) := by
      intro v' w' ho hg hv'
      have hst := step_grown (M := M) hg hm hv' (fun b hb => (ho.lt b hb).2)
      refine ⟨⟨⟨C ++ D, by rw [List.length_append]; exact ho, ?_⟩, fun b hb => .inl hb⟩, hst⟩
      exact AllR.append (hD.le (hle.trans hst.le)) (ha.le hst.le)
    rcases hr2 with ⟨rfl, hx0⟩ | ⟨g, cap, cur, rfl, hbg, hg, hnc, hcm, hcs, htake⟩
    · have hx : xs = [] := List.eq_nil_of_length_eq_zero hx0
      subst hx
      have hC : C = [] := List.eq_nil_of_length_eq_zero (by simpa using hCl)
      subst hC
      obtain ⟨v', w', hrun, ho, hgr, _⟩ := run_append_own (P := P) w w.heap.size t ty e i zv A.n bytes ht h1 h2 h3 h4 hz hn (.slice none 0 0) 0 [] (World.ownsRow_nil w _ e A.n) ⟨b, o, none⟩ ys.length c D hDl hnews hD1
        (by simpa using hmax) (by simpa using hb) (Nat.le_refl _)
      obtain ⟨q1, q2⟩ := fin v' w' (by
        obtain ⟨p1, p2⟩ := ho
        refine ⟨by simpa using p1, p2.imp (fun h => by simpa using h) ?_⟩
        rintro ⟨g, cap, cur, p3, p4, p5⟩
        exact ⟨g, cap, cur, by simpa using p3, Nat.le_trans hbase p4, by simpa using p5⟩) hgr (fun k hk => .inl (ho.lt k hk).1)
      exact ⟨v', w', hrun, q1, q2, fun k hk => .inl (ho.lt k hk).1⟩
    · by_cases hroom : xs.length + ys.length ≤ cap
      · have hfit : xs.length * A.n + D.length ≤ cur.size := by rw [hDl, hcs, ← Nat.add_mul]; exact Nat.mul_le_mul_right _ hroom
        have hrun := run_append_room (P := P) w t ty e i ht h1 g xs.length cap cur hg ⟨b, o, none⟩ ys.length c D (by rw [hDl, ← h3]) hnews hD1 hroom (by rw [h3]; exact hfit)
        rw [h3] at hrun
        have hCD : (C ++ D).length = (xs.length + ys.length) * A.n := by rw [List.length_append, hCl, hDl, Nat.add_mul]
        obtain ⟨ncur, hnc2⟩ : ∃ c, c = (cur.toList.take (xs.length * A.n) ++ D ++ cur.toList.drop (xs.length * A.n + D.length)).toArray := ⟨_, rfl⟩
        rw [← hnc2] at hrun
        have e1 : ncur.size = cap * A.n := by
          rw [hnc2]; simp only [List.size_toArray, List.length_append, List.length_take, List.length_drop, Array.length_toList]; omega
        have e2 : ncur.toList.take ((xs.length + ys.length) * A.n) = C ++ D := by
          rw [hnc2]; simp only [htake]; rw [← hCD]; exact List.take_left
        obtain ⟨q1, q2⟩ := fin (.slice (some ⟨g, 0, none⟩) (xs.length + ys.length) cap) (w.setRow g ncur)
          ⟨hCD, .inr ⟨g, cap, ncur, rfl, hbg, setRow_heap w g cur _ e _ hg, hroom, hcm, e1, e2⟩⟩
          ⟨rfl, rfl, rfl, by simp, fun k _ hk => setRow_other w g k _ (fun e => hk (by simp [Value.ownBlock, e]))⟩ (fun k hk => .inr hk)
        exact ⟨_, _, hrun, q1, q2, fun k hk => .inr hk⟩
      · have holds : ∀ j u, C[j]? = some u → w.cell? ((⟨g, 0, none⟩ : Addr).add j) = some u := hr.cells (g := g) rfl
        obtain ⟨v', w', hrun, ho, hgr⟩ := run_append_arg_grows (P := P) w t ty e i zv A.n bytes ht h1 h2 h3 h4 hz hn ⟨g, 0, none⟩ xs.length cap C hCl holds ⟨b, o, none⟩ ys.length c D hDl hnews (by omega) hmax hb
        obtain ⟨q1, q2⟩ := fin v' w' ⟨ho.1, ho.2.imp id (fun ⟨g', cap', cur', p3, p4, p5⟩ => ⟨g', cap', cur', p3, Nat.le_trans hbase p4, p5⟩)⟩
          ⟨hgr.os, hgr.tape, hgr.output, hgr.size, fun k hk _ => hgr.block k hk (by simp)⟩ (fun k hk => .inl (ho.lt k hk).1)
        exact ⟨v', w', hrun, q1, q2, fun k hk => .inl (ho.lt k hk).1⟩

theorem Own.append {t ty e : TypeId} {zv : Value} {bytes : Nat} {hn : 0 < A.n} {M M2 : PSet} {base : Nat} {v u : Value} {xs ys : List α} (ht : P.underlying t = some (.slice e)) (hi : TI P e zv A.n bytes) (hz : zv.cells.size = A.n)
    (h : Own A e M w base v xs) (hle : Le M2 w M w) (hu : (A.sl hn).V M2 w ys u) (hlen : xs.length + ys.length ≤ 140737488355328) (hb : (xs.length + ys.length) * bytes ≤ 140737488355328) (hbase : base ≤ w.heap.size) :
    ∃ v' w', (Builtin.append_ #[t, t] ty #[v, u]).run P w = .ok v' w' ∧ Own A e (insV M v') w' base v' (xs ++ ys) ∧ Step M w (insV M v') w' (blk v) := by
  obtain ⟨v', w', h1, h2, h3, _⟩ := Own.appendF (ty := ty) ht hi hz h hle hu hlen hb hbase
  exact ⟨v', w', h1, h2, h3⟩
/-- the same, and that the new row's block is the old one's, or new -/
theorem Rg.appendF {t e : TypeId} {zv : Value} {bytes : Nat} {hn : 0 < A.n} {M M2 : PSet} {w2 : World} {base : Nat} {v u : Value} {xs ys : List α} (ht : P.underlying t = some (.slice e)) (hi : TI P e zv A.n bytes) (hz : zv.cells.size = A.n)
    (hx : ev L x = some v) (hy : ev L y = some u) (hd : Nat.blt d n = true) (h : Own A e M w base v xs) (hu : (A.sl hn).V M2 w2 ys u) (hle : Le M2 w2 M w) (hlen : xs.length + ys.length ≤ 140737488355328)
    (hb : (xs.length + ys.length) * bytes ≤ 140737488355328) (hbase : base ≤ w.heap.size)
    (k : ∀ v' w', Own A e (insV M v') w' base v' (xs ++ ys) → Step M w (insV M v') w' (blk v) → (∀ b, v'.ownBlock = some b → w.heap.size ≤ b ∨ v.ownBlock = some b) → Rg P r n ops rest ((d, v') :: L) ds w' K) :
    Rg P r n ops ({ dst := some d, op := .call { callee := .builtin .append, args := #[x, y], argTypes := #[t, t] }, type := ty, pos, after := af, guard := none } :: rest) L ds w K := by
  obtain ⟨v', w', hrun, h1, h2, h3⟩ := Own.appendF (ty := ty) ht hi hz h (Le.refl M w) (hu.le hle) hlen hb hbase
  refine .op (fun _ h => by cases h) rfl rfl hd v' w' (fun ρ hρ => ?_) (k v' w' h1 h2 h3)
  simp only [execOp, resolve, List.map_toArray, List.map_cons, List.map_nil, hρ x _ hx, hρ y _ hy]
  simp [invoke, builtin, hrun]
/-- two rows of the function's own are not one -/
def Apart (v u : Value) : Prop := ∀ b, v.ownBlock = some b → u.ownBlock ≠ some b
theorem Apart.symm {v u : Value} (h : Apart v u) : Apart u v := fun b h1 h2 => h b h2 h1
theorem Apart.nil (v : Value) : Apart v (.slice none 0 0) := fun b _ h => by cases h
theorem Apart.grown {v v' u : Value} (h : Apart v u) (hF : ∀ b, v'.ownBlock = some b → w.heap.size ≤ b ∨ v.ownBlock = some b) (hu : ∀ b, u.ownBlock = some b → b < w.heap.size) : Apart v' u := fun b h1 h2 => by
  rcases hF b h1 with h3 | h3
  · have := hu b h2; omega
  · exact h b h3 h2

theorem Rg.append {t e : TypeId} {zv : Value} {bytes : Nat} {hn : 0 < A.n} {M M2 : PSet} {w2 : World} {base : Nat} {v u : Value} {xs ys : List α} (ht : P.underlying t = some (.slice e)) (hi : TI P e zv A.n bytes) (hz : zv.cells.size = A.n)
    (hx : ev L x = some v) (hy : ev L y = some u) (hd : Nat.blt d n = true) (h : Own A e M w base v xs) (hu : (A.sl hn).V M2 w2 ys u) (hle : Le M2 w2 M w) (hlen : xs.length + ys.length ≤ 140737488355328)
    (hb : (xs.length + ys.length) * bytes ≤ 140737488355328) (hbase : base ≤ w.heap.size)
    (k : ∀ v' M' w', Own A e M' w' base v' (xs ++ ys) → Step M w M' w' (blk v) → Rg P r n ops rest ((d, v') :: L) ds w' K) :
    Rg P r n ops ({ dst := some d, op := .call { callee := .builtin .append, args := #[x, y], argTypes := #[t, t] }, type := ty, pos, after := af, guard := none } :: rest) L ds w K := by
  obtain ⟨v', w', hrun, h1, h2⟩ := Own.append (ty := ty) ht hi hz h (Le.refl M w) (hu.le hle) hlen hb hbase
  refine .op (fun _ h => by cases h) rfl rfl hd v' w' (fun ρ hρ => ?_) (k v' _ w' h1 h2)
  simp only [execOp, resolve, List.map_toArray, List.map_cons, List.map_nil, hρ x _ hx, hρ y _ hy]
  simp [invoke, builtin, hrun]

/-- append to a slice behind which there is no room -/
theorem Rg.appendclip {t e : TypeId} {zv : Value} {bytes : Nat} {hn : 0 < A.n} {M M2 : PSet} {w2 : World} {a : Option Addr} {u : Value} {xs ys : List α} (ht : P.underlying t = some (.slice e)) (hi : TI P e zv A.n bytes) (hz : zv.cells.size = A.n)
    (hx : ev L x = some (.slice a xs.length xs.length)) (hy : ev L y = some u) (hd : Nat.blt d n = true) (h : (A.sl hn).V M w xs (.slice a xs.length xs.length)) (hnone : a = none → xs = []) (hu : (A.sl hn).V M2 w2 ys u) (hle : Le M2 w2 M w)
    (hne : 0 < ys.length) (hlen : xs.length + ys.length ≤ 140737488355328) (hb : (xs.length + ys.length) * bytes ≤ 140737488355328)
    (k : ∀ v' M' w', Own A e M' w' w.heap.size v' (xs ++ ys) → Step M w M' w' none' → Rg P r n ops rest ((d, v') :: L) ds w' K) :
    Rg P r n ops ({ dst := some d, op := .call { callee := .builtin .append, args := #[x, y], argTypes := #[t, t] }, type := ty, pos, after := af, guard := none } :: rest) L ds w K := by
  obtain ⟨a2, c, rfl, hc, hl, hs⟩ := V_sl.1 (hu.le hle)
  obtain ⟨i, h1, h2, h3, h4⟩ := hi.get
  have hmax : xs.length + ys.length ≤ maxLen := by unfold maxLen; omega
  rcases hs with rfl | ⟨b, o, rfl, hmb, hel⟩
  · simp at hne
  obtain ⟨D, hD, hDr⟩ := SlAt.all hel
  have hDl := hD.length
  have hnews : ∀ j u, D[j]? = some u → w.cell? ((⟨b, o, none⟩ : Addr).add j) = some u := fun j u hj => by rw [Addr.add_mid]; exact hDr j u hj
  have hD1 := hD.one
  -- the old cells, and that the growth is as said
  have hold : ∃ C, AllR A M w xs C ∧ ∃ v' w', (Builtin.append_ #[t, t] ty #[.slice a xs.length xs.length, .slice (some ⟨b, o, none⟩) ys.length c]).run P w = .ok v' w' ∧ w'.ownsRow w.heap.size e A.n v' (xs.length + ys.length) (C ++ D) ∧ w.grownBy w' none := by
    cases a with
    | none =>
      have := hnone rfl
      subst this
      obtain ⟨v', w', hrun, ho, hgr, _⟩ := run_append_own (P := P) w w.heap.size t ty e i zv A.n bytes ht h1 h2 h3 h4 hz hn (.slice none 0 0) 0 [] (World.ownsRow_nil w _ e A.n) ⟨b, o, none⟩ ys.length c D hDl hnews hD1
        (by simpa using hmax) (by simpa using hb) (Nat.le_refl _)
      exact ⟨[], rfl, v', w', hrun, by simpa using ho, ⟨hgr.os, hgr.tape, hgr.output, hgr.size, fun k hk _ => hgr.block k hk (by simp [Value.ownBlock])⟩⟩
    | some p =>
      obtain ⟨_, _, he, _, _, hs1⟩ := V_sl.1 h
      cases he
      have hC : ∃ C, AllR A M w xs C ∧ ∀ j u, C[j]? = some u → w.cell? (p.add j) = some u := by
        rcases hs1 with rfl | ⟨b1, o1, h5, hm1, hel1⟩
        · exact ⟨[], rfl, fun j u hj => by simp at hj⟩
        · cases h5
          obtain ⟨C, hC, hCr⟩ := SlAt.all hel1
          exact ⟨C, hC, fun j u hj => by rw [Addr.add_mid]; exact hCr j u hj⟩
      obtain ⟨C, hC, hCr⟩ := hC
      obtain ⟨v', w', hrun, ho, hgr⟩ := run_append_arg_grows (P := P) w t ty e i zv A.n bytes ht h1 h2 h3 h4 hz hn p xs.length xs.length C hC.length hCr ⟨b, o, none⟩ ys.length c D hDl hnews (by omega) hmax hb
      exact ⟨C, hC, v', w', hrun, ho, hgr⟩
  obtain ⟨C, hC, v', w', hrun, ho, hgr⟩ := hold
  have hst : Step M w (insV M v') w' none' := ⟨lt_insV hgr.size (fun b hb => (ho.lt b hb).2), hgr.os, hgr.tape, hgr.output, hgr.size, fun k hk => ⟨fun h => by
      rcases h with h | h
      · have := (ho.lt k h).1; omega
      · exact h, fun h => .inr h⟩, fun k hk _ => hgr.block k hk (by simp), fun _ h => h.elim⟩
  refine .op (fun _ h => by cases h) rfl rfl hd v' w' (fun ρ hρ => ?_) (k v' _ w' ⟨⟨C ++ D, by rw [List.length_append]; exact ho, AllR.append (hD.le hst.le) (hC.le hst.le)⟩, fun b hb => .inl hb⟩ hst)
  simp only [execOp, resolve, List.map_toArray, List.map_cons, List.map_nil, hρ x _ hx, hρ y _ hy]
  simp [invoke, builtin, hrun]

/-- the blocks that a function has laid itself, and may write -/
def mine (M : PSet) (base : Nat) : PSet := fun k => base ≤ k ∧ M k
theorem Step.transOwn {M0 M M' N : PSet} {w0 w w' : World} {base : Nat} (h : Step M0 w0 M w N) (h' : Step M w M' w' (mine M base)) (hb : w0.heap.size ≤ base) : Step M0 w0 M' w' N :=
  h.trans h' fun b h1 h2 => absurd h2.1 (by omega)
theorem Step.transBlk {e : TypeId} {M0 M M1 M' N : PSet} {w0 w w1 w' : World} {base : Nat} {v : Value} {xs : List α} (h : Step M0 w0 M w N) (h' : Step M w M' w' (blk v)) (ho : Own A e M1 w1 base v xs) (hb : w0.heap.size ≤ base) : Step M0 w0 M' w' N :=
  h.trans h' fun b h1 h2 => absurd (ho.base b h2).1 (by omega)

theorem Step.transNew {M0 M M' N N' : PSet} {w0 w w' : World} (h : Step M0 w0 M w N) (h' : Step M w M' w' N') (hb : ∀ b, N' b → w0.heap.size ≤ b) : Step M0 w0 M' w' N :=
  h.trans h' fun b h1 h2 => absurd (hb b h2) (by omega)

/-- a slice that may be appended to: the function's own, or one behind which there is no room -/
def Grow {α : Type} (A : RT α) (hn : 0 < A.n) (e : TypeId) (M : PSet) (w : World) (base : Nat) (v : Value) (xs : List α) : Prop :=
  Own A e M w base v xs ∨ ∃ a, v = .slice a xs.length xs.length ∧ (a = none → xs = []) ∧ (A.sl hn).V M w xs v
theorem Grow.le {hn : 0 < A.n} {e : TypeId} {M M' : PSet} {w' : World} {base : Nat} {v : Value} {xs : List α} (h : Grow A hn e M w base v xs) (s : Step M w M' w' none') : Grow A hn e M' w' base v xs :=
  h.imp (·.step0 s) fun ⟨a, h1, h2, h3⟩ => ⟨a, h1, h2, h3.le s.le⟩

theorem Rg.appendg {t e : TypeId} {zv : Value} {bytes : Nat} {hn : 0 < A.n} {M M2 : PSet} {w2 : World} {base : Nat} {v u : Value} {xs ys : List α} (ht : P.underlying t = some (.slice e)) (hi : TI P e zv A.n bytes) (hz : zv.cells.size = A.n)
    (hx : ev L x = some v) (hy : ev L y = some u) (hd : Nat.blt d n = true) (h : Grow A hn e M w base v xs) (hu : (A.sl hn).V M2 w2 ys u) (hle : Le M2 w2 M w) (hne : 0 < ys.length) (hlen : xs.length + ys.length ≤ 140737488355328)
    (hb : (xs.length + ys.length) * bytes ≤ 140737488355328) (hbase : base ≤ w.heap.size)
    (k : ∀ v' M' w', Own A e M' w' base v' (xs ++ ys) → Step M w M' w' (mine M base) → Rg P r n ops rest ((d, v') :: L) ds w' K) :
    Rg P r n ops ({ dst := some d, op := .call { callee := .builtin .append, args := #[x, y], argTypes := #[t, t] }, type := ty, pos, after := af, guard := none } :: rest) L ds w K := by
  rcases h with h | ⟨a, rfl, hnone, h⟩
  · exact .append ht hi hz hx hy hd h hu hle hlen hb hbase fun v' M' w' h1 h2 => k v' M' w' h1 (h2.widen (fun b hb => ⟨(h.base b hb).1, h.mut_ b hb⟩) fun b hb => hb.2)
  · refine .appendclip ht hi hz hx hy hd h hnone hu hle hne hlen hb fun v' M' w' h1 h2 => k v' M' w' ?_ (h2.widen (fun b hb => hb.elim) fun b hb => hb.2)
    obtain ⟨⟨C, hr, ha⟩, hm⟩ := h1
    exact ⟨⟨C, ⟨hr.1, hr.2.imp id fun ⟨g, cap, cur, p3, p4, p5⟩ => ⟨g, cap, cur, p3, Nat.le_trans hbase p4, p5⟩⟩, ha⟩, hm⟩

/-- what is appended to, read where nothing is written: its own block is none of those that may be -/
def rm (M : PSet) (v : Value) : PSet := fun k => M k ∧ v.ownBlock ≠ some k
theorem le_rm (M : PSet) (v : Value) (w : World) : Le M w (rm M v) w := fun _ _ h => ⟨fun h2 => h h2.1, rfl⟩
theorem Own.view {hn : 0 < A.n} {e : TypeId} {M : PSet} {base : Nat} {v : Value} {xs : List α} (h : Own A e M w base v xs) (hlen : xs.length ≤ 140737488355328) : (A.sl hn).V (rm M v) w xs v :=
  h.sl (le_rm M v w) (fun _ hb h2 => h2.2 hb) hlen

theorem Lt.rm {M : PSet} {w : World} (h : Lt M w) (v : Value) : Lt (rm M v) w := fun b hb => h b hb.1
/-- a slice of the function's own is written no more -/
theorem Step.freeze {M0 M N : PSet} {w0 w : World} (h : Step M0 w0 M w N) {v : Value} (hv : ∀ b, v.ownBlock = some b → w0.heap.size ≤ b) : Step M0 w0 (rm M v) w N :=
  ⟨fun h0 => (h.lt h0).rm v, h.os, h.tape, h.output, h.size, fun b hb => ⟨fun h1 => (h.mem b hb).1 h1.1, fun h1 => ⟨(h.mem b hb).2 h1, fun h2 => by have := hv b h2; omega⟩⟩, h.same, h.sub⟩
theorem Own.rebase {e : TypeId} {M : PSet} {base base' : Nat} {v : Value} {xs : List α} (h : Own A e M w base v xs) (hb : base' ≤ base) : Own A e M w base' v xs := by
  obtain ⟨⟨C, hr, ha⟩, hm⟩ := h
  exact ⟨⟨C, ⟨hr.1, hr.2.imp id fun ⟨g, cap, cur, p3, p4, p5⟩ => ⟨g, cap, cur, p3, Nat.le_trans hb p4, p5⟩⟩, ha⟩, hm⟩

/-! ### Bytes and texts -/
theorem bytes_all {M : PSet} {w : World} : ∀ {xs : List UInt8} {C : List Value}, AllR RT.u8 M w xs C → C = xs.map fun b => .int .u8 (b.toNat : Int)
  | [], _, h => h
  | x :: xs, _, ⟨vs, rest, h1, h2, h3⟩ => by
    have h2' : vs = [.int .u8 x.toNat] := h2
    subst h1; rw [h2', bytes_all h3]; rfl

theorem Rg.b2s {s t e : TypeId} {hn : 0 < RT.u8.n} {M : PSet} {xs : List UInt8} {v : Value} (hs : P.underlying s = some (.slice e)) (he : P.underlying e = some (.int .u8)) (ht : P.underlying t = some .string) (hx : ev L x = some v) (hd : Nat.blt d n = true)
    {M1 : PSet} {w1 : World} (hv : (RT.u8.sl hn).V M1 w1 xs v) (hle : Le M1 w1 M w) (k : Rg P r n ops rest ((d, .string ⟨xs.toArray⟩) :: L) ds w K) :
    Rg P r n ops ({ dst := some d, op := .convert s t x, type := ty, pos, after := af, guard := none } :: rest) L ds w K := by
  obtain ⟨a, cap, rfl, hc, hl, hsl⟩ := V_sl.1 (hv.le hle)
  refine .op (fun _ h => by cases h) rfl rfl hd _ w (fun ρ hρ => ?_) k
  simp only [execOp, hρ x _ hx]
  rw [Sem.run_bind, run_convert_bytes_string (P := P) w s t e a xs.length cap hs he ht]
  cases a with
  | none =>
    rcases hsl with rfl | ⟨b, o, h, _⟩
    · simp [Conv.bytesToString]; rfl
    · cases h
  | some p =>
    have hload : (loadCells p xs.length).run P w = .ok ((xs.map fun b => (b.toNat : Int)).map (Value.int .u8)).toArray w := by
      rcases hsl with rfl | ⟨b, o, h, hm, hel⟩
      · simp [loadCells, loadCellsFrom]
      · cases h
        obtain ⟨C, hC, hCr⟩ := SlAt.all hel
        have hCe := bytes_all hC
        have := run_loadCells_list (P := P) w ⟨b, o, none⟩ C (fun j u hj => by rw [Addr.add_mid]; exact hCr j u hj)
        rw [hC.length, show xs.length * RT.u8.n = xs.length from Nat.mul_one _] at this
        rw [this, hCe]; simp
    rw [run_bytesToString (P := P) w p xs.length cap _ hload]
    have key : ∀ (l : List UInt8) (acc : ByteArray), (l.map fun b => (b.toNat : Int)).foldl (fun r n => r.push (UInt8.ofNat n.toNat)) acc = ⟨acc.data ++ l.toArray⟩ := by
      intro l
      induction l with
      | nil => intro acc; simp
      | cons b l ih =>
        intro acc
        simp only [List.map_cons, List.foldl_cons, ih]
        congr 1
        simp [ByteArray.push]
    simp [key]
end
end Go.K

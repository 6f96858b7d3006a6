/- Memory: what a Go value stands for, in a world; what is kept from one world to the next; the operations' rules. No program is named here. -/
import Derived.Test.YtohfoenhmkfjkaaGreatDoorKCore
import Derived.Laws.AppendOwn
import Derived.Laws.BytesString
import Derived.Laws.Slices
import Derived.Laws.NewBlocks
import Derived.Deep.MidRow
import Derived.Below
namespace Go.K
set_option linter.unusedVariables false
set_option linter.unusedSimpArgs false
open Go.RowKit (Below)

abbrev PSet := Nat → Prop
def none' : PSet := fun _ => False
def ins (M : PSet) (b : Nat) : PSet := fun k => k = b ∨ M k

/-! ### From one world to the next -/
/-- what is not in M lies in w' as in w, and is not in M' -/
def Le (M : PSet) (w : World) (M' : PSet) (w' : World) : Prop := ∀ b, b < w.heap.size → ¬ M b → ¬ M' b ∧ w'.heap[b]? = w.heap[b]?

theorem lt_of_get {w : World} {b : Nat} {o : Obj} (h : w.heap[b]? = some o) : b < w.heap.size := (Array.getElem?_eq_some_iff.1 h).1
theorem Le.refl (M : PSet) (w : World) : Le M w M w := fun _ _ h => ⟨h, rfl⟩
theorem Le.trans {M1 M2 M3 : PSet} {w1 w2 w3 : World} (h : Le M1 w1 M2 w2) (h' : Le M2 w2 M3 w3) : Le M1 w1 M3 w3 := fun b hb hm => by
  obtain ⟨h1, h2⟩ := h b hb hm
  have hb2 : b < w2.heap.size := by
    have : w1.heap[b]? = some w1.heap[b] := Array.getElem?_eq_getElem hb
    exact lt_of_get (h2.trans this)
  obtain ⟨h3, h4⟩ := h' b hb2 h1
  exact ⟨h3, h4.trans h2⟩

/-- all that is in M is there -/
def Lt (M : PSet) (w : World) : Prop := ∀ b, M b → b < w.heap.size
theorem Lt.none (w : World) : Lt none' w := fun _ h => h.elim
structure Step (M : PSet) (w : World) (M' : PSet) (w' : World) (N : PSet) : Prop where
  lt : Lt M w → Lt M' w'
  os : w'.os = w.os
  tape : w'.tape = w.tape
  output : w'.output = w.output
  size : w.heap.size ≤ w'.heap.size
  mem : ∀ b, b < w.heap.size → (M' b ↔ M b)
  same : ∀ b, b < w.heap.size → ¬ N b → w'.heap[b]? = w.heap[b]?
  sub : ∀ b, N b → M b

theorem Step.refl (M : PSet) (w : World) : Step M w M w none' := ⟨id, rfl, rfl, rfl, Nat.le_refl _, fun _ _ => Iff.rfl, fun _ _ _ => rfl, fun _ h => h.elim⟩
theorem Step.le {M M' N : PSet} {w w' : World} (h : Step M w M' w' N) : Le M w M' w' := fun b hb hm => ⟨fun hm' => hm ((h.mem b hb).1 hm'), h.same b hb fun hn => hm (h.sub b hn)⟩
theorem Step.trans {M1 M2 M3 N N' : PSet} {w1 w2 w3 : World} (h : Step M1 w1 M2 w2 N) (h' : Step M2 w2 M3 w3 N') (hN : ∀ b, b < w1.heap.size → N' b → N b) : Step M1 w1 M3 w3 N :=
  ⟨fun h0 => h'.lt (h.lt h0), h'.os.trans h.os, h'.tape.trans h.tape, h'.output.trans h.output, Nat.le_trans h.size h'.size,
   fun b hb => (h'.mem b (Nat.lt_of_lt_of_le hb h.size)).trans (h.mem b hb),
   fun b hb hn => (h'.same b (Nat.lt_of_lt_of_le hb h.size) (fun h2 => hn (hN b hb h2))).trans (h.same b hb hn), h.sub⟩
theorem Step.trans0 {M1 M2 M3 N : PSet} {w1 w2 w3 : World} (h : Step M1 w1 M2 w2 N) (h' : Step M2 w2 M3 w3 none') : Step M1 w1 M3 w3 N := h.trans h' fun _ _ h => h.elim
theorem Step.widen {M M' N N' : PSet} {w w' : World} (h : Step M w M' w' N) (hN : ∀ b, N b → N' b) (hs : ∀ b, N' b → M b) : Step M w M' w' N' :=
  ⟨h.lt, h.os, h.tape, h.output, h.size, h.mem, fun b hb hn => h.same b hb fun h2 => hn (hN b h2), hs⟩
/-- where nothing that was there was written, any set is kept -/
theorem Step.any {M M' : PSet} {w w' : World} (h : Step M w M' w' none') (M1 : PSet) : Step M1 w M1 w' none' :=
  ⟨fun h0 b hb => Nat.lt_of_lt_of_le (h0 b hb) h.size, h.os, h.tape, h.output, h.size, fun _ _ => Iff.rfl, h.same, fun _ h => h.elim⟩
/-- the caller's own set, again, behind a call's inner steps -/
theorem Step.back {M M' N : PSet} {w w' : World} (h : Step M w M' w' N) : Step M w M w' N := ⟨fun h0 b hb => Nat.lt_of_lt_of_le (h0 b hb) h.size, h.os, h.tape, h.output, h.size, fun _ _ => Iff.rfl, h.same, h.sub⟩
theorem Step.below {M : PSet} {M' : PSet} {w w' : World} (h : Step M w M' w' none') : Below w.heap.size w w' := ⟨h.os, h.tape, h.output, h.size, fun k hk => h.same k hk fun h => h.elim⟩
theorem Step.same0 {M M' : PSet} {w w' : World} (h : Step M w M' w' none') {b : Nat} {o : Obj} (hb : w.heap[b]? = some o) : w'.heap[b]? = some o := (h.same b (lt_of_get hb) fun h => h.elim).trans hb
theorem Step.keep {M M' N : PSet} {w w' : World} (h : Step M w M' w' N) {b : Nat} {o : Obj} (hb : w.heap[b]? = some o) (hn : ¬ N b) : w'.heap[b]? = some o := (h.same b (lt_of_get hb) hn).trans hb

theorem Lt.step {M M' N : PSet} {w w' : World} (h : Lt M w) (s : Step M w M' w' N) : Lt M' w' := s.lt h
theorem Lt.ins {M : PSet} {w : World} (h : Lt M w) {b : Nat} (hb : b < w.heap.size) : Lt (ins M b) w := fun k hk => by
  rcases hk with rfl | hk
  · exact hb
  · exact h k hk
/-- a function's own set is let go where it ends -/
theorem Le.close {M0 M N : PSet} {w0 w : World} (hl : Lt M0 w0) (s : Step M0 w0 M w N) : Le M w M0 w := fun b _ hm =>
  ⟨fun h0 => hm ((s.mem b (hl b h0)).2 h0), rfl⟩

theorem step_alloc (M : PSet) (w : World) (o : Obj) : Step M w M (w.alloc o) none' :=
  ⟨fun h b hb => Nat.lt_of_lt_of_le (h b hb) (by simp), rfl, rfl, rfl, by simp, fun _ _ => Iff.rfl, fun k hk _ => Below.heap_alloc w o k hk, fun _ h => h.elim⟩
theorem step_drew (M : PSet) (w : World) : Step M w M w.drew none' := ⟨fun h => h, rfl, rfl, rfl, Nat.le_refl _, fun _ _ => Iff.rfl, fun _ _ _ => rfl, fun _ h => h.elim⟩
/-- a block that is not there yet may be called the function's own -/
theorem Step.own {M M' N : PSet} {w w' : World} (s : Step M w M' w' N) {b : Nat} (hb : w.heap.size ≤ b) (hb' : b < w'.heap.size) : Step M w (ins M' b) w' N :=
  ⟨fun h k hk => by
    rcases hk with rfl | hk
    · exact hb'
    · exact s.lt h k hk, s.os, s.tape, s.output, s.size, fun k hk => ⟨fun h => by
    rcases h with rfl | h
    · omega
    · exact (s.mem k hk).1 h, fun h => .inr ((s.mem k hk).2 h)⟩, s.same, s.sub⟩

/-! ### What values stand for -/
structure RT (α : Type) where
  n : Nat
  agg : Bool
  R : PSet → World → α → List Value → Prop
  len : ∀ {M w x vs}, R M w x vs → vs.length = n
  one : ∀ {M w x vs}, R M w x vs → ∀ v ∈ vs, v.oneCell' = true
  le : ∀ {M w M' w' x vs}, Le M w M' w' → R M w x vs → R M' w' x vs

def RT.val {α : Type} (A : RT α) (vs : List Value) : Value := if A.agg then .agg vs.toArray else vs.headD undef
/-- the value v of a slot stands for x -/
def RT.V {α : Type} (A : RT α) (M : PSet) (w : World) (x : α) (v : Value) : Prop := ∃ vs, A.R M w x vs ∧ v = A.val vs
theorem RT.V.le {α : Type} {A : RT α} {M M' : PSet} {w w' : World} {x : α} {v : Value} (hl : Le M w M' w') (h : A.V M w x v) : A.V M' w' x v := by
  obtain ⟨vs, h1, h2⟩ := h; exact ⟨vs, A.le hl h1, h2⟩

def RT.int (k : IntKind) : RT Int where
  n := 1
  agg := false
  R := fun _ _ x vs => vs = [.int k x] ∧ k.min ≤ x ∧ x ≤ k.max
  len := by rintro _ _ x vs ⟨rfl, _⟩; rfl
  one := by rintro _ _ x vs ⟨rfl, _⟩ v hv; simp at hv; subst hv; rfl
  le := fun _ h => h

def RT.u8 : RT UInt8 where
  n := 1
  agg := false
  R := fun _ _ x vs => vs = [.int .u8 x.toNat]
  len := by rintro _ _ x vs rfl; rfl
  one := by rintro _ _ x vs rfl v hv; simp at hv; subst hv; rfl
  le := fun _ h => h

def RT.bool : RT Bool where
  n := 1
  agg := false
  R := fun _ _ x vs => vs = [.bool x]
  len := by rintro _ _ x vs rfl; rfl
  one := by rintro _ _ x vs rfl v hv; simp at hv; subst hv; rfl
  le := fun _ h => h

/-- a text: its bytes -/
def RT.str : RT (List UInt8) where
  n := 1
  agg := false
  R := fun _ _ x vs => vs = [.string ⟨x.toArray⟩] ∧ x.length ≤ 140737488355328
  len := by rintro _ _ x vs ⟨rfl, _⟩; rfl
  one := by rintro _ _ x vs ⟨rfl, _⟩ v hv; simp at hv; subst hv; rfl
  le := fun _ h => h

theorem rangeAt_le {M M' : PSet} {w w' : World} (hl : Le M w M' w') {b o : Nat} {vs : List Value} (hm : ¬ M b) (h : w.rangeAt b o vs) : w'.rangeAt b o vs := by
  intro j v hv
  have hc := h j v hv
  have hb : b < w.heap.size := World.block_lt_of_cell? w ⟨b, o + j, none⟩ hc
  rw [World.cell?_of_block (w := w) (hl b hb hm).2]; exact hc

/-- the elements of a slice at an address -/
def SlAt {α : Type} (A : RT α) (M : PSet) (w : World) (a : Option Addr) (xs : List α) : Prop :=
  xs = [] ∨ ∃ b o, a = some ⟨b, o, none⟩ ∧ ¬ M b ∧ ∀ i x, xs[i]? = some x → ∃ vs, A.R M w x vs ∧ w.rangeAt b (o + i * A.n) vs

theorem SlAt.le {α : Type} {A : RT α} {M M' : PSet} {w w' : World} {a : Option Addr} {xs : List α} (hn : 0 < A.n) (hl : Le M w M' w') (h : SlAt A M w a xs) : SlAt A M' w' a xs := by
  rcases h with h | ⟨b, o, h1, h2, h3⟩
  · exact .inl h
  · cases xs with
    | nil => exact .inl rfl
    | cons x xs =>
      obtain ⟨vs, hv, hr⟩ := h3 0 x rfl
      have hpos : 0 < vs.length := by rw [A.len hv]; exact hn
      have hc := hr 0 vs[0] (List.getElem?_eq_getElem hpos)
      have hb : b < w.heap.size := World.block_lt_of_cell? w _ hc
      refine .inr ⟨b, o, h1, (hl b hb h2).1, fun i x hi => ?_⟩
      obtain ⟨vs, hv, hr⟩ := h3 i x hi
      exact ⟨vs, A.le hl hv, rangeAt_le hl h2 hr⟩

/-- a slice (of elements that take cells): its elements -/
def RT.sl {α : Type} (A : RT α) (hn : 0 < A.n := by decide) : RT (List α) where
  n := 1
  agg := false
  R := fun M w xs vs => ∃ a cap, vs = [.slice a xs.length cap] ∧ xs.length ≤ cap ∧ xs.length ≤ 140737488355328 ∧ SlAt A M w a xs
  len := by rintro _ _ x vs ⟨a, cap, rfl, _⟩; rfl
  one := by rintro _ _ x vs ⟨a, cap, rfl, _⟩ v hv; simp at hv; subst hv; rfl
  le := by
    rintro M w M' w' xs vs hl ⟨a, cap, h1, h2, h3, h4⟩
    exact ⟨a, cap, h1, h2, h3, h4.le hn hl⟩

/-- a struct of two parts (parts of parts: more) -/
def RT.pair {α β : Type} (A : RT α) (B : RT β) : RT (α × β) where
  n := A.n + B.n
  agg := true
  R := fun M w x vs => ∃ va vb, vs = va ++ vb ∧ A.R M w x.1 va ∧ B.R M w x.2 vb
  len := by rintro _ _ x vs ⟨va, vb, rfl, h1, h2⟩; rw [List.length_append, A.len h1, B.len h2]
  one := by
    rintro _ _ x vs ⟨va, vb, rfl, h1, h2⟩ v hv
    rcases List.mem_append.1 hv with hv | hv
    · exact A.one h1 v hv
    · exact B.one h2 v hv
  le := by rintro M w M' w' x vs hl ⟨va, vb, h0, h1, h2⟩; exact ⟨va, vb, h0, A.le hl h1, B.le hl h2⟩

/-- the same, told as another type -/
def RT.iso {α β : Type} (A : RT α) (f : β → α) : RT β where
  n := A.n
  agg := A.agg
  R := fun M w x vs => A.R M w (f x) vs
  len := A.len
  one := A.one
  le := A.le

theorem V_int {k : IntKind} {M : PSet} {w : World} {x : Int} {v : Value} : (RT.int k).V M w x v ↔ v = .int k x ∧ k.min ≤ x ∧ x ≤ k.max :=
  ⟨fun ⟨_, ⟨h1, h2⟩, h3⟩ => by subst h1; exact ⟨h3, h2⟩, fun ⟨h1, h2⟩ => ⟨_, ⟨rfl, h2⟩, h1⟩⟩
theorem V_u8 {M : PSet} {w : World} {x : UInt8} {v : Value} : RT.u8.V M w x v ↔ v = .int .u8 x.toNat := ⟨fun ⟨_, h1, h2⟩ => by cases h1; exact h2, fun h => ⟨_, rfl, h⟩⟩
theorem V_bool {M : PSet} {w : World} {x : Bool} {v : Value} : RT.bool.V M w x v ↔ v = .bool x := ⟨fun ⟨_, h1, h2⟩ => by cases h1; exact h2, fun h => ⟨_, rfl, h⟩⟩
theorem V_str {M : PSet} {w : World} {x : List UInt8} {v : Value} : RT.str.V M w x v ↔ v = .string ⟨x.toArray⟩ ∧ x.length ≤ 140737488355328 :=
  ⟨fun ⟨_, ⟨h1, h2⟩, h3⟩ => by subst h1; exact ⟨h3, h2⟩, fun ⟨h1, h2⟩ => ⟨_, ⟨rfl, h2⟩, h1⟩⟩
theorem V_sl {α : Type} {A : RT α} {hn : 0 < A.n} {M : PSet} {w : World} {xs : List α} {v : Value} :
    (A.sl hn).V M w xs v ↔ ∃ a cap, v = .slice a xs.length cap ∧ xs.length ≤ cap ∧ xs.length ≤ 140737488355328 ∧ SlAt A M w a xs :=
  ⟨fun ⟨_, ⟨a, cap, h1, h2⟩, h3⟩ => by subst h1; exact ⟨a, cap, h3, h2⟩, fun ⟨a, cap, h1, h2⟩ => ⟨_, ⟨a, cap, rfl, h2⟩, h1⟩⟩
theorem V_nil {α : Type} {A : RT α} {hn : 0 < A.n} {M : PSet} {w : World} : (A.sl hn).V M w [] (.slice none 0 0) := V_sl.2 ⟨none, 0, rfl, Nat.zero_le _, Nat.zero_le _, .inl rfl⟩
theorem V_sl_len {α : Type} {A : RT α} {hn : 0 < A.n} {M : PSet} {w : World} {xs : List α} {v : Value} (h : (A.sl hn).V M w xs v) : xs.length ≤ 140737488355328 := by
  obtain ⟨_, _, _, _, h, _⟩ := V_sl.1 h; exact h

/-! ### Slices that a function appends to -/
/-- the cells of a list's elements, one behind the other -/
def AllR {α : Type} (A : RT α) (M : PSet) (w : World) : List α → List Value → Prop
  | [], C => C = []
  | x :: xs, C => ∃ vs rest, C = vs ++ rest ∧ A.R M w x vs ∧ AllR A M w xs rest

theorem AllR.le {α : Type} {A : RT α} {M M' : PSet} {w w' : World} (hl : Le M w M' w') : ∀ {xs : List α} {C : List Value}, AllR A M w xs C → AllR A M' w' xs C
  | [], _, h => h
  | _ :: _, _, ⟨vs, rest, h1, h2, h3⟩ => ⟨vs, rest, h1, A.le hl h2, AllR.le hl h3⟩
theorem AllR.length {α : Type} {A : RT α} {M : PSet} {w : World} : ∀ {xs : List α} {C : List Value}, AllR A M w xs C → C.length = xs.length * A.n
  | [], _, h => by cases h; simp
  | x :: xs, _, ⟨vs, rest, h1, h2, h3⟩ => by subst h1; rw [List.length_append, A.len h2, AllR.length h3, List.length_cons, Nat.add_mul]; omega
theorem AllR.one {α : Type} {A : RT α} {M : PSet} {w : World} : ∀ {xs : List α} {C : List Value}, AllR A M w xs C → ∀ u ∈ C, u.oneCell' = true
  | [], _, h, u, hu => by cases h; cases hu
  | x :: xs, _, ⟨vs, rest, h1, h2, h3⟩, u, hu => by
    subst h1
    rcases List.mem_append.1 hu with hu | hu
    · exact A.one h2 u hu
    · exact AllR.one h3 u hu
theorem AllR.append {α : Type} {A : RT α} {M : PSet} {w : World} {ys : List α} {D : List Value} (hd : AllR A M w ys D) : ∀ {xs : List α} {C : List Value}, AllR A M w xs C → AllR A M w (xs ++ ys) (C ++ D)
  | [], _, h => by cases h; simpa using hd
  | _ :: _, _, ⟨vs, rest, h1, h2, h3⟩ => ⟨vs, rest ++ D, by subst h1; simp, h2, AllR.append hd h3⟩
theorem AllR.at_ {α : Type} {A : RT α} {M : PSet} {w : World} : ∀ {xs : List α} {C : List Value}, AllR A M w xs C → ∀ i x, xs[i]? = some x → ∃ vs, A.R M w x vs ∧ ∀ j v, vs[j]? = some v → C[i * A.n + j]? = some v
  | [], _, _, i, x, hi => by simp at hi
  | y :: xs, _, ⟨vs, rest, h1, h2, h3⟩, 0, x, hi => by
    simp at hi; subst hi; subst h1
    refine ⟨vs, h2, fun j v hv => ?_⟩
    have hj : j < vs.length := (List.getElem?_eq_some_iff.1 hv).1
    rw [Nat.zero_mul, Nat.zero_add, List.getElem?_append_left hj]; exact hv
  | y :: xs, _, ⟨vs, rest, h1, h2, h3⟩, i + 1, x, hi => by
    subst h1
    obtain ⟨us, hu, hr⟩ := AllR.at_ h3 i x (by simpa using hi)
    refine ⟨us, hu, fun j v hv => ?_⟩
    have := hr j v hv
    have hl := A.len h2
    rw [List.getElem?_append_right (by rw [hl, Nat.add_mul]; omega), hl, Nat.add_mul]
    rw [show i * A.n + 1 * A.n + j - A.n = i * A.n + j from by omega]; exact this

/-- the cells that a slice's elements take in memory, read as one list -/
theorem SlAt.all {α : Type} {A : RT α} {M : PSet} {w : World} {b o : Nat} : ∀ {xs : List α} , (∀ i x, xs[i]? = some x → ∃ vs, A.R M w x vs ∧ w.rangeAt b (o + i * A.n) vs) →
    ∃ C, AllR A M w xs C ∧ w.rangeAt b o C := by
  intro xs
  induction xs generalizing o with
  | nil => intro _; exact ⟨[], rfl, fun j v hv => by simp at hv⟩
  | cons x xs ih =>
    intro h
    obtain ⟨vs, hv, hr⟩ := h 0 x rfl
    obtain ⟨C, hC, hD⟩ := ih (o := o + A.n) (fun i y hi => by
      obtain ⟨us, hu, hs⟩ := h (i + 1) y (by simpa using hi)
      refine ⟨us, hu, ?_⟩
      rw [show o + A.n + i * A.n = o + (i + 1) * A.n from by rw [Nat.add_mul]; omega]; exact hs)
    refine ⟨vs ++ C, ⟨vs, C, rfl, hv, hC⟩, fun j v hj => ?_⟩
    have hl := A.len hv
    rcases Nat.lt_or_ge j vs.length with hlt | hge
    · rw [List.getElem?_append_left hlt] at hj
      have := hr j v hj
      simpa using this
    · rw [List.getElem?_append_right hge] at hj
      have := hD (j - vs.length) v hj
      rw [show o + A.n + (j - vs.length) = o + j from by omega] at this
      exact this

/-- a slice that is nil, or lies at the head of a block of the function's own: it may be appended to -/
structure Own {α : Type} (A : RT α) (e : TypeId) (M : PSet) (w : World) (base : Nat) (v : Value) (xs : List α) : Prop where
  row : ∃ C, w.ownsRow base e A.n v xs.length C ∧ AllR A M w xs C
  mut_ : ∀ b, v.ownBlock = some b → M b

theorem Own.nil {α : Type} (A : RT α) (e : TypeId) (M : PSet) (w : World) (base : Nat) : Own A e M w base (.slice none 0 0) [] :=
  ⟨⟨[], World.ownsRow_nil w base e A.n, rfl⟩, fun b h => by simp [Value.ownBlock] at h⟩

theorem Own.isSlice {α : Type} {A : RT α} {e : TypeId} {M : PSet} {w : World} {base : Nat} {v : Value} {xs : List α} (h : Own A e M w base v xs) : ∃ a cap, v = .slice a xs.length cap ∧ xs.length ≤ cap := by
  obtain ⟨⟨C, hr, _⟩, _⟩ := h
  rcases hr.2 with ⟨h1, h2⟩ | ⟨g, cap, cur, h1, _, _, h4, _⟩
  · exact ⟨none, 0, by rw [h1, h2], by omega⟩
  · exact ⟨_, cap, h1, h4⟩

theorem Own.base {α : Type} {A : RT α} {e : TypeId} {M : PSet} {w : World} {base : Nat} {v : Value} {xs : List α} (h : Own A e M w base v xs) : ∀ b, v.ownBlock = some b → base ≤ b ∧ b < w.heap.size := by
  obtain ⟨⟨C, hr, _⟩, _⟩ := h; exact hr.lt

/-- it is kept by a step that does not write its block -/
theorem Own.step {α : Type} {A : RT α} {e : TypeId} {M M' N : PSet} {w w' : World} {base : Nat} {v : Value} {xs : List α} (h : Own A e M w base v xs) (s : Step M w M' w' N)
    (hn : ∀ b, v.ownBlock = some b → ¬ N b) : Own A e M' w' base v xs := by
  obtain ⟨⟨C, hr, ha⟩, hm⟩ := h
  refine ⟨⟨C, ⟨hr.1, ?_⟩, ha.le s.le⟩, fun b hb => (s.mem b (hr.lt b hb).2).2 (hm b hb)⟩
  rcases hr.2 with h1 | ⟨g, cap, cur, h1, h2, h3, h4⟩
  · exact .inl h1
  · exact .inr ⟨g, cap, cur, h1, h2, s.keep h3 (hn g (by rw [h1]; rfl)), h4⟩

theorem Own.step0 {α : Type} {A : RT α} {e : TypeId} {M M' : PSet} {w w' : World} {base : Nat} {v : Value} {xs : List α} (h : Own A e M w base v xs) (s : Step M w M' w' none') : Own A e M' w' base v xs := h.step s fun _ _ h => h

/-- a list's elements, read in a world from which its block is as it was: for loads -/
theorem Own.sl {α : Type} {A : RT α} {hn : 0 < A.n} {e : TypeId} {M : PSet} {w : World} {base : Nat} {v : Value} {xs : List α} (h : Own A e M w base v xs) {M0 : PSet} (hle : Le M w M0 w)
    (hb : ∀ b, v.ownBlock = some b → ¬ M0 b) (hlen : xs.length ≤ 140737488355328) : (A.sl hn).V M0 w xs v := by
  obtain ⟨⟨C, hr, ha⟩, hm⟩ := h
  rcases hr.2 with ⟨h1, h2⟩ | ⟨g, cap, cur, h1, h2, h3, h4, h5, h6, h7⟩
  · have : xs = [] := List.eq_nil_of_length_eq_zero h2
    subst this; subst h1
    exact V_nil
  · subst h1
    refine V_sl.2 ⟨_, cap, rfl, h4, hlen, .inr ⟨g, 0, rfl, hb g rfl, fun i x hi => ?_⟩⟩
    obtain ⟨vs, hv, hj⟩ := ha.at_ i x hi
    refine ⟨vs, A.le hle hv, fun j u hu => ?_⟩
    have h8 := hj j u hu
    rw [← h7, List.getElem?_take] at h8
    split at h8
    · simp only [World.cell?, h3]
      simpa using h8
    · cases h8

/-- where a function ends, what it appended to is no longer its own -/
theorem Own.close {α : Type} {A : RT α} {hn : 0 < A.n} {e : TypeId} {M0 M N : PSet} {w0 w : World} {v : Value} {xs : List α} (hl : Lt M0 w0) (s : Step M0 w0 M w N) (h : Own A e M w w0.heap.size v xs)
    (hlen : xs.length ≤ 140737488355328) : (A.sl hn).V M0 w xs v :=
  h.sl (Le.close hl s) (fun b hb h0 => by have := (h.base b hb).1; have := hl b h0; omega) hlen

/-! ### Types' rows -/
def TI (P : Program) (t : TypeId) (z : Value) (size bytes : Nat) : Prop := (P.info? t).map (fun i => (i.zero, i.size, i.bytes)) = some (some z, size, bytes)
theorem TI.get {P : Program} {t : TypeId} {z : Value} {size bytes : Nat} (h : TI P t z size bytes) : ∃ i, P.info? t = some i ∧ i.zero = some z ∧ i.size = size ∧ i.bytes = bytes := by
  unfold TI at h
  cases hi : P.info? t with
  | none => simp [hi] at h
  | some i => simp [hi] at h; exact ⟨i, rfl, h.1, h.2.1, h.2.2⟩
theorem TI.sizeOf {P : Program} {t : TypeId} {z : Value} {size bytes : Nat} (h : TI P t z size bytes) (w : World) : (Go.sizeOf t).run P w = .ok size w := by
  obtain ⟨i, h1, h2, h3, h4⟩ := h.get; simp [Go.sizeOf, typeInfo, h1, h3]

end Go.K

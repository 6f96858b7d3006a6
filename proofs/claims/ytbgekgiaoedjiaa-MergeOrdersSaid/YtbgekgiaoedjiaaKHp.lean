/- A heap that a block holds: a slice of the function's own, in a variable that is boxed. No program is named here. -/
import Derived.Test.YtbgekgiaoedjiaaKArr
import Derived.Test.YtbgekgiaoedjiaaKOrd
namespace Go.K
set_option linter.unusedVariables false
set_option linter.unusedSimpArgs false
abbrev RT.hd : RT Hd := RT.pair (RT.int .i64) (RT.pair (RT.int .i64) (RT.int .i64))
theorem hd0 : Part RT.hd (RT.int .i64) (fun h => h.1) 0 := Part.fst _ _
theorem hd1 : Part RT.hd (RT.int .i64) (fun h => h.2.1) 1 := (Part.snd _ _).trans (Part.fst _ _)
theorem hd2 : Part RT.hd (RT.int .i64) (fun h => h.2.2) 2 := (Part.snd _ _).trans (Part.snd _ _)
def i64r (x : Int) : Prop := -9223372036854775808 ≤ x ∧ x ≤ 9223372036854775807
theorem V_hd {M : PSet} {w : World} {a b c : Int} (ha : i64r a) (hb : i64r b) (hc : i64r c) : RT.hd.V M w (a, b, c) (.agg #[.int .i64 a, .int .i64 b, .int .i64 c]) :=
  ⟨[.int .i64 a, .int .i64 b, .int .i64 c], ⟨[.int .i64 a], [.int .i64 b, .int .i64 c], rfl, ⟨rfl, ha⟩, ⟨[.int .i64 b], [.int .i64 c], rfl, ⟨rfl, hb⟩, ⟨rfl, hc⟩⟩⟩, rfl⟩
theorem hd_val {M : PSet} {w : World} {a b c : Int} {v : Value} (h : RT.hd.V M w (a, b, c) v) : v = .agg #[.int .i64 a, .int .i64 b, .int .i64 c] ∧ i64r a ∧ i64r b ∧ i64r c := by
  obtain ⟨vs, ⟨va, vb, rfl, h1, ⟨vc, vd, rfl, h2, h3⟩⟩, rfl⟩ := h
  have e1 := h1.1; have e2 := h2.1; have e3 := h3.1
  subst e1; subst e2; subst e3
  exact ⟨rfl, h1.2, h2.2, h3.2⟩
theorem Step.withM {M M2 N : PSet} {w w' : World} (s : Step M w M w' N) (hm : ∀ b, b < w.heap.size → (M2 b ↔ M b)) (hl : Lt M2 w') : Step M w M2 w' N :=
  ⟨fun _ => hl, s.os, s.tape, s.output, s.size, hm, s.same, s.sub⟩
theorem Own.ltM {α : Type} {A : RT α} {e : TypeId} {M : PSet} {w : World} {base : Nat} {v : Value} {xs : List α} (h : Own A e M w base v xs) : xs.length ≤ 9223372036854775807 := by
  obtain ⟨⟨C, hr, _⟩, _⟩ := h
  rcases hr.2 with ⟨_, h2⟩ | ⟨g, cap, cur, h1, h2, h3, h4, h5, _⟩
  · omega
  · unfold maxLen at h5; omega
theorem Own.notnil {α : Type} {A : RT α} {e : TypeId} {M : PSet} {w : World} {base : Nat} {v : Value} {xs : List α} (h : Own A e M w base v xs) (hl : 0 < xs.length) : v ≠ .slice none 0 0 := fun e => by
  obtain ⟨a, cap, h1, _⟩ := h.isSlice
  rw [e] at h1
  simp only [Value.slice.injEq] at h1; omega
theorem Own.apart {α : Type} {A : RT α} {e Th : TypeId} {M : PSet} {w : World} {base bh : Nat} {v : Value} {xs : List α} {cs : Array Value} {fr : Nat × Nat} (h : Own A e M w base v xs) (hb : w.heap[bh]? = some (.cells cs Th fr)) (ne : Th ≠ e) : ∀ k, v.ownBlock = some k → k ≠ bh := fun k hk he => by
  obtain ⟨⟨C, hr, _⟩, _⟩ := h
  rcases hr.2 with ⟨h1, _⟩ | ⟨g, cap, cur, h1, h2, h3, _⟩
  · rw [h1] at hk; cases hk
  · rw [h1] at hk; cases hk
    have he : g = bh := he
    rw [he] at h3
    have := hb.symm.trans h3
    simp only [Option.some.injEq, Obj.cells.injEq] at this
    exact ne this.2.1
structure HpS (Th Te : TypeId) (M : PSet) (w : World) (bh base : Nat) (v : Value) (hs : List Hd) : Prop where
  h : w.heap[bh]? = some (.cells #[v] Th (0, 0))
  mh : M bh
  o : Own RT.hd Te M w base v hs
  nn : v ≠ .slice none 0 0
  ne : Th ≠ Te
section
variable {Th Te : TypeId} {M M' N : PSet} {w w' : World} {bh base : Nat} {v v' : Value} {hs hs' : List Hd}
theorem HpS.apart (h : HpS Th Te M w bh base v hs) : ∀ k, v.ownBlock = some k → k ≠ bh := h.o.apart h.h h.ne
theorem HpS.step0 (h : HpS Th Te M w bh base v hs) (s : Step M w M' w' none') : HpS Th Te M' w' bh base v hs := ⟨s.same0 h.h, (s.mem bh (lt_of_get h.h)).2 h.mh, h.o.step0 s, h.nn, h.ne⟩
/-- the heap's own slice was written -/
theorem HpS.wrote (h : HpS Th Te M w bh base v hs) (s : Step M w M w' (blk v)) (ho : Own RT.hd Te M w' base v hs') : HpS Th Te M w' bh base v hs' :=
  ⟨s.keep h.h (fun hk => h.apart bh hk rfl), h.mh, ho, h.nn, h.ne⟩
theorem Own.val {α : Type} {A : RT α} {e : TypeId} {base : Nat} {xs : List α} (h : Own A e M w base v xs) {j : Nat} {x : α} (hx : xs[j]? = some x) : ∃ u, A.V M w x u := by
  obtain ⟨⟨C, hr, ha⟩, _⟩ := h
  obtain ⟨vs, hv, _⟩ := ha.at_ j x hx
  exact ⟨_, vs, hv, rfl⟩
/-- a view of the heap's slice, for loads -/
theorem HpS.view {hn : 0 < RT.hd.n} (h : HpS Th Te M w bh base v hs) (hl : hs.length ≤ 140737488355328) : (RT.hd.sl hn).V (fun k => M k ∧ ¬ v.ownBlock = some k) w hs v :=
  h.o.sl (fun b _ hm => ⟨fun h => hm h.1, rfl⟩) (fun b hb h => h.2 hb) hl
end
/-- a block's cells are of a type -/
def BT (w : World) (k : Nat) (T : TypeId) : Prop := ∃ cs fr, w.heap[k]? = some (.cells cs T fr)
theorem BT.ne {w : World} {a b : Nat} {Ta Tb : TypeId} (ha : BT w a Ta) (hb : BT w b Tb) (h : Ta ≠ Tb) : a ≠ b := fun e => by
  subst e
  obtain ⟨cs, fr, h1⟩ := ha; obtain ⟨cs', fr', h2⟩ := hb
  have := h1.symm.trans h2
  simp only [Option.some.injEq, Obj.cells.injEq] at this
  exact h this.2.1
theorem Own.bt {α : Type} {A : RT α} {e : TypeId} {M : PSet} {w : World} {base : Nat} {v : Value} {xs : List α} (h : Own A e M w base v xs) : ∀ k, v.ownBlock = some k → BT w k e := fun k hk => by
  obtain ⟨⟨C, hr, _⟩, _⟩ := h
  rcases hr.2 with ⟨h1, _⟩ | ⟨g, cap, cur, h1, h2, h3, _⟩
  · rw [h1] at hk; cases hk
  · rw [h1] at hk; cases hk; exact ⟨_, _, h3⟩
/-- blocks that hold heads, at a world -/
def NB (Te : TypeId) (M : PSet) (w : World) (bh base : Nat) : PSet := fun k => M k ∧ (k = bh ∨ (base ≤ k ∧ BT w k Te))
theorem NB.not {Te T : TypeId} {M : PSet} {w : World} {bh base k : Nat} (hk : BT w k T) (hne : T ≠ Te) (hb : k ≠ bh) : ¬ NB Te M w bh base k := fun h => h.2.elim hb fun h2 => hk.ne h2.2 hne rfl
section
variable {Th Te : TypeId} {M M1 M2 M' N : PSet} {w w0 w1 w2 w' : World} {bh base : Nat} {v : Value} {hs : List Hd}
theorem Step.nb (s1 : Step M w0 M1 w1 (NB Te M w0 bh base)) (s2 : Step M1 w1 M2 w2 (NB Te M1 w1 bh base)) : Step M w0 M2 w2 (NB Te M w0 bh base) :=
  s1.trans s2 fun b hb h => by
    by_cases hn : NB Te M w0 bh base b
    · exact hn
    · refine ⟨(s1.mem b hb).1 h.1, h.2.imp id fun ⟨hbb, cs, fr, hc⟩ => ⟨hbb, cs, fr, ?_⟩⟩
      rw [← s1.same b hb hn]; exact hc
theorem Step.nbw (s : Step M w M' w' (blk v)) (h : HpS Th Te M w bh base v hs) : Step M w M' w' (NB Te M w bh base) := s.widen (fun b hb => ⟨h.o.mut_ b hb, .inr ⟨(h.o.base b hb).1, h.o.bt b hb⟩⟩) (fun _ h => h.1)
theorem Step.nb0 (s : Step M w M' w' none') : Step M w M' w' (NB Te M w bh base) := s.widen (fun _ h => h.elim) (fun _ h => h.1)
theorem HpS.bt (h : HpS Th Te M w bh base v hs) : BT w bh Th := ⟨_, _, h.h⟩
theorem HpS.keep (h : HpS Th Te M w bh base v hs) (s : Step M w M' w' N) (hb : ¬ N bh) (hv : ∀ k, v.ownBlock = some k → ¬ N k) : HpS Th Te M' w' bh base v hs :=
  ⟨s.keep h.h hb, (s.mem bh (lt_of_get h.h)).2 h.mh, h.o.step s hv, h.nn, h.ne⟩
end
theorem par_div (j : Nat) : ((j : Int) - 1).tdiv 2 = (((j - 1) / 2 : Nat) : Int) := by
  cases j with
  | zero => rfl
  | succ j => rw [show ((j + 1 : Nat) : Int) - 1 = (j : Int) from by omega, Nat.add_sub_cancel]; rfl
section
variable {P : Program} {r : Option Nat} {n : Nat} {L : Sl} {ds : List Deferred} {w : World} {K : Kt} {ops : Array Oper} {rest : List Oper} {d : Nat} {ty : TypeId} {pos : String} {af : Array Edge} {x y : Operand}
theorem Rg.par {t t' : TypeId} {j : Nat} (hx : ev L x = some (.int .i64 ((j : Int) - 1))) (hy : ev L y = some (.int .i64 2)) (hd : Nat.blt d n = true) (hj : j ≤ 9223372036854775807)
    (k : Rg P r n ops rest ((d, .int .i64 (((j - 1) / 2 : Nat) : Int)) :: L) ds w K) :
    Rg P r n ops ({ dst := some d, op := .binOp .quo t x y t', type := ty, pos, after := af, guard := none } :: rest) L ds w K := by
  cases j with
  | zero => exact .bin hx hy hd (by simp [binOp, Op.intDiv]; try rfl) k
  | succ j =>
    refine Rg.idiv hx hy hd (by omega) ?_
    rw [show (((j + 1 : Nat) : Int) - 1) / 2 = (((j + 1 - 1) / 2 : Nat) : Int) from by omega]
    exact k
end
theorem hn_at {xs : List Hd} {i : Nat} {a b c : Int} (h : xs[i]? = some (a, b, c)) : hn xs i = a := by unfold hn; rw [List.getD_eq_getElem?_getD, h]; rfl
theorem swp_set {xs : List Hd} {i j : Nat} {x y : Hd} (hx : xs[i]? = some x) (hy : xs[j]? = some y) : swp xs i j = (xs.set i y).set j x := by
  unfold swp; rw [List.getD_eq_getElem?_getD, List.getD_eq_getElem?_getD, hx, hy]; rfl
theorem swp_again {xs : List Hd} {i j : Nat} {x y : Hd} (hx : xs[i]? = some x) (hy : xs[j]? = some y) : (swp xs i j).set j x = swp xs i j := by
  rw [swp_set hx hy, List.set_set]
end Go.K

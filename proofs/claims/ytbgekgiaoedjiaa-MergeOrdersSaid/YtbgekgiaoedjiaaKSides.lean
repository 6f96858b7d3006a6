/- Numbers side by side, in plain Lean. No program is named here. -/
import Derived.Test.YtbgekgiaoedjiaaKMatch
import Derived.Test.YtbgekgiaoedjiaaKNum
namespace Go.K
set_option linter.unusedVariables false
set_option linter.unusedSimpArgs false
def GoodL (l : List Int) : Prop := l.Pairwise (· < ·) ∧ (∀ x ∈ l, 0 ≤ x ∧ x < 1000000) ∧ l.length ≤ 1000
theorem rises_pair : ∀ (l : List Int) (last : Int), rises last l = true → l.Pairwise (· < ·) ∧ ∀ x ∈ l, last < x
  | [], _, _ => by simp
  | a :: l, last, h => by
    simp only [rises, Bool.and_eq_true, decide_eq_true_eq] at h
    obtain ⟨h1, h2⟩ := rises_pair l a h.2
    refine ⟨List.pairwise_cons.2 ⟨h2, h1⟩, fun x hx => ?_⟩
    rcases List.mem_cons.1 hx with rfl | hx
    · exact h.1
    · have := h2 x hx; omega
theorem goodL_of (l : List Int) {n : Nat} (hn : n ≤ 100) : GoodL (good l n) := by
  refine ⟨(rises_pair _ _ (good_rises l n)).1, fun x hx => ?_, ?_⟩
  · have := good_le l n x hx; omega
  · rw [good_len]; omega
def okS (tl : List (List Int)) (x : Int) (n : Nat) : Bool := (List.range n).all fun k => (tl.getD k []).contains (x + 1 + k)
theorem okS_zero (tl : List (List Int)) (x : Int) : okS tl x 0 = true := rfl
theorem okS_succ (tl : List (List Int)) (x : Int) (n : Nat) : okS tl x (n + 1) = (okS tl x n && (tl.getD n []).contains (x + 1 + n)) := by simp [okS, List.range_succ]
def cntS (tl : List (List Int)) (l : List Int) (n : Nat) : Nat := ((l.take n).filter fun x => okS tl x tl.length).length
def sideC : List (List Int) → Nat
  | [] => 0
  | l :: tl => cntS tl l l.length
theorem cntS_succ {tl : List (List Int)} {l : List Int} {n : Nat} {x : Int} (h : l[n]? = some x) : cntS tl l (n + 1) = cntS tl l n + if okS tl x tl.length then 1 else 0 := by
  obtain ⟨h1, h2⟩ := List.getElem?_eq_some_iff.1 h
  unfold cntS
  rw [List.take_succ_eq_append_getElem h1, h2, List.filter_append, List.length_append]
  congr 1
  by_cases hx : okS tl x tl.length = true
  · rw [if_pos hx]; simp [List.filter, hx]
  · rw [if_neg hx]; simp [List.filter, hx]
theorem cntS_le (tl : List (List Int)) (l : List Int) (n : Nat) : cntS tl l n ≤ n := by
  unfold cntS
  refine Nat.le_trans (List.length_filter_le _ _) ?_
  rw [List.length_take]; omega
theorem shr1 (n : Nat) : ((n : Int)).fdiv (2 ^ min (Int.toNat 1) IntKind.u64.bits) = ((n / 2 : Nat) : Int) := by
  change Int.fdiv (n : Int) 2 = _
  rw [Int.fdiv_eq_ediv_of_nonneg _ (by decide)]; omega
theorem pair_lt {l : List Int} (h : l.Pairwise (· < ·)) {i j : Nat} {x y : Int} (hx : l[i]? = some x) (hy : l[j]? = some y) (hij : i < j) : x < y := by
  obtain ⟨h1, h2⟩ := List.getElem?_eq_some_iff.1 hx
  obtain ⟨h3, h4⟩ := List.getElem?_eq_some_iff.1 hy
  rw [← h2, ← h4]
  exact (List.pairwise_iff_getElem.1 h) i j h1 h3 hij
theorem bs_mem {l : List Int} (h : l.Pairwise (· < ·)) {x : Int} {i : Nat} (h1 : ∀ t y, t < i → l[t]? = some y → y < x) (h2 : ∀ t y, i ≤ t → l[t]? = some y → x ≤ y) : l.contains x = decide (l[i]? = some x) := by
  rw [Bool.eq_iff_iff, List.contains_iff_mem, decide_eq_true_iff]
  constructor
  · intro hm
    obtain ⟨t, ht⟩ := List.mem_iff_getElem?.1 hm
    rcases Nat.lt_trichotomy t i with h3 | h3 | h3
    · have := h1 t x h3 ht; omega
    · rw [← h3]; exact ht
    · have hl := (List.getElem?_eq_some_iff.1 ht).1
      obtain ⟨y, hy⟩ : ∃ y, l[i]? = some y := ⟨_, List.getElem?_eq_getElem (by omega)⟩
      have := pair_lt h hy ht h3
      have := h2 i y (Nat.le_refl _) hy; omega
  · exact fun hm => List.mem_of_getElem? hm
theorem fo_val {M : PSet} {w : World} {d s : Int} {v : Value} (h : RT.fo.V M w (d, s) v) : v = .agg #[.int .i64 d, .int .i64 s] := by
  obtain ⟨vs, ⟨va, vb, rfl, ⟨rfl, hd⟩, ⟨rfl, hb⟩⟩, rfl⟩ := h
  rfl
section
variable {P : Program} {r : Option Nat} {n : Nat} {L : Sl} {ds : List Deferred} {w : World} {K : Kt} {ops : Array Oper} {rest : List Oper} {d : Nat} {x y : Operand} {ty : TypeId} {pos : String} {af : Array Edge}
/-- structs held to each other -/
theorem Rg.aggeq {t t' : TypeId} {a b : Value} {c : Bool} (hg : ∀ w, (eqGuard .eql t x y a b).run P w = .ok () w) (he : ∀ w, (binOp .eql t a b).run P w = .ok (.bool c) w) (hx : ev L x = some a) (hy : ev L y = some b) (hd : Nat.blt d n = true)
    (k : Rg P r n ops rest ((d, .bool c) :: L) ds w K) :
    Rg P r n ops ({ dst := some d, op := .binOp .eql t x y t', type := ty, pos, after := af, guard := none } :: rest) L ds w K :=
  .op (fun _ h => by cases h) rfl rfl hd _ w (fun ρ h => by
    simp only [execOp]; rw [h x _ hx, h y _ hy]
    rw [Sem.run_bind, Sem.run_bind, hg]
    simp [he]) k
end
end Go.K

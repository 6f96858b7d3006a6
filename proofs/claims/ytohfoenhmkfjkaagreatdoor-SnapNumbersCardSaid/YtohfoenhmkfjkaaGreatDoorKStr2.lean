/- Structs of two numbers, held to each other; documents in plain Lean. No program is named here. -/
import Derived.Test.YtohfoenhmkfjkaaGreatDoorKBits
import Derived.Test.YtohfoenhmkfjkaaGreatDoorKMatch
import Derived.Laws.StructEq
namespace Go.K
set_option linter.unusedVariables false
set_option linter.unusedSimpArgs false
section
variable {P : Program} {r : Option Nat} {n : Nat} {L : Sl} {ds : List Deferred} {w : World} {K : Kt} {ops : Array Oper} {rest : List Oper} {d : Nat} {x y : Operand} {ty : TypeId} {pos : String} {af : Array Edge}
theorem run_part_int {t : TypeId} {k : IntKind} (ht : P.underlying t = some (.int k)) {cs : Array Value} {off : Nat} {v : Value} (hv : cs[off]? = some v) : (part t cs off).run P w = .ok v w := by
  have hagg : (isAgg t).run P w = .ok false w := by
    unfold isAgg
    rw [Sem.run_bind, run_underlying ht w]; simp
  unfold part
  rw [Sem.run_bind, hagg]
  simp [hv]
theorem run_equal_two {t : TypeId} {f g : Field} (ht : P.underlying t = some (.struct #[f, g])) (hp : P.stoodInHeld t = false) (hf : P.underlying f.type = some (.int .i64)) (hg : P.underlying g.type = some (.int .i64)) (hn : f.name ≠ "_") (hn' : g.name ≠ "_") (ho : f.offset = 0) (ho' : g.offset = 1) (a b c e : Int) :
    (Op.equal t (.agg #[.int .i64 a, .int .i64 b]) (.agg #[.int .i64 c, .int .i64 e])).run P w = .ok (decide ((a, b) = (c, e))) w := by
  have hfo : P.fieldsOf t = #[f, g] := by simp [Program.fieldsOf, ht]
  have hs := run_equalIn_struct (P := P) w 9999 t #[.int .i64 a, .int .i64 b] #[.int .i64 c, .int .i64 e] (by rw [hfo]; exact ht) hp
  have hi : ∀ (k : Nat) (t' : TypeId), P.underlying t' = some (.int .i64) → ∀ p q : Int, (Op.equalIn (k + 1) t' (.int .i64 p) (.int .i64 q)).run P w = .ok (p == q) w := fun k t' h p q => by simp [Op.equalIn, run_underlying h]
  change (Op.equalIn (9999 + 1) t _ _).run P w = _
  rw [hs, hfo]
  simp only [Op.eqFields, hn, hn', ho, ho', ne_eq, not_false_eq_true, if_true, Sem.run_bind]
  rw [run_part_int hf (v := .int .i64 a) rfl]
  simp only [Result.andThen_ok]
  rw [run_part_int hf (v := .int .i64 c) rfl]
  simp only [Result.andThen_ok]
  rw [hi 9998 _ hf]
  simp only [Result.andThen_ok]
  by_cases h1 : a = c
  · subst h1
    simp only [beq_self_eq_true, Bool.not_true, Bool.false_eq_true, if_false, Sem.run_bind]
    rw [run_part_int hg (v := .int .i64 b) rfl]
    simp only [Result.andThen_ok]
    rw [run_part_int hg (v := .int .i64 e) rfl]
    simp only [Result.andThen_ok]
    rw [hi 9998 _ hg]
    simp only [Result.andThen_ok]
    by_cases h2 : b = e
    · subst h2; simp
    · simp [h2]
  · simp [h1]
theorem Rg.twone {t t' : TypeId} {f g : Field} {a b c e : Int} (ht : P.underlying t = some (.struct #[f, g])) (hp : P.stoodInHeld t = false) (hq : P.eqGuardType P.depth t = false) (hf : P.underlying f.type = some (.int .i64)) (hg : P.underlying g.type = some (.int .i64)) (hn : f.name ≠ "_") (hn' : g.name ≠ "_") (ho : f.offset = 0) (ho' : g.offset = 1)
    (hx : ev L x = some (.agg #[.int .i64 a, .int .i64 b])) (hy : ev L y = some (.agg #[.int .i64 c, .int .i64 e])) (hd : Nat.blt d n = true)
    (k : Rg P r n ops rest ((d, .bool (decide (¬ ((a, b) = (c, e))))) :: L) ds w K) :
    Rg P r n ops ({ dst := some d, op := .binOp .neq t x y t', type := ty, pos, after := af, guard := none } :: rest) L ds w K :=
  .op (fun _ h => by cases h) rfl rfl hd _ w (fun ρ h => by
    have he := run_equal_two (P := P) (w := w) ht hp hf hg hn hn' ho ho' a b c e
    simp only [execOp]; rw [h x _ hx, h y _ hy]
    rw [Sem.run_bind, Sem.run_bind, run_eqGuard_agg (P := P) w .neq t x y _ _ hq]
    simp [binOp, he]) k
end
def hasF (l : List Fo) (d : Int) : Bool := l.any fun p => decide (p.1 = d)
theorem hasF_iff {l : List Fo} {d : Int} : hasF l d = true ↔ ∃ (t : Nat) (p : Fo), l[t]? = some p ∧ p.1 = d := by
  unfold hasF
  rw [List.any_eq_true]
  constructor
  · rintro ⟨p, hp, h⟩
    obtain ⟨t, ht⟩ := List.mem_iff_getElem?.1 hp
    exact ⟨t, p, ht, of_decide_eq_true h⟩
  · rintro ⟨t, p, ht, h⟩
    exact ⟨p, List.mem_of_getElem? ht, decide_eq_true h⟩
theorem hasF_take {l : List Fo} {k : Nat} {p : Fo} (h : l[k]? = some p) (d : Int) : hasF (l.take (k + 1)) d = (hasF (l.take k) d || decide (p.1 = d)) := by
  obtain ⟨h1, h2⟩ := List.getElem?_eq_some_iff.1 h
  unfold hasF
  rw [List.take_succ_eq_append_getElem h1, h2, List.any_append]; simp
/-- all documents below p but those of a list, at most n -/
def outN (a : List Fo) (p : Nat) : List Fo := ((List.range p).filter fun (d : Nat) => !hasF a (d : Int)).map fun (d : Nat) => ((d : Int), 0)
theorem outN_succ (a : List Fo) (p : Nat) : outN a (p + 1) = outN a p ++ if hasF a (p : Int) then [] else [((p : Int), 0)] := by
  unfold outN
  rw [List.range_succ, List.filter_append, List.map_append]
  congr 1
  cases h : hasF a (p : Int) <;> simp [List.filter, h]
theorem outN_skip {a : List Fo} {p : Nat} : ∀ (j : Nat), p ≤ j → (∀ t, p ≤ t → t < j → hasF a (t : Int) = true) → outN a j = outN a p
  | j, h1, h2 => by
    rcases Nat.lt_or_ge p j with h | h
    · obtain ⟨c, rfl⟩ : ∃ c, j = c + 1 := ⟨j - 1, by omega⟩
      rw [outN_succ, h2 c (by omega) (by omega), if_pos rfl, List.append_nil]
      exact outN_skip c (by omega) (fun t h3 h4 => h2 t h3 (by omega))
    · rw [show j = p from by omega]
theorem outN_len (a : List Fo) (p : Nat) : (outN a p).length ≤ p := by
  unfold outN
  rw [List.length_map]
  exact Nat.le_trans (List.length_filter_le _ _) (by rw [List.length_range]; exact Nat.le_refl _)
end Go.K

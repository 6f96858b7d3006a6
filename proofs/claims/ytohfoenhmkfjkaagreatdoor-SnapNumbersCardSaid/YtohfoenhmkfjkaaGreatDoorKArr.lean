/- Arrays of two numbers: made, held to each other, their elements' addresses; copy and clear of own rows of numbers. No program is named here. -/
import Derived.Test.YtohfoenhmkfjkaaGreatDoorKIface
import Derived.Test.YtohfoenhmkfjkaaGreatDoorKStr2
import Derived.ChangeKeysEq
namespace Go.K
set_option linter.unusedVariables false
set_option linter.unusedSimpArgs false
section
variable {P : Program} {r : Option Nat} {n : Nat} {L : Sl} {ds : List Deferred} {w : World} {K : Kt} {ops : Array Oper} {rest : List Oper} {d : Nat} {ty : TypeId} {pos : String} {af : Array Edge} {x y i : Operand}
theorem run_equal_arr {t e : TypeId} {inf : TypeInfo} (ht : P.underlying t = some (.array 2 e)) (he : P.underlying e = some (.int .i64)) (hi : P.info? e = some inf) (hc : P.cellsOf e = 1) (a b c f : Int) :
    (Op.equal t (.agg #[.int .i64 a, .int .i64 b]) (.agg #[.int .i64 c, .int .i64 f])).run P w = .ok (decide ((a, b) = (c, f))) w := by
  have hI : ∀ (k : Nat) (p q : Int), (Op.equalIn (k + 1) e (.int .i64 p) (.int .i64 q)).run P w = .ok (p == q) w := fun k p q => by simp [Op.equalIn, run_underlying he]
  change (Op.equalIn (9999 + 1) t _ _).run P w = _
  rw [run_equalIn_array w 9999 _ _ ht hi, hc, show List.range 2 = [0, 1] from rfl]
  simp only [Op.eqItems, Sem.run_bind]
  rw [run_part_int he (v := .int .i64 a) rfl]
  simp only [Result.andThen_ok]
  rw [run_part_int he (v := .int .i64 c) rfl]
  simp only [Result.andThen_ok]
  rw [hI 9998]
  simp only [Result.andThen_ok]
  by_cases h1 : a = c
  · subst h1
    simp only [beq_self_eq_true, Bool.not_true, Bool.false_eq_true, if_false, Sem.run_bind]
    rw [run_part_int he (v := .int .i64 b) rfl]
    simp only [Result.andThen_ok]
    rw [run_part_int he (v := .int .i64 f) rfl]
    simp only [Result.andThen_ok]
    rw [hI 9998]
    simp only [Result.andThen_ok]
    by_cases h2 : b = f
    · subst h2; simp
    · simp [h2]
  · simp [h1]
theorem Rg.arrne {t t' e : TypeId} {inf : TypeInfo} {a b c f : Int} (ht : P.underlying t = some (.array 2 e)) (he : P.underlying e = some (.int .i64)) (hi : P.info? e = some inf) (hc : P.cellsOf e = 1) (hq : P.eqGuardType P.depth t = false)
    (hx : ev L x = some (.agg #[.int .i64 a, .int .i64 b])) (hy : ev L y = some (.agg #[.int .i64 c, .int .i64 f])) (hd : Nat.blt d n = true)
    (k : Rg P r n ops rest ((d, .bool (decide (¬ ((a, b) = (c, f))))) :: L) ds w K) :
    Rg P r n ops ({ dst := some d, op := .binOp .neq t x y t', type := ty, pos, after := af, guard := none } :: rest) L ds w K :=
  .op (fun _ h => by cases h) rfl rfl hd _ w (fun ρ h => by
    have he := run_equal_arr (P := P) (w := w) ht he hi hc a b c f
    simp only [execOp]; rw [h x _ hx, h y _ hy]
    rw [Sem.run_bind, Sem.run_bind, run_eqGuard_agg (P := P) w .neq t x y _ _ hq]
    simp [binOp, he]) k
theorem Rg.arreq {t t' e : TypeId} {inf : TypeInfo} {a b c f : Int} (ht : P.underlying t = some (.array 2 e)) (he : P.underlying e = some (.int .i64)) (hi : P.info? e = some inf) (hc : P.cellsOf e = 1) (hq : P.eqGuardType P.depth t = false)
    (hx : ev L x = some (.agg #[.int .i64 a, .int .i64 b])) (hy : ev L y = some (.agg #[.int .i64 c, .int .i64 f])) (hd : Nat.blt d n = true)
    (k : Rg P r n ops rest ((d, .bool (decide ((a, b) = (c, f)))) :: L) ds w K) :
    Rg P r n ops ({ dst := some d, op := .binOp .eql t x y t', type := ty, pos, after := af, guard := none } :: rest) L ds w K :=
  .op (fun _ h => by cases h) rfl rfl hd _ w (fun ρ h => by
    have he := run_equal_arr (P := P) (w := w) ht he hi hc a b c f
    simp only [execOp]; rw [h x _ hx, h y _ hy]
    rw [Sem.run_bind, Sem.run_bind, run_eqGuard_agg (P := P) w .eql t x y _ _ hq]
    simp [binOp, he]) k
theorem Rg.arreqT {t t' e : TypeId} {zv : Value} {size bytes : Nat} {a b c f : Int} (ht : P.underlying t = some (.array 2 e)) (he : P.underlying e = some (.int .i64)) (hi : TI P e zv size bytes) (hc : P.cellsOf e = 1) (hq : P.eqGuardType P.depth t = false)
    (hx : ev L x = some (.agg #[.int .i64 a, .int .i64 b])) (hy : ev L y = some (.agg #[.int .i64 c, .int .i64 f])) (hd : Nat.blt d n = true)
    (k : Rg P r n ops rest ((d, .bool (decide ((a, b) = (c, f)))) :: L) ds w K) :
    Rg P r n ops ({ dst := some d, op := .binOp .eql t x y t', type := ty, pos, after := af, guard := none } :: rest) L ds w K := by
  obtain ⟨inf, h1, _⟩ := hi.get
  exact .arreq ht he h1 hc hq hx hy hd k
theorem Rg.arrneT {t t' e : TypeId} {zv : Value} {size bytes : Nat} {a b c f : Int} (ht : P.underlying t = some (.array 2 e)) (he : P.underlying e = some (.int .i64)) (hi : TI P e zv size bytes) (hc : P.cellsOf e = 1) (hq : P.eqGuardType P.depth t = false)
    (hx : ev L x = some (.agg #[.int .i64 a, .int .i64 b])) (hy : ev L y = some (.agg #[.int .i64 c, .int .i64 f])) (hd : Nat.blt d n = true)
    (k : Rg P r n ops rest ((d, .bool (decide (¬ ((a, b) = (c, f))))) :: L) ds w K) :
    Rg P r n ops ({ dst := some d, op := .binOp .neq t x y t', type := ty, pos, after := af, guard := none } :: rest) L ds w K := by
  obtain ⟨inf, h1, _⟩ := hi.get
  exact .arrne ht he h1 hc hq hx hy hd k
theorem Rg.arr2 {t e : TypeId} {zv : Value} {bytes : Nat} {a b : Int} (ht : P.underlying t = some (.array 2 e)) (hi : TI P t (.agg #[.int .i64 0, .int .i64 0]) 2 16) (he : TI P e zv 1 bytes) (hx : ev L x = some (.int .i64 a)) (hy : ev L y = some (.int .i64 b)) (hd : Nat.blt d n = true)
    (k : Rg P r n ops rest ((d, .agg #[.int .i64 a, .int .i64 b]) :: L) ds w K) :
    Rg P r n ops ({ dst := some d, op := .build t #[(0, x), (1, y)], type := ty, pos, after := af, guard := none } :: rest) L ds w K := by
  obtain ⟨inf, h1, h2, h3, h4⟩ := hi.get
  refine .op (fun _ h => by cases h) rfl rfl hd _ w (fun ρ h => ?_) k
  simp only [execOp, List.map_toArray, List.map_cons, List.map_nil, h x _ hx, h y _ hy]
  simp [Instr.build, zeroValue, typeInfo, h1, h2, run_underlying ht, he.sizeOf, Instr.fill, Value.cells]
theorem Rg.idxpr {t e : TypeId} {zv p : Value} {bytes : Nat} {κ : IntKind} {j : Int} {M M1 : PSet} {w1 : World} {q : Int × Int} (ht : P.underlying t = some (.array 2 e)) (hi : TI P e zv 1 bytes) (hx : ev L x = some p) (hix : ev L i = some (.int κ j)) (hd : Nat.blt d n = true) (hj : j = 0 ∨ j = 1) (hp : PtrTo RT.fo M1 w1 p q) (hle : Le M1 w1 M w)
    (k : ∀ u, PtrTo (RT.int .i64) M w u (if j = 0 then q.1 else q.2) → Rg P r n ops rest ((d, u) :: L) ds w K) :
    Rg P r n ops ({ dst := some d, op := .indexAddr t x i, type := ty, pos, after := af, guard := none } :: rest) L ds w K := by
  obtain ⟨b, o, vs, rfl, hm, hR, hr⟩ := hp.le (by decide) hle
  have h01 : 0 ≤ j ∧ j < ((2 : Nat) : Int) := by omega
  refine .op (fun _ h => by cases h) rfl rfl hd (.pointer (some ⟨b, o + j.toNat, none⟩)) w (fun ρ h => ?_) (k _ ?_)
  · simp only [execOp, h x _ hx, h i _ hix]
    simp only [Instr.indexAt, asIntOf, Instr.sureAddr, Sem.run_bind, Sem.run_pure, Result.andThen_ok, run_underlying ht, h01, and_self, if_true, hi.sizeOf, Nat.mul_one, Addr.add_mid]
  · rcases hj with rfl | rfl
    · have := PtrTo.part (Part.fst (RT.int .i64) (RT.int .i64)) hm hR hr
      simpa using this
    · have := PtrTo.part (Part.snd (RT.int .i64) (RT.int .i64)) hm hR hr
      exact this
/-! ### copy, clear -/
theorem AllR.ints {M : PSet} {κ : IntKind} : ∀ {xs : List Int} {C : List Value}, AllR (RT.int κ) M w xs C → C = xs.map (Value.int κ)
  | [], _, h => by cases h; rfl
  | x :: xs, _, ⟨us, rest, h1, h2, h3⟩ => by
    subst h1
    rw [h2.1, AllR.ints h3]; rfl
theorem AllR.of_ints {M : PSet} {κ : IntKind} : ∀ {xs : List Int}, (∀ x ∈ xs, κ.min ≤ x ∧ x ≤ κ.max) → AllR (RT.int κ) M w xs (xs.map (Value.int κ))
  | [], _ => rfl
  | x :: xs, h => ⟨[.int κ x], _, rfl, ⟨rfl, h x (List.mem_cons_self ..)⟩, AllR.of_ints fun y hy => h y (List.mem_cons_of_mem _ hy)⟩
theorem AllR.rng {M : PSet} {κ : IntKind} : ∀ {xs : List Int} {C : List Value}, AllR (RT.int κ) M w xs C → ∀ x ∈ xs, κ.min ≤ x ∧ x ≤ κ.max
  | [], _, _, x, hx => by cases hx
  | y :: xs, _, ⟨us, rest, h1, h2, h3⟩, x, hx => by
    rcases List.mem_cons.1 hx with rfl | hx
    · exact h2.2
    · exact AllR.rng h3 x hx
/-- numbers are written over a part of an own row -/
theorem Own.over {e : TypeId} {M : PSet} {base g len cap o : Nat} {κ : IntKind} {xs ys : List Int} (h : Own (RT.int κ) e M w base (.slice (some ⟨g, 0, none⟩) len cap) xs) (ho : o + ys.length ≤ xs.length) (hy : ∀ y ∈ ys, κ.min ≤ y ∧ y ≤ κ.max) :
    Own (RT.int κ) e M (w.setCells g o (ys.map (Value.int κ))) base (.slice (some ⟨g, 0, none⟩) len cap) (xs.take o ++ ys ++ xs.drop (o + ys.length)) ∧ Step M w M (w.setCells g o (ys.map (Value.int κ))) (fun k => k = g) ∧ (∀ j, j < ys.length → (w.cell? ⟨g, o + j, none⟩).isSome = true) ∧ (∀ j, j < ys.length → w.frozen? ⟨g, o + j, none⟩ = false) := by
  obtain ⟨⟨C, hr, ha⟩, hm⟩ := h
  have hmg := hm g rfl
  rcases hr.2 with ⟨h1, _⟩ | ⟨g', cap', cur, h1, h2, h3, h4, h5, h6, h7⟩
  · cases h1
  · simp only [Value.slice.injEq, Option.some.injEq, Addr.mk.injEq] at h1
    obtain ⟨⟨rfl, _⟩, rfl, rfl⟩ := h1
    have e1 : (RT.int κ).n = 1 := rfl
    rw [e1, Nat.mul_one] at h6 h7
    have hCx := ha.ints
    have hrg := ha.rng
    obtain ⟨cs', c1, c2, c3, c4⟩ := setCells_go (ys.map (Value.int κ)) w g o cur e (0, 0) h3
    have hs := c4 M hmg
    have hlen : (xs.take o ++ ys ++ xs.drop (o + ys.length)).length = xs.length := by rw [List.length_append, List.length_append, List.length_take, List.length_drop]; omega
    refine ⟨⟨⟨(xs.take o ++ ys ++ xs.drop (o + ys.length)).map (Value.int κ), ⟨by rw [List.length_map, e1, Nat.mul_one], .inr ⟨g, cap, cs', by rw [hlen], h2, c1, by rw [hlen]; exact h4, h5, by rw [c2, e1, Nat.mul_one]; exact h6, ?_⟩⟩, AllR.of_ints fun z hz => ?_⟩, fun b hb => hm b hb⟩, hs, fun j hj => ?_, fun j hj => by simp [World.frozen?, h3]⟩
    · rw [e1, Nat.mul_one, hlen]
      refine List.ext_getElem? fun t => ?_
      rw [List.getElem?_take]
      have hseg := seg_get (l := xs.map (Value.int κ)) (vs := ys.map (Value.int κ)) (o := o) (by rw [List.length_map, List.length_map]; exact ho) t
      rw [List.length_map, ← List.map_take, ← List.map_drop, ← List.map_append, ← List.map_append] at hseg
      rw [hseg]
      have hct : ∀ t, t < xs.length → (xs.map (Value.int κ))[t]? = cur[t]? := fun t ht => by rw [← hCx, ← h7, List.getElem?_take, if_pos ht]; simp
      split
      · rename_i ht
        have e0 : cs'.toList[t]? = cs'[t]? := by simp
        rw [e0, c3 t, List.length_map]
        by_cases h8 : o ≤ t ∧ t < o + ys.length
        · rw [if_pos ⟨h8.1, h8.2, by omega⟩, if_pos h8]
        · rw [if_neg (fun h => h8 ⟨h.1, h.2.1⟩), if_neg h8, hct t ht]
      · rename_i ht
        rw [if_neg (by omega), List.getElem?_eq_none (by rw [List.length_map]; omega)]
    · rcases List.mem_append.1 hz with hz | hz
      · rcases List.mem_append.1 hz with hz | hz
        · exact hrg z (List.mem_of_mem_take hz)
        · exact hy z hz
      · exact hrg z (List.mem_of_mem_drop hz)
    · rw [cell_at h3 (v := cur[o + j]'(by omega)) (by simp)]; rfl
/-- what an own row holds, cell by cell -/
theorem Own.cell {e : TypeId} {M : PSet} {base g len cap j : Nat} {κ : IntKind} {xs : List Int} {a : Int} (h : Own (RT.int κ) e M w base (.slice (some ⟨g, 0, none⟩) len cap) xs) (hx : xs[j]? = some a) : w.cell? ⟨g, j, none⟩ = some (.int κ a) := by
  obtain ⟨b, o, vs, h1, h2, h3, h4⟩ := h.ptr hx
  simp only [Value.pointer.injEq, Option.some.injEq, Addr.mk.injEq] at h1
  obtain ⟨rfl, rfl, _⟩ := h1
  have := h4 0 (.int κ a) (by rw [h3.1]; rfl)
  simpa [RT.int] using this
/-- a copy onto an own row, of numbers that are known -/
theorem Rg.copyi {tt st e : TypeId} {zv : Value} {bytes : Nat} {M : PSet} {base g len cap o dl dc sl sc : Nat} {κ : IntKind} {xs ys : List Int} {sa : Addr} (ht : P.underlying tt = some (.slice e)) (hi : TI P e zv 1 bytes) (hd : Nat.blt d n = true)
    (hx : ev L x = some (.slice (some ⟨g, o, none⟩) dl dc)) (hy : ev L y = some (.slice (some sa) sl sc)) (h : Own (RT.int κ) e M w base (.slice (some ⟨g, 0, none⟩) len cap) xs) (hn : ys.length = min sl dl) (ho : o + ys.length ≤ xs.length)
    (hsrc : ∀ j a, ys[j]? = some a → w.cell? (sa.add j) = some (.int κ a)) (hrg : ∀ a ∈ ys, κ.min ≤ a ∧ a ≤ κ.max)
    (k : ∀ w', Own (RT.int κ) e M w' base (.slice (some ⟨g, 0, none⟩) len cap) (xs.take o ++ ys ++ xs.drop (o + ys.length)) → Step M w M w' (fun k => k = g) → Rg P r n ops rest ((d, .int .i64 (ys.length : Int)) :: L) ds w' K) :
    Rg P r n ops ({ dst := some d, op := .call { callee := .builtin .copy, args := #[x, y], argTypes := #[tt, st] }, type := ty, pos, after := af, guard := none } :: rest) L ds w K := by
  obtain ⟨h1, h2, h3, h4⟩ := h.over ho hrg
  obtain ⟨inf, i1, _, i2, _⟩ := hi.get
  have hrun := run_copy_cells (P := P) w tt st ty e g o dl dc sa sl sc (ys.map (Value.int κ)) ht (by simp [i1, i2]) (by rw [List.length_map]; exact hn)
    (fun j v hv => by
      rw [List.getElem?_map] at hv
      cases hj : ys[j]? with
      | none => rw [hj] at hv; cases hv
      | some a => rw [hj] at hv; cases hv; exact hsrc j a hj) (by rw [List.length_map]; exact h3) (by rw [List.length_map]; exact h4) (fun v hv => by obtain ⟨a, _, rfl⟩ := List.mem_map.1 hv; rfl)
  rw [List.length_map] at hrun
  refine .op (fun _ h => by cases h) rfl rfl hd _ _ (fun ρ hρ => ?_) (k _ h1 h2)
  simp only [execOp, resolve, List.map_toArray, List.map_cons, List.map_nil, hρ x _ hx, hρ y _ hy]
  simp [Go.invoke, builtin, hrun, goInt]
/-- a copy of nothing -/
theorem Rg.copy0 {tt st e : TypeId} {zv : Value} {bytes : Nat} {da sa : Option Addr} {dl dc sl sc : Nat} (ht : P.underlying tt = some (.slice e)) (hi : TI P e zv 1 bytes) (hd : Nat.blt d n = true)
    (hx : ev L x = some (.slice da dl dc)) (hy : ev L y = some (.slice sa sl sc)) (hn : min sl dl = 0) (k : Rg P r n ops rest ((d, .int .i64 0) :: L) ds w K) :
    Rg P r n ops ({ dst := some d, op := .call { callee := .builtin .copy, args := #[x, y], argTypes := #[tt, st] }, type := ty, pos, after := af, guard := none } :: rest) L ds w K := by
  obtain ⟨inf, i1, _, i2, _⟩ := hi.get
  have hrun := run_copy_none (P := P) w tt st ty e da sa dl dc sl sc ht (by simp [i1, i2]) hn
  refine .op (fun _ h => by cases h) rfl rfl hd _ _ (fun ρ hρ => ?_) k
  simp only [execOp, resolve, List.map_toArray, List.map_cons, List.map_nil, hρ x _ hx, hρ y _ hy]
  simp [Go.invoke, builtin, hrun, goInt]
/-- a part of an own row is cleared -/
theorem Rg.cleari {tt e : TypeId} {bytes : Nat} {M : PSet} {base g len cap o dl dc : Nat} {κ : IntKind} {xs : List Int} (ht : P.underlying tt = some (.slice e)) (hi : TI P e (.int κ 0) 1 bytes) (hx : ev L x = some (.slice (some ⟨g, o, none⟩) dl dc)) (h : Own (RT.int κ) e M w base (.slice (some ⟨g, 0, none⟩) len cap) xs) (hdl : 0 < dl) (ho : o + dl ≤ xs.length) (hz : κ.min ≤ 0 ∧ 0 ≤ κ.max)
    (k : ∀ w', Own (RT.int κ) e M w' base (.slice (some ⟨g, 0, none⟩) len cap) (xs.take o ++ List.replicate dl 0 ++ xs.drop (o + dl)) → Step M w M w' (fun k => k = g) → Rg P r n ops rest L ds w' K) :
    Rg P r n ops ({ dst := none, op := .call { callee := .builtin .clear, args := #[x], argTypes := #[tt] }, type := ty, pos, after := af, guard := none } :: rest) L ds w K := by
  obtain ⟨h1, h2, h3, h4⟩ := h.over (ys := List.replicate dl 0) (o := o) (by rw [List.length_replicate]; exact ho) (fun a ha => by rw [List.eq_of_mem_replicate ha]; exact hz)
  rw [List.length_replicate] at h1 h3 h4
  obtain ⟨inf, i1, i2, i3, _⟩ := hi.get
  have hrun := Go.Lib.run_clear_slice (P := P) w tt e ty (.int κ 0) ht (fun w => by simp [zeroValue, typeInfo, i1, i2]) rfl rfl g o dl dc hdl h3 h4
  rw [List.map_replicate] at h1 h2
  refine .opv (fun _ h => by cases h) rfl rfl (.tuple #[]) _ (fun ρ hρ => ?_) (k _ h1 h2)
  simp only [execOp, resolve, List.map_toArray, List.map_cons, List.map_nil, hρ x _ hx]
  simp [Go.invoke, builtin, hrun]
end
end Go.K

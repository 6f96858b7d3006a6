/- From a row's arguments to the values of the walks: what an argument of plain data reads as. No program is named here. -/
import Derived.Test.YtohfoenhmkfjkaaGreatDoorKHeap
import Derived.WalkKit
import Derived.ProofKit
import Derived.OpenShut
import Derived.ShutString
import Derived.ChangeOld
import Derived.Below
import Derived.SizedLaws
namespace Go.K
set_option linter.unusedVariables false
set_option linter.unusedSimpArgs false
open Go.ChangeShapes Go.WideShapes Go.ChangeAt Go.RowKit

/-- what is read at type t is, in cells, a value of A -/
def Opens {α : Type} (P : Program) (t : TypeId) (A : RT α) : Prop :=
  ∀ {H : Type} {enc : TypeId × Value → H} {w : World} {base fuel : Nat} {spare : Nat → Bool} {cs : List Value} {d : DataW H} {ps : List MemPlace},
    DataW.trod enc P w base spare true fuel t cs = some (d, ps) → (∀ n ∈ DataW.weights P t d, n ≤ reachBytes) → ∃ x, A.R none' w x cs

theorem Opens.int {P : Program} {t : TypeId} {k : IntKind} (ht : P.underlying t = some (.int k)) : Opens P t (RT.int k) := by
  intro H enc w base fuel spare cs d ps h hw
  cases fuel with
  | zero => simp [DataW.trod] at h
  | succ n =>
    unfold DataW.trod at h
    rw [ht] at h
    split at h <;> simp_all
    obtain ⟨⟨h1, h2⟩, _⟩ := h
    simp only [Lit.wf, Bool.and_eq_true, decide_eq_true_eq] at h2
    exact ⟨_, rfl, h2.1, h2.2⟩
theorem Opens.u8 {P : Program} {t : TypeId} (ht : P.underlying t = some (.int .u8)) : Opens P t RT.u8 := by
  intro H enc w base fuel spare cs d ps h hw
  obtain ⟨x, h1, h2, h3⟩ := Opens.int ht h hw
  have h4 : x ≤ 255 := h3
  have h5 : 0 ≤ x := h2
  refine ⟨UInt8.ofNat x.toNat, ?_⟩
  show cs = [.int .u8 (UInt8.ofNat x.toNat).toNat]
  rw [h1, UInt8.toNat_ofNat', Nat.mod_eq_of_lt (by omega), Int.toNat_of_nonneg h5]
theorem Opens.bool {P : Program} {t : TypeId} (ht : P.underlying t = some .bool) : Opens P t RT.bool := by
  intro H enc w base fuel spare cs d ps h hw
  cases fuel with
  | zero => simp [DataW.trod] at h
  | succ n =>
    unfold DataW.trod at h
    rw [ht] at h
    split at h <;> simp_all
    have key : ∀ b : Bool, RT.bool.R none' w false [Value.bool b] ∨ RT.bool.R none' w true [Value.bool b] := fun b => by cases b <;> first | exact .inl rfl | exact .inr rfl
    exact key _
theorem Opens.str {P : Program} {t : TypeId} (ht : P.underlying t = some .string) : Opens P t RT.str := by
  intro H enc w base fuel spare cs d ps h hw
  cases fuel with
  | zero => simp [DataW.trod] at h
  | succ n =>
    unfold DataW.trod at h
    rw [ht] at h
    split at h <;> simp_all
    rename_i s
    obtain ⟨h1, h2, h3⟩ := h
    subst h2
    have := hw s.data.toList.length (by simp [DataW.weights])
    have hr : reachBytes ≤ 140737488355328 := by decide
    refine ⟨s.data.toList, ?_, Nat.le_trans this hr⟩
    simp
theorem add_mk (a : Addr) (i : Nat) (h : a.spot = none) : a.add i = ⟨a.block, a.off + i, none⟩ := by
  unfold Addr.add
  split
  · next h0 => subst h0; cases a; simp_all
  · rfl
theorem Opens.sl {P : Program} {t e : TypeId} {α : Type} {A : RT α} {hn : 0 < A.n} (ht : P.underlying t = some (.slice e)) {nb : Nat} (hc : P.cellsOf e = A.n) (hbn : P.bytesOf e = nb) (hnb : nb ≠ 0) (hA : Opens P e A) : Opens P t (A.sl hn) := by
  have hby : P.bytesOf e ≠ 0 := by rw [hbn]; exact hnb
  intro H enc w base fuel spare cs d ps h hw
  rcases DataW.trod_slice ht h with ⟨h1, h2⟩ | ⟨a, len, cap, elems, rest, n, _, rfl, hx, hb, hl, hm, hlen, hel, hsp, hns⟩
  · exact ⟨[], none, 0, by rw [h1]; rfl, Nat.le_refl _, Nat.zero_le _, .inl rfl⟩
  · injection hx with hd hps
    have hwt : DataW.weights P t d = (elems.length + rest.length) * P.bytesOf e :: (DataW.weightsAll P e (elems.map (·.1)) ++ DataW.weightsAll P e (rest.map (·.1))) := by
      rw [hd]; simp [DataW.weights, ht]
    have h1 : (elems.length + rest.length) * P.bytesOf e ≤ reachBytes := hw _ (by rw [hwt]; exact List.mem_cons_self ..)
    have h2 : elems.length ≤ 140737488355328 := by
      have hr : reachBytes ≤ 140737488355328 := by decide
      have := Nat.le_mul_of_pos_right (elems.length + rest.length) (Nat.pos_of_ne_zero hby)
      omega
    have hall : ∀ y ∈ elems, ∀ n ∈ DataW.weights P e y.1, n ≤ reachBytes := fun y hy n hn => by
      refine hw n ?_
      rw [hwt]
      refine List.mem_cons_of_mem _ (List.mem_append_left _ ?_)
      clear hwt hw h1 h2 hsp hns hel hlen hd h hps
      induction elems with
      | nil => cases hy
      | cons z zs ih =>
        simp only [List.map_cons, DataW.weightsAll, List.mem_append]
        rcases List.mem_cons.1 hy with rfl | hy
        · exact .inl hn
        · exact .inr (ih hy)
    have hex : ∀ i, i < len → ∃ x vs, A.R none' w x vs ∧ ∀ j : Nat, j < A.n → w.cell? (a.add (i * A.n + j)) = vs[j]? := fun i hi => by
      have h3 := hel i hi
      rw [List.getElem?_eq_getElem (by omega), Option.bind_eq_some_iff] at h3
      obtain ⟨vs, h4, h5⟩ := h3
      obtain ⟨x, h6⟩ := hA (d := elems[i].1) (ps := elems[i].2) h5 (hall _ (List.getElem_mem ..))
      obtain ⟨_, h7, h8⟩ := World.cells?_some h4
      rw [hc] at h8 h7
      refine ⟨x, vs, h6, fun j hj => ?_⟩
      rw [← h8 j hj]
      unfold Addr.add
      by_cases hj0 : j = 0
      · subst hj0; simp
      · by_cases hi0 : i * A.n = 0
        · simp [hi0, hj0]
        · rw [if_neg (by omega), if_neg hi0, if_neg hj0]; simp [Nat.add_assoc]
    rcases Nat.eq_zero_or_pos len with h0 | hpos
    · subst h0; exact ⟨[], some a, cap, rfl, Nat.zero_le _, Nat.zero_le _, .inl rfl⟩
    · obtain ⟨x0, v0, hx0, hc0⟩ := hex 0 hpos
      have hv0 : 0 < v0.length := by rw [A.len hx0]; exact hn
      have hs := hc0 0 hn
      rw [List.getElem?_eq_getElem hv0, Nat.zero_mul, Nat.zero_add] at hs
      have hspot : a.spot = none := by
        unfold Addr.add at hs
        rw [if_pos rfl] at hs
        unfold World.cell? at hs
        cases hh : a.spot with
        | none => rfl
        | some s => rw [hh] at hs; split at hs <;> simp_all
      let f : Nat → α := fun i => if h : i < len then (hex i h).choose else x0
      have hf : ∀ i, i < len → ∃ vs, A.R none' w (f i) vs ∧ ∀ j : Nat, j < A.n → w.cell? (a.add (i * A.n + j)) = vs[j]? := fun i hi => by
        have : f i = (hex i hi).choose := dif_pos hi
        rw [this]; exact (hex i hi).choose_spec
      refine ⟨(List.range len).map f, some a, cap, by simp, by simpa using hl, by simp; omega, .inr ⟨a.block, a.off, by cases a; simp_all, fun h => h.elim, fun i x hix => ?_⟩⟩
      have hi : i < len := by have := (List.getElem?_eq_some_iff.1 hix).1; simpa using this
      obtain ⟨vs, h3, h4⟩ := hf i hi
      have hxe : x = f i := by simp [hi] at hix; exact hix.symm
      subst hxe
      refine ⟨vs, h3, fun j v hj => ?_⟩
      have hjl : j < A.n := by rw [← A.len h3]; exact (List.getElem?_eq_some_iff.1 hj).1
      rw [← hj, ← h4 j hjl, add_mk _ _ hspot, Nat.add_assoc]

/-- a struct of two fields -/
theorem Opens.pair {P : Program} {t : TypeId} {fs : Array Field} {f0 f1 : Field} {α β : Type} {A : RT α} {B : RT β} (ht : P.underlying t = some (.struct fs)) (hf0 : fs[0]? = some f0) (hf1 : fs[1]? = some f1) (hfs : fs.size = 2) (h0 : f0.offset = 0) (h1 : f1.offset = A.n)
    (c0 : P.cellsOf f0.type = A.n) (c1 : P.cellsOf f1.type = B.n) (ct : P.cellsOf t = A.n + B.n) (hA : Opens P f0.type A) (hB : Opens P f1.type B) : Opens P t (A.pair B) := by
  intro H enc w base fuel spare cs d ps h hw
  obtain ⟨xs, n, _, hx, hl, hlen, hf⟩ := DataW.trod_struct ht h
  injection hx with hd hps
  have hxl : xs.length = 2 := by omega
  match xs, hxl with
  | [y0, y1], _ =>
    have g0 := hf 0 f0 hf0
    have g1 := hf 1 f1 hf1
    rw [h0, c0] at g0
    rw [h1, c1] at g1
    have hty : fs.toList.map (fun x => x.type) = [f0.type, f1.type] := by
      have hl2 : fs.toList.length = 2 := by simpa using hfs
      match hfl : fs.toList, hl2 with
      | [a, b], _ =>
        have e0 : fs.toList[0]? = some f0 := by simpa using hf0
        have e1 : fs.toList[1]? = some f1 := by simpa using hf1
        rw [hfl] at e0 e1
        simp at e0 e1
        simp [e0, e1]
    have hwt : DataW.weights P t d = DataW.weightsEach P [f0.type, f1.type] [y0.1, y1.1] := by
      rw [hd]; simp [DataW.weights, ht, hty]
    obtain ⟨x0, e0⟩ := hA (d := y0.1) (ps := y0.2) g0 (fun m hm => hw m (by rw [hwt]; exact DataW.weights_mem_each (j := 0) rfl rfl m hm))
    obtain ⟨x1, e1⟩ := hB (d := y1.1) (ps := y1.2) g1 (fun m hm => hw m (by rw [hwt]; exact DataW.weights_mem_each (j := 1) rfl rfl m hm))
    refine ⟨(x0, x1), _, _, ?_, e0, e1⟩
    rw [List.drop_zero, List.take_of_length_le (l := cs.drop A.n) (by rw [List.length_drop, hl, ct]; omega), List.take_append_drop]

/-- an argument of a row, read at type t, is a value of A -/
theorem Opens.arg {P : Program} {α : Type} {A : RT α} {t : TypeId} {H : Type} {enc : TypeId × Value → H} {w : World} {base : Nat} {spare : Nat → Bool} {v : Value} {d : DataW H} {ps : List MemPlace} (hA : Opens P t A)
    (h : DataW.Trod enc P w base spare true t v d ps) (hv : ∀ vs, vs.length = A.n → v.cells.toList = vs → (∀ u ∈ vs, u.oneCell' = true) → v = A.val vs) (hw : ∀ n ∈ DataW.weights P t d, n ≤ reachBytes) : ∃ x, A.V none' w x v := by
  obtain ⟨fuel, hf⟩ := h
  obtain ⟨x, hx⟩ := hA hf hw
  exact ⟨x, _, hx, hv _ (A.len hx) rfl (A.one hx)⟩
theorem val_one {v : Value} (h : v.oneCell' = true) : v.cells.toList = [v] := by cases v <;> simp_all [Value.cells, Value.oneCell']

theorem spec_row {P : Program} {f : FuncId} {args : Array Value} {w : World} (h : Spec P f args w (fun v' w' => v' = .bool true ∧ Step none' w none' w' none')) : Calls P f args w fun e w' => e = .returned (.bool true) ∧ Below w.heap.size w w' :=
  Calls.mono h fun _ _ ⟨_, he, hv, s⟩ => ⟨by rw [he, hv], s.below⟩
theorem wf_i64 {x : Int} (h : (Lit.int .i64 x).wf = true) : -9223372036854775808 ≤ x ∧ x ≤ 9223372036854775807 := by
  simp only [Lit.wf, Bool.and_eq_true, decide_eq_true_eq] at h
  exact h
end Go.K

/- Results that are read off a block. No program is named here. -/
import Derived.Test.YtohfoenhmkfjkaaGreatDoorKCur2
namespace Go.K
set_option linter.unusedVariables false
set_option linter.unusedSimpArgs false
section
variable {P : Program} {r : Option Nat} {n : Nat} {L : Sl} {ds : List Deferred} {w : World}
/-- one result, a struct that a block holds -/
theorem KretC1 {fn : Func} {Q : Value → World → Prop} {c t b : Nat} {vs : List Value} {fs : TypeDesc} {e : TypeId} {fr : Nat × Nat} {zv : Value} {size bytes : Nat} (hr : fn.results = #[.cell c t]) (hc : lk L c = some (.pointer (some ⟨b, 0, none⟩))) (hu : P.underlying t = some fs) (hf : fs.isRow = true) (hi : TI P t zv size bytes) (hl : vs.length = size)
    (hb : w.heap[b]? = some (.cells vs.toArray e fr)) (h : Q (.agg vs.toArray) w) : Kret P fn Q .ret L [] w :=
  ⟨rfl, fun a ha => ⟨_, by
    obtain ⟨i, hi1, _, hi2, _⟩ := hi.get
    have hrng : w.rangeAt b 0 vs := fun j v hj => cell_at hb (by simpa using hj)
    have := run_loadVar_mid (P := P) w b 0 t vs fs hrng hu hf (by simp [hi1, hi2, hl])
    simp [results, hr, ha _ _ hc, asAddr, this, Sem.run_bind], h⟩⟩
theorem run_loadVarFlat {P : Program} {w : World} {t : TypeId} {u : TypeDesc} (hu : P.underlying t = some u) (hf : flat u = true) {b o : Nat} {v : Value} (hc : w.cell? ⟨b, o, none⟩ = some v) :
    (loadVar t ⟨b, o, none⟩).run P w = .ok v w := by
  have hagg : (isAgg t).run P w = .ok false w := by
    unfold isAgg
    rw [Sem.run_bind, run_underlying hu w]
    cases u <;> simp_all [flat, Result.andThen]
  simp [loadVar, hagg, load, Sem.run, hc]
/-- one result, a plain value that a block holds -/
theorem KretF1 {fn : Func} {Q : Value → World → Prop} {c t b : Nat} {v : Value} {u : TypeDesc} {e : TypeId} {fr : Nat × Nat} (hr : fn.results = #[.cell c t]) (hc : lk L c = some (.pointer (some ⟨b, 0, none⟩))) (hu : P.underlying t = some u) (hf : flat u = true)
    (hb : w.heap[b]? = some (.cells #[v] e fr)) (h : Q v w) : Kret P fn Q .ret L [] w :=
  ⟨rfl, fun a ha => ⟨_, by
    have := run_loadVarFlat (P := P) hu hf (cell_at (o := 0) (v := v) hb rfl)
    simp [results, hr, ha _ _ hc, asAddr, this, Sem.run_bind], h⟩⟩
end
/-- the document's cursor stands where ours does -/
theorem play_adv {l : List Po} (hm : mayPo (-1) l = true) {i j doc : Int} (hi : -1 ≤ i) (hij : i ≤ j) (hj : j ≤ l.length) (hlt : ∀ t : Int, i ≤ t → t < j → docAt l t < doc) (hend : ¬ (docAt l j < doc ∧ j < l.length)) : j = advI l i doc := by
  unfold advI
  split
  · rename_i h
    by_cases hij2 : i = j
    · exact hij2.symm
    · have := hlt i (Int.le_refl _) (by omega); omega
  · rename_i h
    have hj0 : 0 ≤ j := by
      rcases docAt_cases l j with ⟨h0, h1, _⟩ | ⟨j2, d, ps, hj2, hx, h1, _⟩ | ⟨h0, h1, _⟩
      · have : i = j := by omega
        rw [this] at h; omega
      · omega
      · omega
    obtain ⟨k, rfl⟩ : ∃ k : Nat, j = k := ⟨j.toNat, by omega⟩
    rw [idx_eq (i := k) (fun t ht p hp => ?_) (fun p hp => ?_) (by omega)]
    · have hdt := docAt_get (d := p.1) (ps := p.2) hp
      by_cases hti : i ≤ t
      · have := hlt t hti (by omega); omega
      · rcases docAt_cases l i with ⟨h0, h1, _⟩ | ⟨j2, d, ps, hj2, hx, h1, _⟩ | ⟨h0, h1, _⟩
        · omega
        · have := docs_lt hm hp hx (by omega); simp only at this; omega
        · have := doc_rng hm (d := p.1) (ps := p.2) hp; omega
    · have hdt := docAt_get (d := p.1) (ps := p.2) hp
      have := (List.getElem?_eq_some_iff.1 hp).1
      omega
end Go.K

/- Functions held to nil; results of a function that holds a range over a function. No program is named here. -/
import Derived.Test.YtohfoenhmkfjkaaGreatDoorKCell2
namespace Go.K
set_option linter.unusedVariables false
set_option linter.unusedSimpArgs false
section
variable {P : Program} {r : Option Nat} {n : Nat} {L : Sl} {ds : List Deferred} {w : World} {K : Kt} {ops : Array Oper} {rest : List Oper} {d : Nat} {x y : Operand} {ty : TypeId} {pos : String} {af : Array Edge}
theorem Rg.funceqnil {t t' : TypeId} {f : Fn} {a b : Array Value} {us rs : Array TypeId} {vr : Bool} (ht : P.underlying t = some (.func us rs vr)) (hx : ev L x = some (.func f a b)) (hy : ev L y = some .nilFunc) (hd : Nat.blt d n = true)
    (k : Rg P r n ops rest ((d, .bool false) :: L) ds w K) :
    Rg P r n ops ({ dst := some d, op := .binOp .eql t x y t', type := ty, pos, after := af, guard := none } :: rest) L ds w K :=
  .op (fun _ h => by cases h) rfl rfl hd _ w (fun ρ h => by
    have hi : ∀ k, (Op.equalIn (k + 1) t (.func f a b) .nilFunc).run P w = .ok false w := fun k => by simp [Op.equalIn, run_underlying ht]
    have he : (Op.equal t (.func f a b) .nilFunc).run P w = .ok false w := hi 9999
    simp only [execOp]; rw [h x _ hx, h y _ hy]
    simp [eqGuard, binOp, run_underlying ht, he]) k
/-- one result, a plain value that a block holds, of a function that holds a range over a function -/
theorem KretMF1 {fn : Func} {Q : Value → World → Prop} {c t b D : Nat} {v : Value} {u : TypeDesc} {e : TypeId} {fr : Nat × Nat} (hr : fn.results = #[.cell c t]) (hc : lk L c = some (.pointer (some ⟨b, 0, none⟩))) (hu : P.underlying t = some u) (hf : flat u = true) (hD : w.heap[D]? = some (.deferred (some [])))
    (hb : (w.putObj D (.deferred none)).heap[b]? = some (.cells #[v] e fr)) (h : Q v (w.putObj D (.deferred none))) : KretM P fn Q .ret L [mark D] w :=
  ⟨_, marks_one hD, fun a ha => ⟨_, by
    have := run_loadVarFlat (P := P) hu hf (cell_at (o := 0) (v := v) hb rfl)
    simp [results, hr, ha _ _ hc, asAddr, this, Sem.run_bind], h⟩⟩
end
theorem Step.ins {M M' N : PSet} {w w' : World} (s : Step M w M' w' N) {b : Nat} (hb : b < w.heap.size) : Step (ins M b) w (ins M' b) w' N :=
  ⟨fun h => by
    have h1 := s.lt (fun k hk => h k (.inr hk))
    intro k hk
    rcases hk with rfl | hk
    · exact Nat.lt_of_lt_of_le hb s.size
    · exact h1 k hk, s.os, s.tape, s.output, s.size, fun k hk => by
    constructor
    · rintro (h | h)
      · exact .inl h
      · exact .inr ((s.mem k hk).1 h)
    · rintro (h | h)
      · exact .inl h
      · exact .inr ((s.mem k hk).2 h), s.same, fun k hk => .inr (s.sub k hk)⟩
end Go.K

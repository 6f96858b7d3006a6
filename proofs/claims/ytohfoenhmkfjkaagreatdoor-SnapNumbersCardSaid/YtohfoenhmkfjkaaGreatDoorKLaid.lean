/- From a listed table of bytes to its cells. No program is named here. -/
import Derived.Test.YtohfoenhmkfjkaaGreatDoorKRow
import Derived.LaidByTextLater
import Derived.LaidMore
import Derived.LaidLaws
import Derived.LaidHandle
import Derived.MakeChecks
import Derived.SevenTiedAt
import Derived.Stop.Joined
namespace Go.K
set_option linter.unusedVariables false
theorem heap_of_var {P : Program} {w : World} {nm : String} {g : Nat} {cs : Array Value} (hg : P.globalNamed nm = some g) (h : w.var? P nm = some cs) : ∃ e fr, w.heap[g]? = some (.cells cs e fr) := by
  simp only [World.var?, hg, Option.bind_some] at h
  split at h
  · rename_i c e fr hh
    obtain rfl := Option.some.inj h
    exact ⟨e, fr, hh⟩
  · cases h
theorem trod_bytes {H : Type} {enc : TypeId × Value → H} {P : Program} {w : World} {base fuel : Nat} {spare : Nat → Bool} {held : Bool} {t e : TypeId} {n : Nat} {cs : Array Value} {l : List Nat} {p : List MemPlace} {d : DataW H}
    (ht : P.underlying t = some (.array n e)) (he : P.underlying e = some (.int .u8)) (hc : P.cellsOf e = 1) (hct : P.cellsOf t = n)
    (h : DataW.trod enc P w base spare held fuel t cs.toList = some (d, p)) (hd : d = .agg (l.map fun (k : Nat) => .lit (.int .u8 (k : Int))) := by rfl) : (l.map fun (k : Nat) => Value.int .u8 (k : Int)).toArray = cs := by
  subst hd
  obtain ⟨xs, m, rfl, hx, hl, hn, hel⟩ := DataW.trod_array ht h
  rw [hc] at hel
  simp only [Prod.mk.injEq, DataW.agg.injEq] at hx
  have hll : l.length = n := by
    have := congrArg List.length hx.1
    rw [List.length_map, List.length_map, hn] at this
    exact this
  suffices hs : l.map (fun (k : Nat) => Value.int .u8 (k : Int)) = cs.toList by rw [hs]
  refine List.ext_getElem? fun i => ?_
  rcases Nat.lt_or_ge i n with hi | hi
  · have hE := hel i hi
    obtain ⟨x, hxi⟩ : ∃ x, xs[i]? = some x := ⟨_, List.getElem?_eq_getElem (by omega)⟩
    obtain ⟨k, hk⟩ : ∃ k, l[i]? = some k := ⟨_, List.getElem?_eq_getElem (by omega)⟩
    rw [hxi, Nat.mul_one] at hE
    obtain ⟨z, e1, e2, _⟩ := DataW.trod_int he hE
    have h1 : (l.map fun (k : Nat) => (DataW.lit (.int .u8 (k : Int)) : DataW H))[i]? = some (.lit (.int .u8 (k : Int))) := by rw [List.getElem?_map, hk]; rfl
    rw [hx.1, List.getElem?_map, hxi, e2] at h1
    have hz : z = (k : Int) := by simpa using h1
    have h2 : ((cs.toList.drop i).take 1)[0]? = cs.toList[i]? := by rw [List.getElem?_take, if_pos (by decide), List.getElem?_drop, Nat.add_zero]
    rw [e1] at h2
    rw [← h2, List.getElem?_map, hk, hz]; rfl
  · rw [List.getElem?_eq_none (by rw [List.length_map]; omega), List.getElem?_eq_none (by rw [hl, hct]; omega)]
end Go.K

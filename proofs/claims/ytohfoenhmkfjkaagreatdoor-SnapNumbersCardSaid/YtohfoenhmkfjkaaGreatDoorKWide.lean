/- Walks in which any block may be written: only what is written is told. No program is named here. -/
import Derived.Test.YtohfoenhmkfjkaaGreatDoorKPerm
import Derived.Test.YtohfoenhmkfjkaaGreatDoorKMap
namespace Go.K
set_option linter.unusedVariables false
set_option linter.unusedSimpArgs false
def allM : PSet := fun _ => True
theorem Step.all {M M' N : PSet} {w w' : World} (s : Step M w M' w' N) : Step allM w allM w' N := ⟨fun h => absurd (h w.heap.size trivial) (Nat.lt_irrefl _), s.os, s.tape, s.output, s.size, fun _ _ => Iff.rfl, s.same, fun _ _ => trivial⟩
theorem Step.toAny {M M' : PSet} {w w' : World} (s : Step M w M' w' none') (M1 : PSet) : Step M1 w M1 w' none' := s.any M1
theorem MapO.all {P : Program} {k : TypeId} {R : Value → Option (DU × List MemPlace)} {M : PSet} {w : World} {b : Nat} {m : List (Lit × DU)} (h : MapO P k R M w b m) : MapO P k R allM w b m := ⟨trivial, h.own⟩
theorem AllR.int {κ : IntKind} {M M' : PSet} {w w' : World} : ∀ {xs : List Int} {C : List Value}, AllR (RT.int κ) M w xs C → AllR (RT.int κ) M' w' xs C
  | [], _, h => h
  | x :: xs, C, h => by
    obtain ⟨vs, r, h1, h2, h3⟩ := h
    exact ⟨vs, r, h1, h2, AllR.int h3⟩
/-- of a row of numbers it is told where it lies, not who may write it -/
theorem Own.alli {κ : IntKind} {e : TypeId} {M : PSet} {w : World} {base : Nat} {v : Value} {xs : List Int} (h : Own (RT.int κ) e M w base v xs) {M' : PSet} (hm : ∀ b, v.ownBlock = some b → M' b) : Own (RT.int κ) e M' w base v xs := by
  obtain ⟨⟨C, h1, h2⟩, _⟩ := h
  exact ⟨⟨C, h1, AllR.int h2⟩, hm⟩
theorem Own.keepi {κ : IntKind} {e : TypeId} {N : PSet} {w w' : World} {base : Nat} {v : Value} {xs : List Int} (h : Own (RT.int κ) e allM w base v xs) (s : Step allM w allM w' N) (hn : ∀ b, v.ownBlock = some b → ¬ N b) : Own (RT.int κ) e allM w' base v xs := by
  obtain ⟨⟨C, h1, h2⟩, _⟩ := h
  refine ⟨⟨C, ⟨h1.1, ?_⟩, AllR.int h2⟩, fun _ _ => trivial⟩
  rcases h1.2 with h3 | ⟨g, cap, cur, h3, h4, h5, h6, h7, h8⟩
  · exact .inl h3
  · exact .inr ⟨g, cap, cur, h3, h4, by rw [s.same g (lt_of_get h5) (hn g (by rw [h3]; rfl))]; exact h5, h6, h7, h8⟩
/-- its own block alone -/
def blkM (v : Value) : PSet := fun b => v.ownBlock = some b
theorem Own.lone {κ : IntKind} {e : TypeId} {M : PSet} {w : World} {base : Nat} {v : Value} {xs : List Int} (h : Own (RT.int κ) e M w base v xs) : Own (RT.int κ) e (blkM v) w base v xs := h.alli fun _ h => h
theorem Le.none {M : PSet} {w : World} : Le M w none' w := fun b _ hm => ⟨fun h => h, rfl⟩
end Go.K

/- The walks of Go functions, operation by operation. -/
import Derived.Test.YtohfoenhmkfjkaaGreatDoorKMap
import Derived.Test.YtohfoenhmkfjkaaGreatDoorKLay16
import Derived.Test.YtohfoenhmkfjkaaGreatDoorProg
import Derived.Shelf.SlIterI.Nil
import Derived.Shelf.SlIter.Nil
import Derived.Shelf.SortM.Plain
import Derived.Shelf.SortM.SortNone
namespace Go.K
open Go.Proofs
set_option linter.unusedVariables false
set_option linter.unusedSimpArgs false
set_option maxRecDepth 10000

open Go.RowKit Go.Maps Go.Sort Go.Shelf
theorem sortsI (m : Nat) : AnyZI.SortsIn Tryz.prog Tryz.sortedI_ren Fence.wide m :=
  ⟨fun blk off cap ss W hH hblk hsz => callsIn_wide.2 (AnyM.slices_Sort_int Tryz.sortI blk off cap ss W hH hblk hsz),
   fun p cap W => callsIn_wide.2 (AnyM.slices_Sort_int_none Tryz.sortI p cap W)⟩
theorem keysI_spec (mb : Option Nat) (w : World) : Spec Tryz.prog 62 #[.map mb] w (fun v w' => v = .func (.func 114) #[] #[.pointer (some ⟨w.heap.size, 0, none⟩)] ∧ w' = w.alloc (.cells #[.map mb] 100)) :=
  (callsIn_wide (n := 5)).1 ((AnyZI.keys_in Tryz.keysI Fence.wide 5 trivial rfl mb w).mono fun e w' ⟨h1, h2⟩ => ⟨_, h1, rfl, h2⟩)
theorem sortedI_spec {R : Value → Option (DU × List MemPlace)} {M : PSet} {w : World} {b bb : Nat} {m : List (Lit × DU)} (h : MapO Tryz.prog 3 R M w b m) (hbb : w.cell? ⟨bb, 0, none⟩ = some (.map (some b))) (hl : m.length ≤ 1099511627776) :
    Spec Tryz.prog 61 #[.func (.func 114) #[] #[.pointer (some ⟨bb, 0, none⟩)]] w (fun v w' => (∃ ss : List Int, ss.Perm (intKeys (DataW.map m)) ∧ w'.ownsRow w.heap.size 3 1 v ss.length ((ss.mergeSort (fun x y => decide (x ≤ y))).map encZ) ∧ (v = .slice none 0 0 ↔ ss = [])) ∧ Step M w M w' none') := by
  have hseq : SeqGives Fence.wide 2 Tryz.prog 114 #[.pointer (some ⟨bb, 0, none⟩)] encZ (fun ss => ss.Perm (intKeys (DataW.map m))) (Maps.size (DataW.map m)) w :=
    AnyZI.keys_gives (ρ := Tryz.keysI_ren) { Tryz.keysI with } Fence.wide _ trivial rfl (by omega) bb b m.length (DataW.map m) _ (World.block_lt_of_cell? w _ hbb) hbb h.own
  have hsz : Maps.size (DataW.map m) = m.length := rfl
  have cS := AnyZI.sorted_in Tryz.sortedI Fence.wide 5 trivial trivial trivial trivial rfl (by omega) (sortsI _) (enters_of Tryz.func113 (by kernel_rfl) rfl) 114 #[.pointer (some ⟨bb, 0, none⟩)] trivial (enters_of Tryz.func114 (by kernel_rfl) rfl) _ _ (by rw [hsz]; unfold maxLen; omega) (by rw [hsz]; omega) _ hseq
  exact (callsIn_wide (n := 5)).1 (cS.mono fun e w' ⟨v, ss, h1, h2, h3, h4, h5⟩ => ⟨v, h1, ⟨ss, h2, h3, h4⟩, .below' h5 M⟩)
theorem sortsS (m : Nat) : AnyZ.SortsIn Tryz.prog Tryz.sortedS_ren Fence.wide m :=
  ⟨fun blk off cap ss W hH hblk hsz => callsIn_wide.2 (AnyM.slices_Sort_string Tryz.sortS blk off cap ss W hH hblk hsz),
   fun p cap W => callsIn_wide.2 (AnyM.slices_Sort_string_none Tryz.sortS p cap W)⟩
theorem keysS_spec (mb : Option Nat) (w : World) : Spec Tryz.prog 112 #[.map mb] w (fun v w' => v = .func (.func 164) #[] #[.pointer (some ⟨w.heap.size, 0, none⟩)] ∧ w' = w.alloc (.cells #[.map mb] 167)) :=
  (callsIn_wide (n := 5)).1 ((AnyZ.keys_in Tryz.keysS Fence.wide 5 trivial rfl mb w).mono fun e w' ⟨h1, h2⟩ => ⟨_, h1, rfl, h2⟩)
theorem sortedS_spec {R : Value → Option (DU × List MemPlace)} {M : PSet} {w : World} {b bb : Nat} {m : List (Lit × DU)} (h : MapO Tryz.prog 9 R M w b m) (hbb : w.cell? ⟨bb, 0, none⟩ = some (.map (some b))) (hl : m.length ≤ 1099511627776) :
    Spec Tryz.prog 111 #[.func (.func 164) #[] #[.pointer (some ⟨bb, 0, none⟩)]] w (fun v w' => (∃ ss : List (List UInt8), ss.Perm (strKeys (DataW.map m)) ∧ w'.ownsRow w.heap.size 9 1 v ss.length ((ss.mergeSort (fun x y => decide (x ≤ y))).map encStr) ∧ (v = .slice none 0 0 ↔ ss = [])) ∧ Step M w M w' none') := by
  have hseq : SeqGives Fence.wide 2 Tryz.prog 164 #[.pointer (some ⟨bb, 0, none⟩)] encStr (fun ss => ss.Perm (strKeys (DataW.map m))) (Maps.size (DataW.map m)) w :=
    AnyZ.keys_gives (ρ := Tryz.keysS_ren) { Tryz.keysS with } Fence.wide _ trivial rfl (by omega) bb b m.length (DataW.map m) _ (World.block_lt_of_cell? w _ hbb) hbb h.own
  have hsz : Maps.size (DataW.map m) = m.length := rfl
  have cS := AnyZ.sorted_in Tryz.sortedS Fence.wide 5 trivial trivial trivial trivial rfl (by omega) (sortsS _) (enters_of Tryz.func163 (by kernel_rfl) rfl) 164 #[.pointer (some ⟨bb, 0, none⟩)] trivial (enters_of Tryz.func164 (by kernel_rfl) rfl) _ _ (by rw [hsz]; unfold maxLen; omega) (by rw [hsz]; omega) _ hseq
  exact (callsIn_wide (n := 5)).1 (cS.mono fun e w' ⟨v, ss, h1, h2, h3, h4, h5⟩ => ⟨v, h1, ⟨ss, h2, h3, h4⟩, .below' h5 M⟩)
/-- a word's bytes, of a map's keys -/
theorem cell_of_alloc {w w' : World} {v : Value} {t : TypeId} (h : w' = w.alloc (.cells #[v] t)) : w'.cell? ⟨w.heap.size, 0, none⟩ = some v := by
  subst h; exact cell_at (heap_alloc_at w _) rfl
end Go.K

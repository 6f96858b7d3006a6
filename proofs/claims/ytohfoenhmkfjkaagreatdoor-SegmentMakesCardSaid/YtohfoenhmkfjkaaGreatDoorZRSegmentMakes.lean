/- The law 'Mf: from its walk to its row. The frame is the akn printed aaF; the arguments are read by KRow. -/
import Derived.Test.YtohfoenhmkfjkaaGreatDoorTie
import Derived.Test.YtohfoenhmkfjkaaGreatDoorCards
import Derived.Test.YtohfoenhmkfjkaaGreatDoorZSegmentMakes1
import Derived.Test.YtohfoenhmkfjkaaGreatDoorZSegmentMakes2
import Derived.Test.YtohfoenhmkfjkaaGreatDoorZSegmentMakes3
import Derived.Test.YtohfoenhmkfjkaaGreatDoorZSegmentMakes4
import Derived.Test.YtohfoenhmkfjkaaGreatDoorZSegmentMakes5
import Derived.Test.YtohfoenhmkfjkaaGreatDoorZSegmentMakes6
import Derived.Test.YtohfoenhmkfjkaaGreatDoorZSegmentMakes7
import Derived.Test.YtohfoenhmkfjkaaGreatDoorFASegmentMakes
import Derived.Test.YtohfoenhmkfjkaaGreatDoorFBSegmentMakes
import Derived.Lay
namespace Go.Proofs.YtohfoenhmkfjkaaGreatDoor.segmentMakes
open Go.ChangeShapes Go.WideShapes Go.ChangeAt Go.RowKit Go.K
set_option linter.unusedVariables false

theorem own : ownKnob Tryz.prog.godebug = none := by kernel_rfl
theorem laidOut : laidOutB Tryz.prog = true := by kernel_rfl

theorem arg_agg {α : Type} {A : RT α} (ha : A.agg = true) (hn : A.n ≠ 1) {v : Value} : ∀ vs : List Value, vs.length = A.n → v.cells.toList = vs → (∀ u ∈ vs, u.oneCell' = true) → v = A.val vs := by
  intro vs hl oY ho
  subst oY
  unfold RT.val
  rw [if_pos ha]
  cases v with
  | agg cs => simp [Value.cells]
  | _ => simp [Value.cells] at hl; omega


set_option maxRecDepth 100000 in
theorem lifted (os : Os) (started : os.Started) (H : Type) (enc : TypeId × Value → H) :
    ReturnsInHanded {} Tryz.checked os 9 .any (fun w args => (Rows.segmentMakesSpec.pre enc Tryz.prog Tryz.f9 Rows.segmentMakesRow.domain false w args ∧ laidMetH Tryz.prog [("unicode/utf8.acceptRanges", Rows.laid_unicode_utf8_acceptRanges), ("unicode/utf8.first", Rows.laid_unicode_utf8_first)] w) ∧ sizedMet enc Tryz.prog Tryz.f9 (OpenSpec.ofChange Rows.segmentMakesSpec) false w args) (Rows.segmentMakesSpec.post enc Tryz.prog Tryz.f9 false true false false) := by
  refine returnsInHanded_of_change_and (C := Tryz.checked) (X := fun w _ => laidMetH Tryz.prog [("unicode/utf8.acceptRanges", Rows.laid_unicode_utf8_acceptRanges), ("unicode/utf8.first", Rows.laid_unicode_utf8_first)] w) (fun _ _ _ hh h => h.of_heap hh) own started (by kernel_rfl) Tryz.func9
    (ChangeSpec.witness_shaped (enc := enc) (C := Tryz.checked) (os := os) (X := fun w _ => laidMetH Tryz.prog [("unicode/utf8.acceptRanges", Rows.laid_unicode_utf8_acceptRanges), ("unicode/utf8.first", Rows.laid_unicode_utf8_first)] w) false (World.laidAll Tryz.prog os [("unicode/utf8.acceptRanges", Rows.laid_unicode_utf8_acceptRanges), ("unicode/utf8.first", Rows.laid_unicode_utf8_first)]) #[.agg #[.slice none 0 0, .slice none 0 0, .slice none 0 0, .slice none 0 0], .slice none 0 0] 8 (World.laidAll_os _ _ _) (World.shaped_of_ZipB (by kernel_rfl) (by kernel_rfl)) (by kernel_rfl) (by kernel_rfl) (by kernel_rfl) (by rw [MakeChecks.laidMetH_plain _ _ _ (by kernel_rfl)]; exact laidMet_laidAll _ (by kernel_rfl) (by kernel_rfl))) ?_
  intro W base args ds gs before PE hW ap7 jF hL _
  have Hf : ∀ (j : Nat) t v, Tryz.f9.params[j]? = some t → args[j]? = some v → Value.okWide Tryz.prog W .any base t v := PE
  have hW' := hW
  obtain ⟨p, q, hA0, hV, rfl, hfz, qq⟩ := hW
  have hA : DataW.TrodAll enc Tryz.prog W 0 (fun _ => true) true Tryz.f9.params.toList args.toList ds p := hA0
  rw [Tryz.params9] at hA Hf jF
  obtain ⟨v0, vs0, d0, ds0, p0, q0, akp, rfl, rfl, h0, r0⟩ := trodAll_cons hA
  obtain ⟨v1, vs1, d1, Z0, p1, q1, rfl, rfl, rfl, h1, r1⟩ := trodAll_cons r0
  obtain ⟨rfl, rfl, rfl⟩ := trodAll_nil r1
  obtain rfl : args = #[v0, v1] := by cases args; simp_all
  obtain ⟨rfl, rfl⟩ := trodVars_none hV
  have k0 := h0
  have lt0 : ∀ x ∈ p0, x.block < W.heap.size := by obtain ⟨m, hm⟩ := k0; exact DataW.trod_lt m _ _ _ hm
  obtain ⟨x0, w0⟩ := fa.arg (fa.four Tryz.underlying62 rfl rfl rfl rfl rfl rfl rfl rfl rfl (by kernel_rfl) (by kernel_rfl) (by kernel_rfl) (by kernel_rfl) (by kernel_rfl) (fa.sl (A := RT.int .i64) (hn := by decide) Tryz.underlying32 (by kernel_rfl) (nb := 8) (by kernel_rfl) (by decide) (fa.int Tryz.underlying3)) (fa.sl (A := RT.int .i64) (hn := by decide) Tryz.underlying32 (by kernel_rfl) (nb := 8) (by kernel_rfl) (by decide) (fa.int Tryz.underlying3)) (fa.sl (A := RT.str) (hn := by decide) Tryz.underlying55 (by kernel_rfl) (nb := 16) (by kernel_rfl) (by decide) (fa.str Tryz.underlying9)) (fa.sl (A := ((RT.pair (RT.int .i64) ((RT.int .i64).sl))).sl) (hn := by decide) Tryz.underlying56 (by kernel_rfl) (nb := 24) (by kernel_rfl) (by decide) (fa.sl (A := (RT.pair (RT.int .i64) ((RT.int .i64).sl))) (hn := by decide) Tryz.underlying107 (by kernel_rfl) (nb := 32) (by kernel_rfl) (by decide) (fa.pair Tryz.underlying153 rfl rfl rfl rfl rfl (by kernel_rfl) (by kernel_rfl) (by kernel_rfl) (fa.int Tryz.underlying3) (fa.sl (A := RT.int .i64) (hn := by decide) Tryz.underlying32 (by kernel_rfl) (nb := 8) (by kernel_rfl) (by decide) (fa.int Tryz.underlying3)))))) h0 (arg_agg rfl (by decide)) (fun n hn => by have := List.all_eq_true.1 jF n (DataW.weights_mem_each (j := 0) rfl rfl n hn); simpa using this)
  obtain ⟨a1, aqa, aqb, rfl⟩ := okWide_slice Tryz.underlying36 (Hf 1 36 v1 rfl rfl)
  have k1 := h1
  have lt1 : ∀ x ∈ p1, x.block < W.heap.size := by obtain ⟨m, hm⟩ := k1; exact DataW.trod_lt m _ _ _ hm
  obtain ⟨x1, w1⟩ := fa.arg (fa.sl (A := (RT.pair (RT.int .i64) (((RT.pair (RT.str) (RT.str))).sl))) (hn := by decide) Tryz.underlying36 (by kernel_rfl) (nb := 32) (by kernel_rfl) (by decide) (fa.pair Tryz.underlying41 rfl rfl rfl rfl rfl (by kernel_rfl) (by kernel_rfl) (by kernel_rfl) (fa.int Tryz.underlying3) (fa.sl (A := (RT.pair (RT.str) (RT.str))) (hn := by decide) Tryz.underlying39 (by kernel_rfl) (nb := 32) (by kernel_rfl) (by decide) (fa.pair Tryz.underlying127 rfl rfl rfl rfl rfl (by kernel_rfl) (by kernel_rfl) (by kernel_rfl) (fa.str Tryz.underlying9) (fa.str Tryz.underlying9))))) h1 (fun vs _ oY _ => by simp [Value.cells] at oY; subst oY; rfl) (fun n hn => by have := List.all_eq_true.1 jF n (DataW.weights_mem_each (j := 1) rfl rfl n hn); simpa using this)
  clear hA0 PE
  refine (Ig (Go.K.tc (M := aN) (Lt.none W) w0 w1)).mono fun e W' ⟨he, bel⟩ => ?_
  subst he
  exact ⟨_, rfl, _, _, _, [], _, [], hW', trodAll_mk1 (shut_bool Tryz.underlying4 _), (trodAll_cons_mk (Below.trod laidOut (by kernel_rfl) (of_decide_eq_true (by kernel_rfl)) k0 bel lt0) (trodAll_cons_mk (Below.trod laidOut (by kernel_rfl) (of_decide_eq_true (by kernel_rfl)) k1 bel lt1) trodAll_mk0)), rfl, bel.frame _, fun h => by cases h⟩

set_option maxRecDepth 100000 in
theorem joined : joinedFacts Tryz.pinned.checked.prog 9 Tryz.f9 Rows.segmentMakesSpec Rows.segmentMakesRow = true := by
  unfold joinedFacts
  exact Bool.and_eq_true_iff.2 ⟨Bool.and_eq_true_iff.2 ⟨Bool.and_eq_true_iff.2 ⟨Bool.and_eq_true_iff.2 ⟨Bool.and_eq_true_iff.2 ⟨Bool.and_eq_true_iff.2 ⟨Bool.and_eq_true_iff.2 ⟨Bool.and_eq_true_iff.2 ⟨Bool.and_eq_true_iff.2 ⟨Bool.and_eq_true_iff.2 ⟨Bool.and_eq_true_iff.2 ⟨Bool.and_eq_true_iff.2 ⟨Bool.and_eq_true_iff.2 ⟨Bool.and_eq_true_iff.2 ⟨Bool.and_eq_true_iff.2 ⟨Bool.and_eq_true_iff.2 ⟨Bool.and_eq_true_iff.2 ⟨Bool.and_eq_true_iff.2 ⟨Bool.and_eq_true_iff.2 ⟨Bool.and_eq_true_iff.2 ⟨Bool.and_eq_true_iff.2 ⟨Bool.and_eq_true_iff.2 ⟨Bool.and_eq_true_iff.2 ⟨Bool.and_eq_true_iff.2 ⟨Bool.and_eq_true_iff.2 ⟨Bool.and_eq_true_iff.2 ⟨Bool.and_eq_true_iff.2 ⟨Bool.and_eq_true_iff.2 ⟨Bool.and_eq_true_iff.2 ⟨Bool.and_eq_true_iff.2 ⟨Bool.and_eq_true_iff.2 ⟨fact0, fact1⟩, fact2⟩, fact3⟩, fact4⟩, fact5⟩, fact6⟩, fact7⟩, fact8⟩, fact9⟩, fact10⟩, fact11⟩, fact12⟩, fact13⟩, fact14⟩, fact15⟩, fact16⟩, fact17⟩, fact18⟩, fact19⟩, fact20⟩, fact21⟩, fact22⟩, fact23⟩, fact24⟩, fact25⟩, fact26⟩, fact27⟩, fact28⟩, fact29⟩, fact30⟩, fact31⟩

theorem over : Rows.segmentMakesRow.holds Tryz.pinned (OpenSpec.ofChange Rows.segmentMakesSpec) :=
  OpenClaim.holds_of_wide 9 Tryz.f9 rfl rfl rfl rfl rfl rfl rfl ⟨rfl, rfl, rfl, rfl, rfl⟩ rfl rfl rfl rfl rfl factN Tryz.func9 joined
    (of_decide_eq_true (by kernel_rfl)) (by unfold Func.isWrapper; first | (rw [if_pos (by decide +kernel)]; kernel_rfl) | (rw [if_neg (by decide +kernel)]; exact ⟨rfl, rfl⟩))
    (fun os started H enc _ => lifted os started H enc)

theorem proved : Rows.SegmentMakesCardSaid :=
  Claim7.holds_tied_plain_at .later [] [.data, .pinned] true (true, "261a5d3827e9a151da3e3d812145470ef6b6e1fe1ad9a96c49aea3e373872885") false over (fun _ h => by cases h) (by kernel_rfl) (fun _ h => by cases h) segmentMakes_row_tie rfl ⟨rfl, rfl⟩ factM rfl
    (fun f fn hf hfn => by
      obtain rfl : f = 9 := Option.some.inj (factN.symm.trans hf) |>.symm
      obtain rfl : fn = Tryz.f9 := (Option.some.inj (Tryz.func9.symm.trans hfn)).symm
      refine ⟨factL, fun j t ht => ?_⟩
      rw [Tryz.params9] at ht
      have hm : t ∈ [62, 36] := by rw [← Array.getElem?_toList] at ht; exact List.mem_of_getElem? ht
      simp only [List.mem_cons, List.not_mem_nil, or_false] at hm
      rcases hm with rfl | rfl
      · exact factW62
      · exact factW36)
    factG
#print axioms proved
end Go.Proofs.YtohfoenhmkfjkaaGreatDoor.segmentMakes

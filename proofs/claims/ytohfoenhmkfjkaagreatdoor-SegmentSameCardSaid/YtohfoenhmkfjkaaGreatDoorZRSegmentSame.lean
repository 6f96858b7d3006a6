/- The law 'Js: from its walk to its row. The frame is the acX printed T5; the arguments are read by KRow. -/
import Derived.Test.YtohfoenhmkfjkaaGreatDoorTie
import Derived.Test.YtohfoenhmkfjkaaGreatDoorCards
import Derived.Test.YtohfoenhmkfjkaaGreatDoorZSegmentSame1
import Derived.Test.YtohfoenhmkfjkaaGreatDoorZSegmentSame2
import Derived.Test.YtohfoenhmkfjkaaGreatDoorZSegmentSame3
import Derived.Test.YtohfoenhmkfjkaaGreatDoorZSegmentSame4
import Derived.Test.YtohfoenhmkfjkaaGreatDoorZSegmentSame5
import Derived.Test.YtohfoenhmkfjkaaGreatDoorFASegmentSame
import Derived.Test.YtohfoenhmkfjkaaGreatDoorFBSegmentSame
import Derived.Lay
namespace Go.Proofs.YtohfoenhmkfjkaaGreatDoor.segmentSame
open Go.ChangeShapes Go.WideShapes Go.ChangeAt Go.RowKit Go.K
set_option linter.unusedVariables false

theorem own : ownKnob Tryz.prog.godebug = none := by kernel_rfl
theorem laidOut : laidOutB Tryz.prog = true := by kernel_rfl


set_option maxRecDepth 100000 in
theorem lifted (os : Os) (started : os.Started) (H : Type) (enc : TypeId × Value → H) :
    ReturnsInHanded {} Tryz.checked os 6 .any (fun w args => (Rows.segmentSameSpec.pre enc Tryz.prog Tryz.f6 Rows.segmentSameRow.domain false w args ∧ laidMetH Tryz.prog [("unicode/utf8.acceptRanges", Rows.laid_unicode_utf8_acceptRanges), ("unicode/utf8.first", Rows.laid_unicode_utf8_first)] w) ∧ sizedMet enc Tryz.prog Tryz.f6 (OpenSpec.ofChange Rows.segmentSameSpec) false w args) (Rows.segmentSameSpec.post enc Tryz.prog Tryz.f6 false true false false) := by
  refine returnsInHanded_of_change_and (C := Tryz.checked) (X := fun w _ => laidMetH Tryz.prog [("unicode/utf8.acceptRanges", Rows.laid_unicode_utf8_acceptRanges), ("unicode/utf8.first", Rows.laid_unicode_utf8_first)] w) (fun _ _ _ hh h => h.of_heap hh) own started (by kernel_rfl) Tryz.func6
    (ChangeSpec.witness_shaped (enc := enc) (C := Tryz.checked) (os := os) (X := fun w _ => laidMetH Tryz.prog [("unicode/utf8.acceptRanges", Rows.laid_unicode_utf8_acceptRanges), ("unicode/utf8.first", Rows.laid_unicode_utf8_first)] w) false (World.laidAll Tryz.prog os [("unicode/utf8.acceptRanges", Rows.laid_unicode_utf8_acceptRanges), ("unicode/utf8.first", Rows.laid_unicode_utf8_first)]) #[.slice none 0 0, .slice none 0 0] 8 (World.laidAll_os _ _ _) (World.shaped_of_ZipB (by kernel_rfl) (by kernel_rfl)) (by kernel_rfl) (by kernel_rfl) (by kernel_rfl) (by rw [MakeChecks.laidMetH_plain _ _ _ (by kernel_rfl)]; exact laidMet_laidAll _ (by kernel_rfl) (by kernel_rfl))) ?_
  intro W base args ds gs before KE hW ah3 gS hL _
  have Bk : ∀ (j : Nat) t v, Tryz.f6.params[j]? = some t → args[j]? = some v → Value.okWide Tryz.prog W .any base t v := KE
  have hW' := hW
  obtain ⟨p, q, hA0, hV, rfl, hfz, ot⟩ := hW
  have hA : DataW.TrodAll enc Tryz.prog W 0 (fun _ => true) true Tryz.f6.params.toList args.toList ds p := hA0
  rw [Tryz.params6] at hA Bk gS
  obtain ⟨v0, vs0, d0, ds0, p0, q0, acZ, rfl, rfl, h0, r0⟩ := trodAll_cons hA
  obtain ⟨v1, vs1, d1, Tf, p1, q1, rfl, rfl, rfl, h1, r1⟩ := trodAll_cons r0
  obtain ⟨rfl, rfl, rfl⟩ := trodAll_nil r1
  obtain rfl : args = #[v0, v1] := by cases args; simp_all
  obtain ⟨rfl, rfl⟩ := trodVars_none hV
  obtain ⟨a0, ah5, ah6, rfl⟩ := okWide_slice Tryz.underlying36 (Bk 0 36 v0 rfl rfl)
  have k0 := h0
  have lt0 : ∀ x ∈ p0, x.block < W.heap.size := by obtain ⟨m, hm⟩ := k0; exact DataW.trod_lt m _ _ _ hm
  obtain ⟨x0, w0⟩ := fE.arg (fE.sl (A := (RT.pair (RT.int .i64) (((RT.pair (RT.str) (RT.str))).sl))) (hn := by decide) Tryz.underlying36 (by kernel_rfl) (nb := 32) (by kernel_rfl) (by decide) (fE.pair Tryz.underlying41 rfl rfl rfl rfl rfl (by kernel_rfl) (by kernel_rfl) (by kernel_rfl) (fE.int Tryz.underlying3) (fE.sl (A := (RT.pair (RT.str) (RT.str))) (hn := by decide) Tryz.underlying39 (by kernel_rfl) (nb := 32) (by kernel_rfl) (by decide) (fE.pair Tryz.underlying127 rfl rfl rfl rfl rfl (by kernel_rfl) (by kernel_rfl) (by kernel_rfl) (fE.str Tryz.underlying9) (fE.str Tryz.underlying9))))) h0 (fun vs _ mJ _ => by simp [Value.cells] at mJ; subst mJ; rfl) (fun n hn => by have := List.all_eq_true.1 gS n (DataW.weights_mem_each (j := 0) rfl rfl n hn); simpa using this)
  obtain ⟨a1, ah8, ah9, rfl⟩ := okWide_slice Tryz.underlying36 (Bk 1 36 v1 rfl rfl)
  have k1 := h1
  have lt1 : ∀ x ∈ p1, x.block < W.heap.size := by obtain ⟨m, hm⟩ := k1; exact DataW.trod_lt m _ _ _ hm
  obtain ⟨x1, w1⟩ := fE.arg (fE.sl (A := (RT.pair (RT.int .i64) (((RT.pair (RT.str) (RT.str))).sl))) (hn := by decide) Tryz.underlying36 (by kernel_rfl) (nb := 32) (by kernel_rfl) (by decide) (fE.pair Tryz.underlying41 rfl rfl rfl rfl rfl (by kernel_rfl) (by kernel_rfl) (by kernel_rfl) (fE.int Tryz.underlying3) (fE.sl (A := (RT.pair (RT.str) (RT.str))) (hn := by decide) Tryz.underlying39 (by kernel_rfl) (nb := 32) (by kernel_rfl) (by decide) (fE.pair Tryz.underlying127 rfl rfl rfl rfl rfl (by kernel_rfl) (by kernel_rfl) (by kernel_rfl) (fE.str Tryz.underlying9) (fE.str Tryz.underlying9))))) h1 (fun vs _ mJ _ => by simp [Value.cells] at mJ; subst mJ; rfl) (fun n hn => by have := List.all_eq_true.1 gS n (DataW.weights_mem_each (j := 1) rfl rfl n hn); simpa using this)
  clear hA0 KE
  refine (Eg (Go.K.rj (M := aD) (Lt.none W) w0 w1)).mono fun e W' ⟨he, bel⟩ => ?_
  subst he
  exact ⟨_, rfl, _, _, _, [], _, [], hW', trodAll_mk1 (shut_bool Tryz.underlying4 _), (trodAll_cons_mk (Below.trod laidOut (by kernel_rfl) (of_decide_eq_true (by kernel_rfl)) k0 bel lt0) (trodAll_cons_mk (Below.trod laidOut (by kernel_rfl) (of_decide_eq_true (by kernel_rfl)) k1 bel lt1) trodAll_mk0)), rfl, bel.frame _, fun h => by cases h⟩

set_option maxRecDepth 100000 in
theorem joined : joinedFacts Tryz.pinned.checked.prog 6 Tryz.f6 Rows.segmentSameSpec Rows.segmentSameRow = true := by
  unfold joinedFacts
  exact Bool.and_eq_true_iff.2 ⟨Bool.and_eq_true_iff.2 ⟨Bool.and_eq_true_iff.2 ⟨Bool.and_eq_true_iff.2 ⟨Bool.and_eq_true_iff.2 ⟨Bool.and_eq_true_iff.2 ⟨Bool.and_eq_true_iff.2 ⟨Bool.and_eq_true_iff.2 ⟨Bool.and_eq_true_iff.2 ⟨Bool.and_eq_true_iff.2 ⟨Bool.and_eq_true_iff.2 ⟨Bool.and_eq_true_iff.2 ⟨Bool.and_eq_true_iff.2 ⟨Bool.and_eq_true_iff.2 ⟨Bool.and_eq_true_iff.2 ⟨Bool.and_eq_true_iff.2 ⟨Bool.and_eq_true_iff.2 ⟨Bool.and_eq_true_iff.2 ⟨Bool.and_eq_true_iff.2 ⟨Bool.and_eq_true_iff.2 ⟨Bool.and_eq_true_iff.2 ⟨Bool.and_eq_true_iff.2 ⟨Bool.and_eq_true_iff.2 ⟨Bool.and_eq_true_iff.2 ⟨Bool.and_eq_true_iff.2 ⟨Bool.and_eq_true_iff.2 ⟨Bool.and_eq_true_iff.2 ⟨Bool.and_eq_true_iff.2 ⟨Bool.and_eq_true_iff.2 ⟨Bool.and_eq_true_iff.2 ⟨Bool.and_eq_true_iff.2 ⟨fact0, fact1⟩, fact2⟩, fact3⟩, fact4⟩, fact5⟩, fact6⟩, fact7⟩, fact8⟩, fact9⟩, fact10⟩, fact11⟩, fact12⟩, fact13⟩, fact14⟩, fact15⟩, fact16⟩, fact17⟩, fact18⟩, fact19⟩, fact20⟩, fact21⟩, fact22⟩, fact23⟩, fact24⟩, fact25⟩, fact26⟩, fact27⟩, fact28⟩, fact29⟩, fact30⟩, fact31⟩

theorem over : Rows.segmentSameRow.holds Tryz.pinned (OpenSpec.ofChange Rows.segmentSameSpec) :=
  OpenClaim.holds_of_wide 6 Tryz.f6 rfl rfl rfl rfl rfl rfl rfl ⟨rfl, rfl, rfl, rfl, rfl⟩ rfl rfl rfl rfl rfl factN Tryz.func6 joined
    (of_decide_eq_true (by kernel_rfl)) (by unfold Func.isWrapper; first | (rw [if_pos (by decide +kernel)]; kernel_rfl) | (rw [if_neg (by decide +kernel)]; exact ⟨rfl, rfl⟩))
    (fun os started H enc _ => lifted os started H enc)

theorem proved : Rows.SegmentSameCardSaid :=
  Claim7.holds_tied_plain_at .later [] [.data, .pinned] true (true, "261a5d3827e9a151da3e3d812145470ef6b6e1fe1ad9a96c49aea3e373872885") false over (fun _ h => by cases h) (by kernel_rfl) (fun _ h => by cases h) segmentSame_row_tie rfl ⟨rfl, rfl⟩ factM rfl
    (fun f fn hf hfn => by
      obtain rfl : f = 6 := Option.some.inj (factN.symm.trans hf) |>.symm
      obtain rfl : fn = Tryz.f6 := (Option.some.inj (Tryz.func6.symm.trans hfn)).symm
      refine ⟨factL, fun j t ht => ?_⟩
      rw [Tryz.params6] at ht
      have hm : t ∈ [36, 36] := by rw [← Array.getElem?_toList] at ht; exact List.mem_of_getElem? ht
      simp only [List.mem_cons, List.not_mem_nil, or_false] at hm
      rcases hm with rfl | rfl
      · exact factW36
      · exact factW36)
    factG
#print axioms proved
end Go.Proofs.YtohfoenhmkfjkaaGreatDoor.segmentSame

/- The law 'OA: from its walk to its row. The frame is the acx printed T7; the arguments are read by KRow. -/
import Derived.Test.YtbobcaffmbaadaaGreatDoorTie
import Derived.Test.YtbobcaffmbaadaaGreatDoorCards
import Derived.Test.YtbobcaffmbaadaaGreatDoorZSnapFrees1
import Derived.Test.YtbobcaffmbaadaaGreatDoorZSnapFrees2
import Derived.Test.YtbobcaffmbaadaaGreatDoorZSnapFrees3
import Derived.Test.YtbobcaffmbaadaaGreatDoorZSnapFrees4
import Derived.Test.YtbobcaffmbaadaaGreatDoorZSnapFrees5
import Derived.Test.YtbobcaffmbaadaaGreatDoorFASnapFrees
import Derived.Test.YtbobcaffmbaadaaGreatDoorFBSnapFrees
import Derived.Lay
namespace Go.Proofs.YtbobcaffmbaadaaGreatDoor.snapFrees
open Go.ChangeShapes Go.WideShapes Go.ChangeAt Go.RowKit Go.K
set_option linter.unusedVariables false

theorem own : ownKnob Tryz.prog.godebug = none := by kernel_rfl
theorem laidOut : laidOutB Tryz.prog = true := by kernel_rfl


set_option maxRecDepth 100000 in
theorem lifted (os : Os) (started : os.Started) (H : Type) (enc : TypeId × Value → H) :
    ReturnsInHanded {} Tryz.checked os 3 .any (fun w args => (Rows.snapFreesSpec.pre enc Tryz.prog Tryz.f3 Rows.snapFreesRow.domain false w args ∧ laidMetH Tryz.prog [("unicode/utf8.acceptRanges", Rows.laid_unicode_utf8_acceptRanges), ("unicode/utf8.first", Rows.laid_unicode_utf8_first)] w) ∧ sizedMet enc Tryz.prog Tryz.f3 (OpenSpec.ofChange Rows.snapFreesSpec) false w args) (Rows.snapFreesSpec.post enc Tryz.prog Tryz.f3 false true false false) := by
  refine returnsInHanded_of_change_and (C := Tryz.checked) (X := fun w _ => laidMetH Tryz.prog [("unicode/utf8.acceptRanges", Rows.laid_unicode_utf8_acceptRanges), ("unicode/utf8.first", Rows.laid_unicode_utf8_first)] w) (fun _ _ _ hh h => h.of_heap hh) own started (by kernel_rfl) Tryz.func3
    (ChangeSpec.witness_shaped (enc := enc) (C := Tryz.checked) (os := os) (X := fun w _ => laidMetH Tryz.prog [("unicode/utf8.acceptRanges", Rows.laid_unicode_utf8_acceptRanges), ("unicode/utf8.first", Rows.laid_unicode_utf8_first)] w) false (World.laidAll Tryz.prog os [("unicode/utf8.acceptRanges", Rows.laid_unicode_utf8_acceptRanges), ("unicode/utf8.first", Rows.laid_unicode_utf8_first)]) #[.slice none 0 0, .int .i64 0] 8 (World.laidAll_os _ _ _) (World.shaped_of_ZipB (by kernel_rfl) (by kernel_rfl)) (by kernel_rfl) (by kernel_rfl) (by kernel_rfl) (by rw [MakeChecks.laidMetH_plain _ _ _ (by kernel_rfl)]; exact laidMet_laidAll _ (by kernel_rfl) (by kernel_rfl))) ?_
  intro W base args ds gs before K4 hW ahw jj hL _
  have BN : ∀ (j : Nat) t v, Tryz.f3.params[j]? = some t → args[j]? = some v → Value.okWide Tryz.prog W .any base t v := K4
  have hW' := hW
  obtain ⟨p, q, hA0, hV, rfl, hfz, kL⟩ := hW
  have hA : DataW.TrodAll enc Tryz.prog W 0 (fun _ => true) true Tryz.f3.params.toList args.toList ds p := hA0
  rw [Tryz.params3] at hA BN jj
  obtain ⟨v0, vs0, d0, ds0, p0, q0, acz, rfl, rfl, h0, r0⟩ := trodAll_cons hA
  obtain ⟨v1, vs1, d1, Tn, p1, q1, rfl, rfl, rfl, h1, r1⟩ := trodAll_cons r0
  obtain ⟨rfl, rfl, rfl⟩ := trodAll_nil r1
  obtain rfl : args = #[v0, v1] := by cases args; simp_all
  obtain ⟨rfl, rfl⟩ := trodVars_none hV
  obtain ⟨a0, ahy, ahz, rfl⟩ := okWide_slice Tryz.underlying22 (BN 0 22 v0 rfl rfl)
  have k0 := h0
  have lt0 : ∀ x ∈ p0, x.block < W.heap.size := by obtain ⟨m, hm⟩ := k0; exact DataW.trod_lt m _ _ _ hm
  obtain ⟨x0, w0⟩ := gP.arg (gP.sl (A := (RT.pair (RT.int .i64) (((RT.pair (RT.str) (RT.str))).sl))) (hn := by decide) Tryz.underlying22 (by kernel_rfl) (nb := 32) (by kernel_rfl) (by decide) (gP.pair Tryz.underlying69 rfl rfl rfl rfl rfl (by kernel_rfl) (by kernel_rfl) (by kernel_rfl) (gP.int Tryz.underlying3) (gP.sl (A := (RT.pair (RT.str) (RT.str))) (hn := by decide) Tryz.underlying67 (by kernel_rfl) (nb := 32) (by kernel_rfl) (by decide) (gP.pair Tryz.underlying166 rfl rfl rfl rfl rfl (by kernel_rfl) (by kernel_rfl) (by kernel_rfl) (gP.str Tryz.underlying9) (gP.str Tryz.underlying9))))) h0 (fun vs _ mT _ => by simp [Value.cells] at mT; subst mT; rfl) (fun n hn => by have := List.all_eq_true.1 jj n (DataW.weights_mem_each (j := 0) rfl rfl n hn); simpa using this)
  obtain ⟨a1, rfl, rfl, rfl, w1⟩ := open_int Tryz.underlying3 (BN 1 3 v1 rfl rfl) h1
  clear hA0 K4
  refine (EW (Go.K.uq (M := aw) (Lt.none W) w0 (wf_i64 w1))).mono fun e W' ⟨he, bel⟩ => ?_
  subst he
  exact ⟨_, rfl, _, _, _, [], _, [], hW', trodAll_mk1 (shut_bool Tryz.underlying4 _), (trodAll_cons_mk (Below.trod laidOut (by kernel_rfl) (of_decide_eq_true (by kernel_rfl)) k0 bel lt0) (trodAll_cons_mk (shut_int Tryz.underlying3 w1) trodAll_mk0)), rfl, bel.frame _, fun h => by cases h⟩

set_option maxRecDepth 100000 in
theorem joined : joinedFacts Tryz.pinned.checked.prog 3 Tryz.f3 Rows.snapFreesSpec Rows.snapFreesRow = true := by
  unfold joinedFacts
  exact Bool.and_eq_true_iff.2 ⟨Bool.and_eq_true_iff.2 ⟨Bool.and_eq_true_iff.2 ⟨Bool.and_eq_true_iff.2 ⟨Bool.and_eq_true_iff.2 ⟨Bool.and_eq_true_iff.2 ⟨Bool.and_eq_true_iff.2 ⟨Bool.and_eq_true_iff.2 ⟨Bool.and_eq_true_iff.2 ⟨Bool.and_eq_true_iff.2 ⟨Bool.and_eq_true_iff.2 ⟨Bool.and_eq_true_iff.2 ⟨Bool.and_eq_true_iff.2 ⟨Bool.and_eq_true_iff.2 ⟨Bool.and_eq_true_iff.2 ⟨Bool.and_eq_true_iff.2 ⟨Bool.and_eq_true_iff.2 ⟨Bool.and_eq_true_iff.2 ⟨Bool.and_eq_true_iff.2 ⟨Bool.and_eq_true_iff.2 ⟨Bool.and_eq_true_iff.2 ⟨Bool.and_eq_true_iff.2 ⟨Bool.and_eq_true_iff.2 ⟨Bool.and_eq_true_iff.2 ⟨Bool.and_eq_true_iff.2 ⟨Bool.and_eq_true_iff.2 ⟨Bool.and_eq_true_iff.2 ⟨Bool.and_eq_true_iff.2 ⟨Bool.and_eq_true_iff.2 ⟨Bool.and_eq_true_iff.2 ⟨Bool.and_eq_true_iff.2 ⟨fact0, fact1⟩, fact2⟩, fact3⟩, fact4⟩, fact5⟩, fact6⟩, fact7⟩, fact8⟩, fact9⟩, fact10⟩, fact11⟩, fact12⟩, fact13⟩, fact14⟩, fact15⟩, fact16⟩, fact17⟩, fact18⟩, fact19⟩, fact20⟩, fact21⟩, fact22⟩, fact23⟩, fact24⟩, fact25⟩, fact26⟩, fact27⟩, fact28⟩, fact29⟩, fact30⟩, fact31⟩

theorem over : Rows.snapFreesRow.holds Tryz.pinned (OpenSpec.ofChange Rows.snapFreesSpec) :=
  OpenClaim.holds_of_wide 3 Tryz.f3 rfl rfl rfl rfl rfl rfl rfl ⟨rfl, rfl, rfl, rfl, rfl⟩ rfl rfl rfl rfl rfl factN Tryz.func3 joined
    (of_decide_eq_true (by kernel_rfl)) (by unfold Func.isWrapper; first | (rw [if_pos (by decide +kernel)]; kernel_rfl) | (rw [if_neg (by decide +kernel)]; exact ⟨rfl, rfl⟩))
    (fun os started H enc _ => lifted os started H enc)

theorem proved : Rows.SnapFreesCardSaid :=
  Claim7.holds_tied_plain_at .later [] [.data, .pinned] true (true, "423062caa4f29b70d0a0cde0913bad32a6168f09e58a333ac4b71fb9e424bb5c") true over (fun _ h => by cases h) (by kernel_rfl) (fun _ h => by cases h) snapFrees_row_tie rfl ⟨rfl, rfl⟩ factM rfl
    (fun f fn hf ZS => by
      obtain rfl : f = 3 := Option.some.inj (factN.symm.trans hf) |>.symm
      obtain rfl : fn = Tryz.f3 := (Option.some.inj (Tryz.func3.symm.trans ZS)).symm
      refine ⟨factL, fun j t ht => ?_⟩
      rw [Tryz.params3] at ht
      have hm : t ∈ [22, 3] := by rw [← Array.getElem?_toList] at ht; exact List.mem_of_getElem? ht
      simp only [List.mem_cons, List.not_mem_nil, or_false] at hm
      rcases hm with rfl | rfl
      · exact factW22
      · exact factW3)
    factG
#print axioms proved
end Go.Proofs.YtbobcaffmbaadaaGreatDoor.snapFrees

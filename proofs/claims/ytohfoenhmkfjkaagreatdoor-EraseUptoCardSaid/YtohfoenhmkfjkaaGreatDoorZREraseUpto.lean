/- The law 'N0: from its walk to its row. The frame is the aca printed TP; the arguments are read by KRow. -/
import Derived.Test.YtohfoenhmkfjkaaGreatDoorTie
import Derived.Test.YtohfoenhmkfjkaaGreatDoorCards
import Derived.Test.YtohfoenhmkfjkaaGreatDoorZEraseUpto1
import Derived.Test.YtohfoenhmkfjkaaGreatDoorZEraseUpto2
import Derived.Test.YtohfoenhmkfjkaaGreatDoorZEraseUpto3
import Derived.Test.YtohfoenhmkfjkaaGreatDoorZEraseUpto4
import Derived.Test.YtohfoenhmkfjkaaGreatDoorZEraseUpto5
import Derived.Test.YtohfoenhmkfjkaaGreatDoorFAEraseUpto
import Derived.Test.YtohfoenhmkfjkaaGreatDoorFBEraseUpto
import Derived.Lay
namespace Go.Proofs.YtohfoenhmkfjkaaGreatDoor.eraseUpto
open Go.ChangeShapes Go.WideShapes Go.ChangeAt Go.RowKit Go.K
set_option linter.unusedVariables false

theorem own : ownKnob Tryz.prog.godebug = none := by kernel_rfl
theorem laidOut : laidOutB Tryz.prog = true := by kernel_rfl

theorem gdeb : Tryz.prog.globalNamed "math/bits.deBruijn64tab" = some 0 := by kernel_rfl
theorem tdeb : (Tryz.prog.globals[0]?).map (·.type) = some 276 := by kernel_rfl
theorem tab_of_laid {W : World} (h : laidMetH Tryz.prog [("math/bits.deBruijn64tab", Rows.laid_math_bits_deBruijn64tab), ("unicode/utf8.acceptRanges", Rows.laid_unicode_utf8_acceptRanges), ("unicode/utf8.first", Rows.laid_unicode_utf8_first)] W) : ∃ e fr, W.heap[0]? = some (.cells (E0.map fun (k : Nat) => Value.int .u8 (k : Int)).toArray e fr) := by
  rw [MakeChecks.laidMetH_plain _ _ _ (by kernel_rfl)] at h
  obtain ⟨ps, ⟨g0, t0, cs0, f0, p0, q0, TL, ht0, HE, hd0, _⟩, _, _⟩ := h
  obtain rfl := Option.some.inj (gdeb.symm.trans TL)
  obtain rfl := Option.some.inj (tdeb.symm.trans ht0)
  have hb := AF (P := Tryz.prog) (t := 276) (e := 5) (n := 64) (l := E0) Tryz.underlying276 Tryz.underlying5 (by kernel_rfl) (by kernel_rfl) hd0
  obtain ⟨e, fr, h0⟩ := yv gdeb HE
  exact ⟨e, fr, by rw [h0, ← hb]⟩

set_option maxRecDepth 100000 in
theorem lifted (os : Os) (started : os.Started) (H : Type) (enc : TypeId × Value → H) :
    ReturnsInHanded {} Tryz.checked os 13 .any (fun w args => (Rows.eraseUptoSpec.pre enc Tryz.prog Tryz.f13 Rows.eraseUptoRow.domain false w args ∧ laidMetH Tryz.prog [("math/bits.deBruijn64tab", Rows.laid_math_bits_deBruijn64tab), ("unicode/utf8.acceptRanges", Rows.laid_unicode_utf8_acceptRanges), ("unicode/utf8.first", Rows.laid_unicode_utf8_first)] w) ∧ sizedMet enc Tryz.prog Tryz.f13 (OpenSpec.ofChange Rows.eraseUptoSpec) false w args) (Rows.eraseUptoSpec.post enc Tryz.prog Tryz.f13 false true false false) := by
  refine returnsInHanded_of_change_and (C := Tryz.checked) (X := fun w _ => laidMetH Tryz.prog [("math/bits.deBruijn64tab", Rows.laid_math_bits_deBruijn64tab), ("unicode/utf8.acceptRanges", Rows.laid_unicode_utf8_acceptRanges), ("unicode/utf8.first", Rows.laid_unicode_utf8_first)] w) (fun _ _ _ hh h => h.of_heap hh) own started (by kernel_rfl) Tryz.func13
    (ChangeSpec.witness_shaped (enc := enc) (C := Tryz.checked) (os := os) (X := fun w _ => laidMetH Tryz.prog [("math/bits.deBruijn64tab", Rows.laid_math_bits_deBruijn64tab), ("unicode/utf8.acceptRanges", Rows.laid_unicode_utf8_acceptRanges), ("unicode/utf8.first", Rows.laid_unicode_utf8_first)] w) false (World.laidAll Tryz.prog os [("math/bits.deBruijn64tab", Rows.laid_math_bits_deBruijn64tab), ("unicode/utf8.acceptRanges", Rows.laid_unicode_utf8_acceptRanges), ("unicode/utf8.first", Rows.laid_unicode_utf8_first)]) #[.slice none 0 0, .slice none 0 0, .int .i64 0] 8 (World.laidAll_os _ _ _) (World.shaped_of_ZipB (by kernel_rfl) (by kernel_rfl)) (by kernel_rfl) (by kernel_rfl) (by kernel_rfl) (by rw [MakeChecks.laidMetH_plain _ _ _ (by kernel_rfl)]; exact laidMet_laidAll _ (by kernel_rfl) (by kernel_rfl))) ?_
  intro W base args ds gs before KN hW agG jx hL _
  have zx : ∀ (j : Nat) t v, Tryz.f13.params[j]? = some t → args[j]? = some v → Value.okWide Tryz.prog W .any base t v := KN
  have hW' := hW
  obtain ⟨p, q, hA0, hV, rfl, hfz, mS⟩ := hW
  have hA : DataW.TrodAll enc Tryz.prog W 0 (fun _ => true) true Tryz.f13.params.toList args.toList ds p := hA0
  rw [Tryz.params13] at hA zx jx
  obtain ⟨v0, vs0, d0, ds0, p0, q0, acd, rfl, rfl, h0, r0⟩ := trodAll_cons hA
  obtain ⟨v1, vs1, d1, SS, p1, q1, rfl, rfl, rfl, h1, r1⟩ := trodAll_cons r0
  obtain ⟨v2, vs2, d2, T8, p2, q2, rfl, rfl, rfl, h2, r2⟩ := trodAll_cons r1
  obtain ⟨rfl, rfl, rfl⟩ := trodAll_nil r2
  obtain rfl : args = #[v0, v1, v2] := by cases args; simp_all
  obtain ⟨rfl, rfl⟩ := trodVars_none hV
  obtain ⟨a0, agI, agJ, rfl⟩ := okWide_slice Tryz.underlying36 (zx 0 36 v0 rfl rfl)
  have k0 := h0
  have lt0 : ∀ x ∈ p0, x.block < W.heap.size := by obtain ⟨m, hm⟩ := k0; exact DataW.trod_lt m _ _ _ hm
  obtain ⟨x0, w0⟩ := fP.arg (fP.sl (A := (RT.pair (RT.int .i64) (((RT.pair (RT.str) (RT.str))).sl))) (hn := by decide) Tryz.underlying36 (by kernel_rfl) (nb := 32) (by kernel_rfl) (by decide) (fP.pair Tryz.underlying41 rfl rfl rfl rfl rfl (by kernel_rfl) (by kernel_rfl) (by kernel_rfl) (fP.int Tryz.underlying3) (fP.sl (A := (RT.pair (RT.str) (RT.str))) (hn := by decide) Tryz.underlying39 (by kernel_rfl) (nb := 32) (by kernel_rfl) (by decide) (fP.pair Tryz.underlying127 rfl rfl rfl rfl rfl (by kernel_rfl) (by kernel_rfl) (by kernel_rfl) (fP.str Tryz.underlying9) (fP.str Tryz.underlying9))))) h0 (fun vs _ mu _ => by simp [Value.cells] at mu; subst mu; rfl) (fun n hn => by have := List.all_eq_true.1 jx n (DataW.weights_mem_each (j := 0) rfl rfl n hn); simpa using this)
  obtain ⟨a1, agL, agM, rfl⟩ := okWide_slice Tryz.underlying98 (zx 1 98 v1 rfl rfl)
  have k1 := h1
  have lt1 : ∀ x ∈ p1, x.block < W.heap.size := by obtain ⟨m, hm⟩ := k1; exact DataW.trod_lt m _ _ _ hm
  obtain ⟨x1, w1⟩ := fP.arg (fP.sl (A := (RT.pair (RT.str) (RT.str))) (hn := by decide) Tryz.underlying98 (by kernel_rfl) (nb := 32) (by kernel_rfl) (by decide) (fP.pair Tryz.underlying47 rfl rfl rfl rfl rfl (by kernel_rfl) (by kernel_rfl) (by kernel_rfl) (fP.str Tryz.underlying9) (fP.str Tryz.underlying9))) h1 (fun vs _ mu _ => by simp [Value.cells] at mu; subst mu; rfl) (fun n hn => by have := List.all_eq_true.1 jx n (DataW.weights_mem_each (j := 1) rfl rfl n hn); simpa using this)
  obtain ⟨a2, rfl, rfl, rfl, w2⟩ := open_int Tryz.underlying3 (zx 2 3 v2 rfl rfl) h2
  clear hA0 KN
  refine (EC (Go.K.um (M := aA) (Lt.none W) w0 w1 (wf_i64 w2) (fun h => h) (tab_of_laid hL))).mono fun e W' ⟨he, ZI⟩ => ?_
  subst he
  exact ⟨_, rfl, _, _, _, [], _, [], hW', trodAll_mk1 (shut_bool Tryz.underlying4 _), (trodAll_cons_mk (Below.trod laidOut (by kernel_rfl) (of_decide_eq_true (by kernel_rfl)) k0 ZI lt0) (trodAll_cons_mk (Below.trod laidOut (by kernel_rfl) (of_decide_eq_true (by kernel_rfl)) k1 ZI lt1) (trodAll_cons_mk (shut_int Tryz.underlying3 w2) trodAll_mk0))), rfl, ZI.frame _, fun h => by cases h⟩

set_option maxRecDepth 100000 in
theorem joined : joinedFacts Tryz.pinned.checked.prog 13 Tryz.f13 Rows.eraseUptoSpec Rows.eraseUptoRow = true := by
  unfold joinedFacts
  exact Bool.and_eq_true_iff.2 ⟨Bool.and_eq_true_iff.2 ⟨Bool.and_eq_true_iff.2 ⟨Bool.and_eq_true_iff.2 ⟨Bool.and_eq_true_iff.2 ⟨Bool.and_eq_true_iff.2 ⟨Bool.and_eq_true_iff.2 ⟨Bool.and_eq_true_iff.2 ⟨Bool.and_eq_true_iff.2 ⟨Bool.and_eq_true_iff.2 ⟨Bool.and_eq_true_iff.2 ⟨Bool.and_eq_true_iff.2 ⟨Bool.and_eq_true_iff.2 ⟨Bool.and_eq_true_iff.2 ⟨Bool.and_eq_true_iff.2 ⟨Bool.and_eq_true_iff.2 ⟨Bool.and_eq_true_iff.2 ⟨Bool.and_eq_true_iff.2 ⟨Bool.and_eq_true_iff.2 ⟨Bool.and_eq_true_iff.2 ⟨Bool.and_eq_true_iff.2 ⟨Bool.and_eq_true_iff.2 ⟨Bool.and_eq_true_iff.2 ⟨Bool.and_eq_true_iff.2 ⟨Bool.and_eq_true_iff.2 ⟨Bool.and_eq_true_iff.2 ⟨Bool.and_eq_true_iff.2 ⟨Bool.and_eq_true_iff.2 ⟨Bool.and_eq_true_iff.2 ⟨Bool.and_eq_true_iff.2 ⟨Bool.and_eq_true_iff.2 ⟨fact0, fact1⟩, fact2⟩, fact3⟩, fact4⟩, fact5⟩, fact6⟩, fact7⟩, fact8⟩, fact9⟩, fact10⟩, fact11⟩, fact12⟩, fact13⟩, fact14⟩, fact15⟩, fact16⟩, fact17⟩, fact18⟩, fact19⟩, fact20⟩, fact21⟩, fact22⟩, fact23⟩, fact24⟩, fact25⟩, fact26⟩, fact27⟩, fact28⟩, fact29⟩, fact30⟩, fact31⟩

theorem over : Rows.eraseUptoRow.holds Tryz.pinned (OpenSpec.ofChange Rows.eraseUptoSpec) :=
  OpenClaim.holds_of_wide 13 Tryz.f13 rfl rfl rfl rfl rfl rfl rfl ⟨rfl, rfl, rfl, rfl, rfl⟩ rfl rfl rfl rfl rfl factN Tryz.func13 joined
    (of_decide_eq_true (by kernel_rfl)) (by unfold Func.isWrapper; first | (rw [if_pos (by decide +kernel)]; kernel_rfl) | (rw [if_neg (by decide +kernel)]; exact ⟨rfl, rfl⟩))
    (fun os started H enc _ => lifted os started H enc)

theorem proved : Rows.EraseUptoCardSaid :=
  Claim7.holds_tied_plain_at .later [] [.data, .data, .pinned] true (true, "261a5d3827e9a151da3e3d812145470ef6b6e1fe1ad9a96c49aea3e373872885") false over (fun _ h => by cases h) (by kernel_rfl) (fun _ h => by cases h) eraseUpto_row_tie rfl ⟨rfl, rfl⟩ factM rfl
    (fun f fn hf ZR => by
      obtain rfl : f = 13 := Option.some.inj (factN.symm.trans hf) |>.symm
      obtain rfl : fn = Tryz.f13 := (Option.some.inj (Tryz.func13.symm.trans ZR)).symm
      refine ⟨factL, fun j t ht => ?_⟩
      rw [Tryz.params13] at ht
      have hm : t ∈ [36, 98, 3] := by rw [← Array.getElem?_toList] at ht; exact List.mem_of_getElem? ht
      simp only [List.mem_cons, List.not_mem_nil, or_false] at hm
      rcases hm with rfl | rfl | rfl
      · exact factW36
      · exact factW98
      · exact factW3)
    factG
#print axioms proved
end Go.Proofs.YtohfoenhmkfjkaaGreatDoor.eraseUpto

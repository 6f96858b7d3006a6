/- The law 'J9: from its walk to its row. The frame is the abg printed SF; the arguments are read by KRow. -/
import Derived.Test.YtohfoenhmkfjkaaGreatDoorTie
import Derived.Test.YtohfoenhmkfjkaaGreatDoorCards
import Derived.Test.YtohfoenhmkfjkaaGreatDoorZEraseJoins1
import Derived.Test.YtohfoenhmkfjkaaGreatDoorZEraseJoins2
import Derived.Test.YtohfoenhmkfjkaaGreatDoorZEraseJoins3
import Derived.Test.YtohfoenhmkfjkaaGreatDoorZEraseJoins4
import Derived.Test.YtohfoenhmkfjkaaGreatDoorZEraseJoins5
import Derived.Test.YtohfoenhmkfjkaaGreatDoorFAEraseJoins
import Derived.Test.YtohfoenhmkfjkaaGreatDoorFBEraseJoins
import Derived.Lay
namespace Go.Proofs.YtohfoenhmkfjkaaGreatDoor.eraseJoins
open Go.ChangeShapes Go.WideShapes Go.ChangeAt Go.RowKit Go.K
set_option linter.unusedVariables false

theorem own : ownKnob Tryz.prog.godebug = none := by kernel_rfl
theorem laidOut : laidOutB Tryz.prog = true := by kernel_rfl

theorem gdeb : Tryz.prog.globalNamed "math/bits.deBruijn64tab" = some 0 := by kernel_rfl
theorem tdeb : (Tryz.prog.globals[0]?).map (·.type) = some 276 := by kernel_rfl
theorem tab_of_laid {W : World} (h : laidMetH Tryz.prog [("math/bits.deBruijn64tab", Rows.laid_math_bits_deBruijn64tab), ("unicode/utf8.acceptRanges", Rows.laid_unicode_utf8_acceptRanges), ("unicode/utf8.first", Rows.laid_unicode_utf8_first)] W) : ∃ e fr, W.heap[0]? = some (.cells (Ej.map fun (k : Nat) => Value.int .u8 (k : Int)).toArray e fr) := by
  rw [MakeChecks.laidMetH_plain _ _ _ (by kernel_rfl)] at h
  obtain ⟨ps, ⟨g0, t0, cs0, f0, p0, q0, hg0, ht0, G2, hd0, _⟩, _, _⟩ := h
  obtain rfl := Option.some.inj (gdeb.symm.trans hg0)
  obtain rfl := Option.some.inj (tdeb.symm.trans ht0)
  have hb := zV (P := Tryz.prog) (t := 276) (e := 5) (n := 64) (l := Ej) Tryz.underlying276 Tryz.underlying5 (by kernel_rfl) (by kernel_rfl) hd0
  obtain ⟨e, fr, h0⟩ := xS gdeb G2
  exact ⟨e, fr, by rw [h0, ← hb]⟩

set_option maxRecDepth 100000 in
theorem lifted (os : Os) (started : os.Started) (H : Type) (enc : TypeId × Value → H) :
    ReturnsInHanded {} Tryz.checked os 12 .any (fun w args => (Rows.eraseJoinsSpec.pre enc Tryz.prog Tryz.f12 Rows.eraseJoinsRow.domain false w args ∧ laidMetH Tryz.prog [("math/bits.deBruijn64tab", Rows.laid_math_bits_deBruijn64tab), ("unicode/utf8.acceptRanges", Rows.laid_unicode_utf8_acceptRanges), ("unicode/utf8.first", Rows.laid_unicode_utf8_first)] w) ∧ sizedMet enc Tryz.prog Tryz.f12 (OpenSpec.ofChange Rows.eraseJoinsSpec) false w args) (Rows.eraseJoinsSpec.post enc Tryz.prog Tryz.f12 false true false false) := by
  refine returnsInHanded_of_change_and (C := Tryz.checked) (X := fun w _ => laidMetH Tryz.prog [("math/bits.deBruijn64tab", Rows.laid_math_bits_deBruijn64tab), ("unicode/utf8.acceptRanges", Rows.laid_unicode_utf8_acceptRanges), ("unicode/utf8.first", Rows.laid_unicode_utf8_first)] w) (fun _ _ _ hh h => h.of_heap hh) own started (by kernel_rfl) Tryz.func12
    (ChangeSpec.witness_shaped (enc := enc) (C := Tryz.checked) (os := os) (X := fun w _ => laidMetH Tryz.prog [("math/bits.deBruijn64tab", Rows.laid_math_bits_deBruijn64tab), ("unicode/utf8.acceptRanges", Rows.laid_unicode_utf8_acceptRanges), ("unicode/utf8.first", Rows.laid_unicode_utf8_first)] w) false (World.laidAll Tryz.prog os [("math/bits.deBruijn64tab", Rows.laid_math_bits_deBruijn64tab), ("unicode/utf8.acceptRanges", Rows.laid_unicode_utf8_acceptRanges), ("unicode/utf8.first", Rows.laid_unicode_utf8_first)]) #[.slice none 0 0, .slice none 0 0, .slice none 0 0, .int .i64 0] 8 (World.laidAll_os _ _ _) (World.shaped_of_ZipB (by kernel_rfl) (by kernel_rfl)) (by kernel_rfl) (by kernel_rfl) (by kernel_rfl) (by rw [MakeChecks.laidMetH_plain _ _ _ (by kernel_rfl)]; exact laidMet_laidAll _ (by kernel_rfl) (by kernel_rfl))) ?_
  intro W base args ds gs before Ka hW af8 iK hL _
  have xh : ∀ (j : Nat) t v, Tryz.f12.params[j]? = some t → args[j]? = some v → Value.okWide Tryz.prog W .any base t v := Ka
  have Yl := hW
  obtain ⟨p, q, hA0, hV, rfl, ZD, mD⟩ := hW
  have hA : DataW.TrodAll enc Tryz.prog W 0 (fun _ => true) true Tryz.f12.params.toList args.toList ds p := hA0
  rw [Tryz.params12] at hA xh iK
  obtain ⟨v0, vs0, d0, ds0, p0, q0, abi, rfl, rfl, h0, r0⟩ := trodAll_cons hA
  obtain ⟨v1, vs1, d1, RW, p1, q1, rfl, rfl, rfl, h1, r1⟩ := trodAll_cons r0
  obtain ⟨v2, vs2, d2, Tb, p2, q2, rfl, rfl, rfl, h2, r2⟩ := trodAll_cons r1
  obtain ⟨v3, vs3, d3, ds3, p3, q3, rfl, rfl, rfl, h3, r3⟩ := trodAll_cons r2
  obtain ⟨rfl, rfl, rfl⟩ := trodAll_nil r3
  obtain rfl : args = #[v0, v1, v2, v3] := by cases args; simp_all
  obtain ⟨rfl, rfl⟩ := trodVars_none hV
  obtain ⟨a0, af9, aga, rfl⟩ := okWide_slice Tryz.underlying36 (xh 0 36 v0 rfl rfl)
  have k0 := h0
  have lt0 : ∀ x ∈ p0, x.block < W.heap.size := by obtain ⟨m, hm⟩ := k0; exact DataW.trod_lt m _ _ _ hm
  obtain ⟨x0, w0⟩ := ep.arg (ep.sl (A := (RT.pair (RT.int .i64) (((RT.pair (RT.str) (RT.str))).sl))) (hn := by decide) Tryz.underlying36 (by kernel_rfl) (nb := 32) (by kernel_rfl) (by decide) (ep.pair Tryz.underlying41 rfl rfl rfl rfl rfl (by kernel_rfl) (by kernel_rfl) (by kernel_rfl) (ep.int Tryz.underlying3) (ep.sl (A := (RT.pair (RT.str) (RT.str))) (hn := by decide) Tryz.underlying39 (by kernel_rfl) (nb := 32) (by kernel_rfl) (by decide) (ep.pair Tryz.underlying127 rfl rfl rfl rfl rfl (by kernel_rfl) (by kernel_rfl) (by kernel_rfl) (ep.str Tryz.underlying9) (ep.str Tryz.underlying9))))) h0 (fun vs _ kU _ => by simp [Value.cells] at kU; subst kU; rfl) (fun n hn => by have := List.all_eq_true.1 iK n (DataW.weights_mem_each (j := 0) rfl rfl n hn); simpa using this)
  obtain ⟨a1, agc, agd, rfl⟩ := okWide_slice Tryz.underlying68 (xh 1 68 v1 rfl rfl)
  have k1 := h1
  have lt1 : ∀ x ∈ p1, x.block < W.heap.size := by obtain ⟨m, hm⟩ := k1; exact DataW.trod_lt m _ _ _ hm
  obtain ⟨x1, w1⟩ := ep.arg (ep.sl (A := (RT.pair ((RT.pair (RT.str) (RT.str))) (RT.int .i64))) (hn := by decide) Tryz.underlying68 (by kernel_rfl) (nb := 40) (by kernel_rfl) (by decide) (ep.pair Tryz.underlying49 rfl rfl rfl rfl rfl (by kernel_rfl) (by kernel_rfl) (by kernel_rfl) (ep.pair Tryz.underlying47 rfl rfl rfl rfl rfl (by kernel_rfl) (by kernel_rfl) (by kernel_rfl) (ep.str Tryz.underlying9) (ep.str Tryz.underlying9)) (ep.int Tryz.underlying3))) h1 (fun vs _ kU _ => by simp [Value.cells] at kU; subst kU; rfl) (fun n hn => by have := List.all_eq_true.1 iK n (DataW.weights_mem_each (j := 1) rfl rfl n hn); simpa using this)
  obtain ⟨a2, agf, agh, rfl⟩ := okWide_slice Tryz.underlying68 (xh 2 68 v2 rfl rfl)
  have k2 := h2
  have lt2 : ∀ x ∈ p2, x.block < W.heap.size := by obtain ⟨m, hm⟩ := k2; exact DataW.trod_lt m _ _ _ hm
  obtain ⟨x2, w2⟩ := ep.arg (ep.sl (A := (RT.pair ((RT.pair (RT.str) (RT.str))) (RT.int .i64))) (hn := by decide) Tryz.underlying68 (by kernel_rfl) (nb := 40) (by kernel_rfl) (by decide) (ep.pair Tryz.underlying49 rfl rfl rfl rfl rfl (by kernel_rfl) (by kernel_rfl) (by kernel_rfl) (ep.pair Tryz.underlying47 rfl rfl rfl rfl rfl (by kernel_rfl) (by kernel_rfl) (by kernel_rfl) (ep.str Tryz.underlying9) (ep.str Tryz.underlying9)) (ep.int Tryz.underlying3))) h2 (fun vs _ kU _ => by simp [Value.cells] at kU; subst kU; rfl) (fun n hn => by have := List.all_eq_true.1 iK n (DataW.weights_mem_each (j := 2) rfl rfl n hn); simpa using this)
  obtain ⟨a3, rfl, rfl, rfl, w3⟩ := open_int Tryz.underlying3 (xh 3 3 v3 rfl rfl) h3
  clear hA0 Ka
  refine (DV (Go.K.ri (M := aC) (Lt.none W) w0 w1 w2 (wf_i64 w3) (fun h => h) (tab_of_laid hL))).mono fun e W' ⟨he, SG⟩ => ?_
  subst he
  exact ⟨_, rfl, _, _, _, [], _, [], Yl, trodAll_mk1 (shut_bool Tryz.underlying4 _), (trodAll_cons_mk (Below.trod laidOut (by kernel_rfl) (of_decide_eq_true (by kernel_rfl)) k0 SG lt0) (trodAll_cons_mk (Below.trod laidOut (by kernel_rfl) (of_decide_eq_true (by kernel_rfl)) k1 SG lt1) (trodAll_cons_mk (Below.trod laidOut (by kernel_rfl) (of_decide_eq_true (by kernel_rfl)) k2 SG lt2) (trodAll_cons_mk (shut_int Tryz.underlying3 w3) trodAll_mk0)))), rfl, SG.frame _, fun h => by cases h⟩

set_option maxRecDepth 100000 in
theorem joined : joinedFacts Tryz.pinned.checked.prog 12 Tryz.f12 Rows.eraseJoinsSpec Rows.eraseJoinsRow = true := by
  unfold joinedFacts
  exact Bool.and_eq_true_iff.2 ⟨Bool.and_eq_true_iff.2 ⟨Bool.and_eq_true_iff.2 ⟨Bool.and_eq_true_iff.2 ⟨Bool.and_eq_true_iff.2 ⟨Bool.and_eq_true_iff.2 ⟨Bool.and_eq_true_iff.2 ⟨Bool.and_eq_true_iff.2 ⟨Bool.and_eq_true_iff.2 ⟨Bool.and_eq_true_iff.2 ⟨Bool.and_eq_true_iff.2 ⟨Bool.and_eq_true_iff.2 ⟨Bool.and_eq_true_iff.2 ⟨Bool.and_eq_true_iff.2 ⟨Bool.and_eq_true_iff.2 ⟨Bool.and_eq_true_iff.2 ⟨Bool.and_eq_true_iff.2 ⟨Bool.and_eq_true_iff.2 ⟨Bool.and_eq_true_iff.2 ⟨Bool.and_eq_true_iff.2 ⟨Bool.and_eq_true_iff.2 ⟨Bool.and_eq_true_iff.2 ⟨Bool.and_eq_true_iff.2 ⟨Bool.and_eq_true_iff.2 ⟨Bool.and_eq_true_iff.2 ⟨Bool.and_eq_true_iff.2 ⟨Bool.and_eq_true_iff.2 ⟨Bool.and_eq_true_iff.2 ⟨Bool.and_eq_true_iff.2 ⟨Bool.and_eq_true_iff.2 ⟨Bool.and_eq_true_iff.2 ⟨fact0, fact1⟩, fact2⟩, fact3⟩, fact4⟩, fact5⟩, fact6⟩, fact7⟩, fact8⟩, fact9⟩, fact10⟩, fact11⟩, fact12⟩, fact13⟩, fact14⟩, fact15⟩, fact16⟩, fact17⟩, fact18⟩, fact19⟩, fact20⟩, fact21⟩, fact22⟩, fact23⟩, fact24⟩, fact25⟩, fact26⟩, fact27⟩, fact28⟩, fact29⟩, fact30⟩, fact31⟩

theorem over : Rows.eraseJoinsRow.holds Tryz.pinned (OpenSpec.ofChange Rows.eraseJoinsSpec) :=
  OpenClaim.holds_of_wide 12 Tryz.f12 rfl rfl rfl rfl rfl rfl rfl ⟨rfl, rfl, rfl, rfl, rfl⟩ rfl rfl rfl rfl rfl factN Tryz.func12 joined
    (of_decide_eq_true (by kernel_rfl)) (by unfold Func.isWrapper; first | (rw [if_pos (by decide +kernel)]; kernel_rfl) | (rw [if_neg (by decide +kernel)]; exact ⟨rfl, rfl⟩))
    (fun os started H enc _ => lifted os started H enc)

theorem proved : Rows.EraseJoinsCardSaid :=
  Claim7.holds_tied_plain_at .later [] [.data, .data, .pinned] true (true, "261a5d3827e9a151da3e3d812145470ef6b6e1fe1ad9a96c49aea3e373872885") false over (fun _ h => by cases h) (by kernel_rfl) (fun _ h => by cases h) eraseJoins_row_tie rfl ⟨rfl, rfl⟩ factM rfl
    (fun f fn hf YQ => by
      obtain rfl : f = 12 := Option.some.inj (factN.symm.trans hf) |>.symm
      obtain rfl : fn = Tryz.f12 := (Option.some.inj (Tryz.func12.symm.trans YQ)).symm
      refine ⟨factL, fun j t ht => ?_⟩
      rw [Tryz.params12] at ht
      have hm : t ∈ [36, 68, 68, 3] := by rw [← Array.getElem?_toList] at ht; exact List.mem_of_getElem? ht
      simp only [List.mem_cons, List.not_mem_nil, or_false] at hm
      rcases hm with rfl | rfl | rfl | rfl
      · exact factW36
      · exact factW68
      · exact factW68
      · exact factW3)
    factG
#print axioms proved
end Go.Proofs.YtohfoenhmkfjkaaGreatDoor.eraseJoins

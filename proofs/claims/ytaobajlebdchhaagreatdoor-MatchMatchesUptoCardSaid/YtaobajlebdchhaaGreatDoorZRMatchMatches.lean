/- The law 'Tg: from its walk to its row. The frame is the atV printed aiT; the arguments are read by KRow. -/
import Derived.Test.YtaobajlebdchhaaGreatDoorTie
import Derived.Test.YtaobajlebdchhaaGreatDoorCards
import Derived.Test.YtaobajlebdchhaaGreatDoorZMatchMatches1
import Derived.Test.YtaobajlebdchhaaGreatDoorZMatchMatches2
import Derived.Test.YtaobajlebdchhaaGreatDoorZMatchMatches3
import Derived.Test.YtaobajlebdchhaaGreatDoorZMatchMatches4
import Derived.Test.YtaobajlebdchhaaGreatDoorZMatchMatches5
import Derived.Test.YtaobajlebdchhaaGreatDoorZMatchMatches6
import Derived.Test.YtaobajlebdchhaaGreatDoorZMatchMatches7
import Derived.Test.YtaobajlebdchhaaGreatDoorFAMatchMatches
import Derived.Test.YtaobajlebdchhaaGreatDoorFBMatchMatches
import Derived.Lay
import Derived.Deep.DeepHandedRow
import Derived.JoinedCond
namespace Go.Proofs.YtaobajlebdchhaaGreatDoor.matchMatches
open Go.ChangeShapes Go.WideShapes Go.ChangeAt Go.RowKit Go.K
set_option linter.unusedVariables false

theorem own : ownKnob Tryz.prog.godebug = none := by kernel_rfl
theorem laidOut : laidOutB Tryz.prog = true := by kernel_rfl

theorem arg_agg {α : Type} {A : RT α} (ha : A.agg = true) (hn : A.n ≠ 1) {v : Value} : ∀ vs : List Value, vs.length = A.n → v.cells.toList = vs → (∀ u ∈ vs, u.oneCell' = true) → v = A.val vs := by
  intro vs hl lN ho
  subst lN
  unfold RT.val
  rw [if_pos ha]
  cases v with
  | agg cs => simp [Value.cells]
  | _ => simp [Value.cells] at hl; omega

theorem gdeb : Tryz.prog.globalNamed "math/bits.deBruijn64tab" = some 1 := by kernel_rfl
theorem tdeb : (Tryz.prog.globals[1]?).map (·.type) = some 389 := by kernel_rfl
theorem tab_of_laid {W : World} (h : laidMetH Tryz.prog [("math/bits.deBruijn64tab", Rows.laid_math_bits_deBruijn64tab), ("unicode/utf8.acceptRanges", Rows.laid_unicode_utf8_acceptRanges), ("unicode/utf8.first", Rows.laid_unicode_utf8_first)] W) : ∃ e fr, W.heap[1]? = some (.cells (Hv.map fun (k : Nat) => Value.int .u8 (k : Int)).toArray e fr) := by
  rw [MakeChecks.laidMetH_plain _ _ _ (by kernel_rfl)] at h
  obtain ⟨ps, ⟨g0, t0, cs0, f0, p0, q0, hg0, ht0, qA, hd0, _⟩, _, _⟩ := h
  obtain rfl := Option.some.inj (gdeb.symm.trans hg0)
  obtain rfl := Option.some.inj (tdeb.symm.trans ht0)
  have hb := HF (P := Tryz.prog) (t := 389) (e := 5) (n := 64) (l := Hv) Tryz.underlying389 Tryz.underlying5 (by kernel_rfl) (by kernel_rfl) hd0
  obtain ⟨e, fr, h0⟩ := ER gdeb qA
  exact ⟨e, fr, by rw [h0, ← hb]⟩
theorem part_le {H : Type} {d : DataW H} {l : List (DataW H)} (h : d ∈ l) : Rows.uptoBulk d ≤ Rows.uptoBulkAll l := by
  induction l with
  | nil => cases h
  | cons x r ih =>
    simp only [Rows.uptoBulkAll]
    cases List.mem_cons.1 h with
    | inl e => subst e; omega
    | inr e => have := ih e; omega
theorem bulkOk {H : Type} : LA (Rows.uptoBulk (H := H)) := ⟨fun bytes => by simp [Rows.uptoBulk], fun e s x hx => by have := part_le hx; simp only [Rows.uptoBulk]; omega, fun p x hx => by have := part_le hx; simp only [Rows.uptoBulk]; omega⟩
theorem arg5 {v : Value} : ∀ vs : List Value, vs.length = 5 → v.cells.toList = vs → (∀ u ∈ vs, u.oneCell' = true) → v = .agg vs.toArray := by
  intro vs hl lN ho
  subst lN
  cases v with
  | agg cs => simp [Value.cells]
  | _ => simp [Value.cells] at hl

theorem reads (os : Os) {H : Type} (enc : TypeId × Value → H) : ∃ x, DataW.whole enc Tryz.prog (((World.laidAll Tryz.prog os [("math/bits.deBruijn64tab", Rows.laid_math_bits_deBruijn64tab), ("unicode/utf8.acceptRanges", Rows.laid_unicode_utf8_acceptRanges), ("unicode/utf8.first", Rows.laid_unicode_utf8_first)]).forCall (fun _ _ => 0) ⟨#[], #[.slice none 0 0, .agg #[.int .i64 0, .string ⟨#[]⟩, .string ⟨#[]⟩, .slice none 0 0, .slice none 0 0], .slice none 0 0], []⟩).memory) Tryz.f6.params.toList Rows.matchMatchesSpec.vars false #[.slice none 0 0, .agg #[.int .i64 0, .string ⟨#[]⟩, .string ⟨#[]⟩, .slice none 0 0, .slice none 0 0], .slice none 0 0].toList 8 = some x ∧ Rows.uptoSmall H (x.1 ++ x.2.1) = true := by
  have h : (match DataW.whole enc Tryz.prog (((World.laidAll Tryz.prog os [("math/bits.deBruijn64tab", Rows.laid_math_bits_deBruijn64tab), ("unicode/utf8.acceptRanges", Rows.laid_unicode_utf8_acceptRanges), ("unicode/utf8.first", Rows.laid_unicode_utf8_first)]).forCall (fun _ _ => 0) ⟨#[], #[.slice none 0 0, .agg #[.int .i64 0, .string ⟨#[]⟩, .string ⟨#[]⟩, .slice none 0 0, .slice none 0 0], .slice none 0 0], []⟩).memory) Tryz.f6.params.toList Rows.matchMatchesSpec.vars false #[.slice none 0 0, .agg #[.int .i64 0, .string ⟨#[]⟩, .string ⟨#[]⟩, .slice none 0 0, .slice none 0 0], .slice none 0 0].toList 8 with | some x => Rows.uptoSmall H (x.1 ++ x.2.1) | none => false) = true := by kernel_rfl
  cases hw : DataW.whole enc Tryz.prog (((World.laidAll Tryz.prog os [("math/bits.deBruijn64tab", Rows.laid_math_bits_deBruijn64tab), ("unicode/utf8.acceptRanges", Rows.laid_unicode_utf8_acceptRanges), ("unicode/utf8.first", Rows.laid_unicode_utf8_first)]).forCall (fun _ _ => 0) ⟨#[], #[.slice none 0 0, .agg #[.int .i64 0, .string ⟨#[]⟩, .string ⟨#[]⟩, .slice none 0 0, .slice none 0 0], .slice none 0 0], []⟩).memory) Tryz.f6.params.toList Rows.matchMatchesSpec.vars false #[.slice none 0 0, .agg #[.int .i64 0, .string ⟨#[]⟩, .string ⟨#[]⟩, .slice none 0 0, .slice none 0 0], .slice none 0 0].toList 8 with
  | none => rw [hw] at h; cases h
  | some x => rw [hw] at h; exact ⟨x, rfl, h⟩
theorem okB {os : Os} : Input.okWideB Tryz.checked.prog ((World.laidAll Tryz.prog os [("math/bits.deBruijn64tab", Rows.laid_math_bits_deBruijn64tab), ("unicode/utf8.acceptRanges", Rows.laid_unicode_utf8_acceptRanges), ("unicode/utf8.first", Rows.laid_unicode_utf8_first)]).forCall (fun _ _ => 0) ⟨#[], #[.slice none 0 0, .agg #[.int .i64 0, .string ⟨#[]⟩, .string ⟨#[]⟩, .slice none 0 0, .slice none 0 0], .slice none 0 0], []⟩) 6 ⟨#[], #[.slice none 0 0, .agg #[.int .i64 0, .string ⟨#[]⟩, .string ⟨#[]⟩, .slice none 0 0, .slice none 0 0], .slice none 0 0], []⟩ = true := by kernel_rfl
set_option maxRecDepth 100000 in
theorem lifted (os : Os) (started : os.Started) (H : Type) (enc : TypeId × Value → H) (F : Stop.Interp) :
    ReturnsInHanded {} Tryz.checked os 6 .any ((Rows.OpenSpec.upto Rows.matchMatchesSpec).preRow enc Tryz.prog Tryz.f6 Rows.matchMatchesUptoRow.domain false Rows.matchMatchesUptoRow.laid) (((Rows.OpenSpec.upto Rows.matchMatchesSpec).at F).post enc Tryz.prog Tryz.f6 false true false false) := by
  obtain ⟨x, hx, hxk⟩ := reads os enc
  refine returnsInHanded_of_row (C := Tryz.checked) (s := Rows.OpenSpec.upto Rows.matchMatchesSpec) own started (by kernel_rfl) Tryz.func6
    ⟨World.laidAll Tryz.prog os [("math/bits.deBruijn64tab", Rows.laid_math_bits_deBruijn64tab), ("unicode/utf8.acceptRanges", Rows.laid_unicode_utf8_acceptRanges), ("unicode/utf8.first", Rows.laid_unicode_utf8_first)], fun _ _ => 0, ⟨#[], #[.slice none 0 0, .agg #[.int .i64 0, .string ⟨#[]⟩, .string ⟨#[]⟩, .slice none 0 0, .slice none 0 0], .slice none 0 0], []⟩, World.laidAll_os _ _ _, World.shaped_of_ZipB (by kernel_rfl) (by kernel_rfl), (Input.okWide_of_okWideB (base := 0) (okB (os := os))).1, (Input.okWide_of_okWideB (okB (os := os))).2,
      OpenSpec.preRow_of_cond 8 hx rfl (fun k hk => by cases hk; exact hxk) (by kernel_rfl) (by rw [MakeChecks.laidMetH_plain _ _ _ (by kernel_rfl)]; exact laidMet_laidAll _ (by kernel_rfl) (by kernel_rfl)), by
      simp only [Assume.holds]
      exact ⟨by simp, by simp, fun _ => Modest.zero, by simp, by simp⟩⟩ ?_
  intro W base args ds gs before Xf hW aAf ahH lC hL _ _
  have ahI : Rows.uptoBulkAll (ds ++ gs) ≤ 1048576 := of_decide_eq_true (ahH _ rfl)
  have BQ : ∀ (j : Nat) t v, Tryz.f6.params[j]? = some t → args[j]? = some v → Value.okWide Tryz.prog W .any base t v := Xf
  have hW' := hW
  obtain ⟨p, q, hA0, hV, rfl, hfz, mY⟩ := hW
  have hA : DataW.TrodAll enc Tryz.prog W 0 (fun _ => true) true Tryz.f6.params.toList args.toList ds p := hA0
  rw [Tryz.params6] at hA BQ lC
  obtain ⟨v0, vs0, d0, ds0, p0, q0, atX, rfl, rfl, h0, r0⟩ := trodAll_cons hA
  obtain ⟨v1, vs1, d1, ds1, p1, q1, rfl, rfl, rfl, h1, r1⟩ := trodAll_cons r0
  obtain ⟨v2, vs2, d2, ds2, p2, q2, rfl, rfl, rfl, h2, r2⟩ := trodAll_cons r1
  obtain ⟨rfl, rfl, rfl⟩ := trodAll_nil r2
  obtain rfl : args = #[v0, v1, v2] := by cases args; simp_all
  obtain ⟨rfl, rfl⟩ := trodVars_none hV
  obtain ⟨a0, aaN, aAh, rfl⟩ := okWide_slice Tryz.underlying22 (BQ 0 22 v0 rfl rfl)
  have k0 := h0
  have lt0 : ∀ x ∈ p0, x.block < W.heap.size := by obtain ⟨m, hm⟩ := k0; exact DataW.trod_lt m _ _ _ hm
  obtain ⟨x0, w0⟩ := iv.arg (iv.sl (A := (RT.pair (RT.int .i64) (((RT.pair (RT.str) (RT.str))).sl))) (hn := by decide) Tryz.underlying22 (by kernel_rfl) (nb := 32) (by kernel_rfl) (by decide) (iv.pair Tryz.underlying72 rfl rfl rfl rfl rfl (by kernel_rfl) (by kernel_rfl) (by kernel_rfl) (iv.int Tryz.underlying3) (iv.sl (A := (RT.pair (RT.str) (RT.str))) (hn := by decide) Tryz.underlying70 (by kernel_rfl) (nb := 32) (by kernel_rfl) (by decide) (iv.pair Tryz.underlying153 rfl rfl rfl rfl rfl (by kernel_rfl) (by kernel_rfl) (by kernel_rfl) (iv.str Tryz.underlying9) (iv.str Tryz.underlying9))))) h0 (fun vs _ lN _ => by simp [Value.cells] at lN; subst lN; rfl) (fun n hn => by have := List.all_eq_true.1 lC n (DataW.weights_mem_each (j := 0) rfl rfl n hn); simpa using this)
  have k1 := h1
  have lt1 : ∀ x ∈ p1, x.block < W.heap.size := by obtain ⟨m, hm⟩ := k1; exact DataW.trod_lt m _ _ _ hm
  obtain ⟨n1, x1, w1, sz1⟩ := eN.ajz (b := Rows.uptoBulk) (B := 1048576) (eN.qy bulkOk Tryz.underlying28 rfl rfl rfl rfl rfl rfl rfl rfl rfl (by kernel_rfl) (by kernel_rfl) (by kernel_rfl) (by kernel_rfl) (by kernel_rfl) Tryz.underlying3 Tryz.underlying24 rfl rfl rfl rfl rfl (by kernel_rfl) (by kernel_rfl) Tryz.underlying9 Tryz.underlying9 Tryz.underlying25 (by kernel_rfl) (by kernel_rfl) Tryz.underlying9 Tryz.underlying26 (by kernel_rfl)) h1 arg5 (fun n hn => by have := List.all_eq_true.1 lC n (DataW.weights_mem_each (j := 1) rfl rfl n hn); simpa using this) (Nat.le_trans (part_le (by simp)) ahI)
  obtain ⟨a2, aAl, aAm, rfl⟩ := okWide_slice Tryz.underlying40 (BQ 2 40 v2 rfl rfl)
  have k2 := h2
  have lt2 : ∀ x ∈ p2, x.block < W.heap.size := by obtain ⟨m, hm⟩ := k2; exact DataW.trod_lt m _ _ _ hm
  obtain ⟨x2, w2⟩ := iv.arg (iv.sl (A := RT.bool) (hn := by decide) Tryz.underlying40 (by kernel_rfl) (nb := 1) (by kernel_rfl) (by decide) (iv.bool Tryz.underlying4)) h2 (fun vs _ lN _ => by simp [Value.cells] at lN; subst lN; rfl) (fun n hn => by have := List.all_eq_true.1 lC n (DataW.weights_mem_each (j := 2) rfl rfl n hn); simpa using this)
  clear hA0 Xf
  refine (N2 (Go.K.vR (M := aC) (Lt.none W) w0 w1 (WV _ sz1) w2 (fun h => h) (tab_of_laid hL))).mono fun e W' ⟨he, bel⟩ => ?_
  subst he
  exact ⟨_, rfl, _, _, _, [], _, [], hW', trodAll_mk1 (shut_bool Tryz.underlying4 _), (trodAll_cons_mk (Below.trod laidOut (by kernel_rfl) (of_decide_eq_true (by kernel_rfl)) k0 bel lt0) (trodAll_cons_mk (Below.trod laidOut (by kernel_rfl) (of_decide_eq_true (by kernel_rfl)) k1 bel lt1) (trodAll_cons_mk (Below.trod laidOut (by kernel_rfl) (of_decide_eq_true (by kernel_rfl)) k2 bel lt2) trodAll_mk0))), rfl, bel.frame _, fun h => by cases h⟩

set_option maxRecDepth 100000 in
theorem joined : joinedFacts Tryz.pinned.checked.prog 6 Tryz.f6 Rows.matchMatchesSpec Rows.matchMatchesUptoRow = true := by
  unfold joinedFacts
  exact Bool.and_eq_true_iff.2 ⟨Bool.and_eq_true_iff.2 ⟨Bool.and_eq_true_iff.2 ⟨Bool.and_eq_true_iff.2 ⟨Bool.and_eq_true_iff.2 ⟨Bool.and_eq_true_iff.2 ⟨Bool.and_eq_true_iff.2 ⟨Bool.and_eq_true_iff.2 ⟨Bool.and_eq_true_iff.2 ⟨Bool.and_eq_true_iff.2 ⟨Bool.and_eq_true_iff.2 ⟨Bool.and_eq_true_iff.2 ⟨Bool.and_eq_true_iff.2 ⟨Bool.and_eq_true_iff.2 ⟨Bool.and_eq_true_iff.2 ⟨Bool.and_eq_true_iff.2 ⟨Bool.and_eq_true_iff.2 ⟨Bool.and_eq_true_iff.2 ⟨Bool.and_eq_true_iff.2 ⟨Bool.and_eq_true_iff.2 ⟨Bool.and_eq_true_iff.2 ⟨Bool.and_eq_true_iff.2 ⟨Bool.and_eq_true_iff.2 ⟨Bool.and_eq_true_iff.2 ⟨Bool.and_eq_true_iff.2 ⟨Bool.and_eq_true_iff.2 ⟨Bool.and_eq_true_iff.2 ⟨Bool.and_eq_true_iff.2 ⟨Bool.and_eq_true_iff.2 ⟨Bool.and_eq_true_iff.2 ⟨Bool.and_eq_true_iff.2 ⟨fact0, fact1⟩, fact2⟩, fact3⟩, fact4⟩, fact5⟩, fact6⟩, fact7⟩, fact8⟩, fact9⟩, fact10⟩, fact11⟩, fact12⟩, fact13⟩, fact14⟩, fact15⟩, fact16⟩, fact17⟩, fact18⟩, fact19⟩, fact20⟩, fact21⟩, fact22⟩, fact23⟩, fact24⟩, fact25⟩, fact26⟩, fact27⟩, fact28⟩, fact29⟩, fact30⟩, fact31⟩

theorem over : Rows.matchMatchesUptoRow.holds Tryz.pinned (Rows.OpenSpec.upto Rows.matchMatchesSpec) :=
  OpenClaim.holds_of_cond 6 Tryz.f6 rfl rfl rfl rfl rfl rfl rfl ⟨rfl, rfl, rfl, rfl, rfl⟩ rfl rfl rfl rfl rfl factN Tryz.func6 joined
    (of_decide_eq_true (by kernel_rfl)) (by unfold Func.isWrapper; first | (rw [if_pos (by decide +kernel)]; kernel_rfl) | (rw [if_neg (by decide +kernel)]; exact ⟨rfl, rfl⟩))
    (fun os started H enc _ F => by rw [OpenClaim.pre_eq_preRow]; exact lifted os started H enc F)

theorem proved : Rows.MatchMatchesUptoCardSaid :=
  Claim7.holds_tied_plain_at .later [] [.data, .data, .pinned] true (true, "3663a88419421c8180bc9331cc64f194b7a7f58d592e5aad8b3194deb6509b3d") false over (fun _ h => by cases h) (by kernel_rfl) (fun _ h => by cases h) matchMatchesUpto_row_tie rfl ⟨rfl, rfl⟩ factM rfl
    (fun f fn hf hfn => by
      obtain rfl : f = 6 := Option.some.inj (factN.symm.trans hf) |>.symm
      obtain rfl : fn = Tryz.f6 := (Option.some.inj (Tryz.func6.symm.trans hfn)).symm
      refine ⟨factL, fun j t ht => ?_⟩
      rw [Tryz.params6] at ht
      have hm : t ∈ [22, 28, 40] := by rw [← Array.getElem?_toList] at ht; exact List.mem_of_getElem? ht
      simp only [List.mem_cons, List.not_mem_nil, or_false] at hm
      rcases hm with rfl | rfl | rfl
      · exact factW22
      · exact factW28
      · exact factW40)
    factG
#print axioms proved
end Go.Proofs.YtaobajlebdchhaaGreatDoor.matchMatches

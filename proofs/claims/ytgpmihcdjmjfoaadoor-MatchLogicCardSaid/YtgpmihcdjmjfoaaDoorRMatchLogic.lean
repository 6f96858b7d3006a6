/- The law 'MatchLogic': from its walk to its row. The frame is the kit's printed shell's; the arguments are read by KRow. -/
import Derived.Test.YtgpmihcdjmjfoaaDoorTie
import Derived.Test.YtgpmihcdjmjfoaaDoorCards
import Derived.Test.YtgpmihcdjmjfoaaDoorKRow
import Derived.Test.YtgpmihcdjmjfoaaDoorKLaid
import Derived.Test.YtgpmihcdjmjfoaaDoorKLawD2
namespace Go.Proofs.YtgpmihcdjmjfoaaDoor.matchLogic
open Go.ChangeShapes Go.WideShapes Go.ChangeAt Go.RowKit Go.K
set_option linter.unusedVariables false

theorem own : ownKnob Tryd.prog.godebug = none := by kernel_rfl
theorem laidOut : laidOutB Tryd.prog = true := by kernel_rfl

theorem gdeb : Tryd.prog.globalNamed "math/bits.deBruijn64tab" = some 0 := by kernel_rfl
theorem tdeb : (Tryd.prog.globals[0]?).map (·.type) = some 64 := by kernel_rfl
theorem door_met (os : Os) (args : Array Value) : laidMetH Tryd.prog [("math/bits.deBruijn64tab", Rows.laid_math_bits_deBruijn64tab)] ((World.doorLaid Tryd.prog 400 os).forCall (fun _ _ => 0) ⟨#[], args, []⟩).memory :=
  laidMetH_of_parts3 (fuel := 8) (laidMet_of_run' 8 (by kernel_rfl) (by kernel_rfl)) (by kernel_rfl) (by kernel_rfl)
theorem tab_of_laid {W : World} (h : laidMetH Tryd.prog [("math/bits.deBruijn64tab", Rows.laid_math_bits_deBruijn64tab)] W) : ∃ e fr, W.heap[0]? = some (.cells (deb.map fun (k : Nat) => Value.int .u8 (k : Int)).toArray e fr) := by
  rw [MakeChecks.laidMetH_plain _ _ _ (by kernel_rfl)] at h
  obtain ⟨ps, ⟨g0, t0, cs0, f0, p0, q0, hg0, ht0, hv0, hd0, _⟩, _, _⟩ := h
  obtain rfl := Option.some.inj (gdeb.symm.trans hg0)
  obtain rfl := Option.some.inj (tdeb.symm.trans ht0)
  have hb := trod_bytes (P := Tryd.prog) (t := 64) (e := 5) (n := 64) (l := deb) Tryd.underlying64 Tryd.underlying5 (by kernel_rfl) (by kernel_rfl) hd0
  obtain ⟨e, fr, h0⟩ := heap_of_var gdeb hv0
  exact ⟨e, fr, by rw [h0, ← hb]⟩

set_option maxRecDepth 100000 in
theorem lifted (os : Os) (started : os.Started) (H : Type) (enc : TypeId × Value → H) :
    ReturnsInHanded {} Tryd.checked os 3 .any (fun w args => (Rows.matchLogicSpec.pre enc Tryd.prog Tryd.f3 Rows.matchLogicRow.domain false w args ∧ laidMetH Tryd.prog [("math/bits.deBruijn64tab", Rows.laid_math_bits_deBruijn64tab)] w) ∧ sizedMet enc Tryd.prog Tryd.f3 (OpenSpec.ofChange Rows.matchLogicSpec) false w args) (Rows.matchLogicSpec.post enc Tryd.prog Tryd.f3 false true false false) := by
  refine returnsInHanded_of_change_and (C := Tryd.checked) (X := fun w _ => laidMetH Tryd.prog [("math/bits.deBruijn64tab", Rows.laid_math_bits_deBruijn64tab)] w) (fun _ _ _ hh h => h.of_heap hh) own started (by kernel_rfl) Tryd.func3
    (ChangeSpec.witness_shaped (enc := enc) (C := Tryd.checked) (os := os) (X := fun w _ => laidMetH Tryd.prog [("math/bits.deBruijn64tab", Rows.laid_math_bits_deBruijn64tab)] w) false (World.doorLaid Tryd.prog 400 os) #[.slice none 0 0, .slice none 0 0] 8 rfl (World.shaped_of_RefB (by kernel_rfl) (by kernel_rfl)) (by kernel_rfl) (by kernel_rfl) (by kernel_rfl) (door_met os _)) ?_
  intro W base args ds gs before hval0 hW hcnd hsz hL _
  have hval : ∀ (j : Nat) t v, Tryd.f3.params[j]? = some t → args[j]? = some v → Value.okWide Tryd.prog W .any base t v := hval0
  have hW' := hW
  obtain ⟨p, q, hA0, hV, rfl, hfz, hnd⟩ := hW
  have hA : DataW.TrodAll enc Tryd.prog W 0 (fun _ => true) true Tryd.f3.params.toList args.toList ds p := hA0
  rw [Tryd.params3] at hA hval hsz
  obtain ⟨v0, vs0, d0, ds0, p0, q0, hargs, rfl, rfl, h0, r0⟩ := trodAll_cons hA
  obtain ⟨v1, vs1, d1, ds1, p1, q1, rfl, rfl, rfl, h1, r1⟩ := trodAll_cons r0
  obtain ⟨rfl, rfl, rfl⟩ := trodAll_nil r1
  obtain rfl : args = #[v0, v1] := by cases args; simp_all
  obtain ⟨rfl, rfl⟩ := trodVars_none hV
  obtain ⟨a0, len0, cap0, rfl⟩ := okWide_slice Tryd.underlying22 (hval 0 22 v0 rfl rfl)
  have k0 := h0
  have lt0 : ∀ x ∈ p0, x.block < W.heap.size := by obtain ⟨m, hm⟩ := k0; exact DataW.trod_lt m _ _ _ hm
  obtain ⟨x0, w0⟩ := Opens.arg (Opens.sl (A := (RT.pair (RT.int .i64) (RT.int .i64))) (hn := by decide) Tryd.underlying22 (by kernel_rfl) (nb := 16) (by kernel_rfl) (by decide) (Opens.pair Tryd.underlying26 rfl rfl rfl rfl rfl (by kernel_rfl) (by kernel_rfl) (by kernel_rfl) (Opens.int Tryd.underlying3) (Opens.int Tryd.underlying3))) h0 (fun vs _ hvs _ => by simp [Value.cells] at hvs; subst hvs; rfl) (fun n hn => by have := List.all_eq_true.1 hsz n (DataW.weights_mem_each (j := 0) rfl rfl n hn); simpa using this)
  obtain ⟨a1, len1, cap1, rfl⟩ := okWide_slice Tryd.underlying22 (hval 1 22 v1 rfl rfl)
  have k1 := h1
  have lt1 : ∀ x ∈ p1, x.block < W.heap.size := by obtain ⟨m, hm⟩ := k1; exact DataW.trod_lt m _ _ _ hm
  obtain ⟨x1, w1⟩ := Opens.arg (Opens.sl (A := (RT.pair (RT.int .i64) (RT.int .i64))) (hn := by decide) Tryd.underlying22 (by kernel_rfl) (nb := 16) (by kernel_rfl) (by decide) (Opens.pair Tryd.underlying26 rfl rfl rfl rfl rfl (by kernel_rfl) (by kernel_rfl) (by kernel_rfl) (Opens.int Tryd.underlying3) (Opens.int Tryd.underlying3))) h1 (fun vs _ hvs _ => by simp [Value.cells] at hvs; subst hvs; rfl) (fun n hn => by have := List.all_eq_true.1 hsz n (DataW.weights_mem_each (j := 1) rfl rfl n hn); simpa using this)
  clear hA0 hval0
  refine (spec_row (Go.K.MatchLogic_spec (M := none') (Lt.none W) w0 w1 (fun h => h) (tab_of_laid hL))).mono fun e W' ⟨he, bel⟩ => ?_
  subst he
  exact ⟨_, rfl, _, _, _, [], _, [], hW', trodAll_mk1 (shut_bool Tryd.underlying4 _), (trodAll_cons_mk (Below.trod laidOut (by kernel_rfl) (of_decide_eq_true (by kernel_rfl)) k0 bel lt0) (trodAll_cons_mk (Below.trod laidOut (by kernel_rfl) (of_decide_eq_true (by kernel_rfl)) k1 bel lt1) trodAll_mk0)), rfl, bel.frame _, fun h => by cases h⟩

theorem over : Rows.matchLogicRow.holds Tryd.pinned (OpenSpec.ofChange Rows.matchLogicSpec) :=
  OpenClaim.holds_of_wide 3 Tryd.f3 rfl rfl rfl rfl rfl rfl rfl ⟨rfl, rfl, rfl, rfl, rfl⟩ rfl rfl rfl rfl rfl (by kernel_rfl) Tryd.func3 (by kernel_rfl)
    (of_decide_eq_true (by kernel_rfl)) (by unfold Func.isWrapper; first | (rw [if_pos (by decide +kernel)]; kernel_rfl) | (rw [if_neg (by decide +kernel)]; exact ⟨rfl, rfl⟩))
    (fun os started H enc _ => lifted os started H enc)

theorem proved : Rows.MatchLogicCardSaid :=
  Claim7.holds_tied_plain_at .later [] [.data] true (true, "439f1915102d584fba3905449594b9d921fa351847b127e4df2681e87658a0c8") false over (fun _ h => by cases h) (by kernel_rfl) (fun _ h => by cases h) matchLogic_row_tie rfl ⟨rfl, rfl⟩ (by kernel_rfl) rfl
    (fun f fn hf hfn => by
      obtain rfl : f = 3 := Option.some.inj ((show Tryd.prog.funcNamed "concordance/concordancelaw13.MatchLogic" = some 3 by kernel_rfl).symm.trans hf) |>.symm
      obtain rfl : fn = Tryd.f3 := (Option.some.inj (Tryd.func3.symm.trans hfn)).symm
      refine ⟨by kernel_rfl, fun j t ht => ?_⟩
      rw [Tryd.params3] at ht
      have hm : t ∈ [22, 22] := by rw [← Array.getElem?_toList] at ht; exact List.mem_of_getElem? ht
      simp only [List.mem_cons, List.not_mem_nil, or_false] at hm
      rcases hm with rfl | rfl
      · exact (show Tryd.prog.wantsStandIn 22 = false by kernel_rfl)
      · exact (show Tryd.prog.wantsStandIn 22 = false by kernel_rfl))
    (by kernel_rfl)
#print axioms proved
end Go.Proofs.YtgpmihcdjmjfoaaDoor.matchLogic

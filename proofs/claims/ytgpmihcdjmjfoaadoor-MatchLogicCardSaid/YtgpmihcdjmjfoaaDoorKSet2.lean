/- The walks of Go functions, operation by operation. -/
import Derived.Test.YtgpmihcdjmjfoaaDoorKTypes
import Derived.Test.YtgpmihcdjmjfoaaDoorKNum
import Derived.Test.YtgpmihcdjmjfoaaDoorKBits
import Derived.Test.YtgpmihcdjmjfoaaDoorKDraw
import Derived.Test.YtgpmihcdjmjfoaaDoorKSet
import Derived.Test.YtgpmihcdjmjfoaaDoorProg
import Derived.KernelRfl
namespace Go.K
open Go.Proofs
namespace TKSet2
theorem E21 : Enters Tryd.prog 21 := enters Tryd.func21 rfl (by decide) -- concordance/bits.New
theorem E22 : Enters Tryd.prog 22 := enters Tryd.func22 rfl (by decide) -- (*concordance/bits.Set).Not
end TKSet2
open TKSet2
set_option linter.unusedVariables false
set_option linter.unusedSimpArgs false
set_option maxRecDepth 10000


theorem notS_bits {ws vs : List Nat} {n : Nat} (hl : ws.length = (n + 63) / 64) (hv : vs.length = (n + 63) / 64) (hr : 0 < n % 64) (h1 : ∀ j, j < 64 * ws.length → bit vs j = !bit ws j) (j : Nat) : bit (vs.set (vs.length - 1) (vs.getD (vs.length - 1) 0 % 2 ^ (n % 64))) j = (decide (j < n) && !bit ws j) := by
  rw [bit_set _ (by omega)]
  by_cases hj : j / 64 = vs.length - 1
  · rw [if_pos hj, Nat.testBit_mod_two_pow]
    have h2 := h1 j (by omega)
    have h3 : (vs.getD (vs.length - 1) 0).testBit (j % 64) = bit vs j := by unfold bit; rw [hj]
    rw [h3, h2]
    congr 1
    exact decide_eq_decide.2 (by omega)
  · rw [if_neg hj]
    by_cases hj2 : j < n
    · rw [h1 j (by omega), decide_eq_true hj2, Bool.true_and]
    · rw [decide_eq_false hj2, Bool.false_and, bit_out (by omega)]
theorem notS_all {ws vs : List Nat} {n : Nat} (hl : ws.length = (n + 63) / 64) (hr : n % 64 = 0) (h1 : ∀ j, j < 64 * ws.length → bit vs j = !bit ws j) (h2 : ∀ j, 64 * ws.length ≤ j → bit vs j = false) (j : Nat) : bit vs j = (decide (j < n) && !bit ws j) := by
  by_cases hj2 : j < n
  · rw [h1 j (by omega), decide_eq_true hj2, Bool.true_and]
  · rw [decide_eq_false hj2, Bool.false_and, h2 j (by omega)]

/-- '(*concordance/bits.Set).Not' -/
theorem NotS_spec {M : PSet} {w0 : World} {n : Nat} {ws : List Nat} {bs bw : Nat} (h : SetAt 59 60 n ws M w0 bs bw) :
    Spec Tryd.prog 22 #[.pointer (some ⟨bs, 0, none⟩)] w0 (fun v' w' => ∃ os ow ws', v' = .pointer (some ⟨os, 0, none⟩) ∧ w0.heap.size ≤ os ∧ w0.heap.size ≤ ow ∧ Step M w0 (ins (ins M ow) os) w' none' ∧ SetAt 59 60 n ws' (ins (ins M ow) os) w' os ow ∧ ∀ j, bit ws' j = (decide (j < n) && !bit ws j)) := by
  have hS := h.s
  have hW := h.w
  have hlen := h.len
  have hok := h.ok
  have hnn := h.nn
  refine spec_of (args := [.pointer (some ⟨bs, 0, none⟩)]) (fn := Tryd.f22) Tryd.func22 rfl (n := 56) Tryd.ntmps22 ?_
  refine T.seq ?_
  refine T.region ?_ -- region 0
  refine Rg.assign rfl rfl ?_
  refine Rg.nil ?_
  refine T.seq ?_
  refine T.region ?_ -- region 1
  refine Rg.move rfl rfl ?_
  refine Rg.nilCheck rfl ⟨_, rfl⟩ rfl ?_
  refine Rg.fieldc Tryd.underlying59 rfl rfl I3 (by decide) rfl rfl ?_
  refine Rg.loadc Tryd.underlying3 rfl rfl rfl (by assumption) rfl ?_
  refine Rg.call rfl rfl E21 (NewS_spec (M := M) hnn) (fun r1 w1 h => ?_)
  obtain ⟨os, ow, rfl, z1, z2, s1, hO1⟩ := h
  obtain ⟨M1, hM1e⟩ : ∃ M1, M1 = ins (ins M ow) os := ⟨_, rfl⟩
  rw [← hM1e] at s1 hO1
  have h1 := h.step s1 (fun h => h) (fun h => h)
  have hS1 := h1.s
  have lbs := lt_of_get hS
  have lbw := lt_of_get hW
  refine Rg.assign rfl rfl ?_
  refine Rg.nil ?_
  refine T.seq ?_
  refine T.seq ?_
  refine T.region ?_ -- region 2
  refine Rg.move rfl rfl ?_
  refine Rg.nilCheck rfl ⟨_, rfl⟩ rfl ?_
  refine Rg.fieldc Tryd.underlying59 rfl rfl I57 (by decide) rfl rfl ?_
  refine Rg.loadc Tryd.underlying57 rfl rfl rfl (by assumption) rfl ?_
  refine Rg.lenraw Tryd.underlying57 rfl rfl ?_
  refine Rg.move rfl rfl ?_
  refine Rg.nil ?_
  refine T.block ?_
  refine T.loop (σ := Nat × List Nat) (fun s => [(0, .pointer (some ⟨bs, 0, none⟩)), (3, .pointer (some ⟨os, 0, none⟩)), (15, .slice (some ⟨bw, 0, none⟩) ws.length ws.length), (16, .int .i64 ws.length), (17, .int .i64 s.1)]) (fun s w => s.1 ≤ ws.length ∧ SetAt 59 60 n ws M1 w bs bw ∧ SetAt 59 60 n s.2 M1 w os ow ∧ (∀ j, j < 64 * s.1 → bit s.2 j = !bit ws j) ∧ (∀ j, 64 * s.1 ≤ j → bit s.2 j = false) ∧ Step M1 w1 M1 w (fun b => b = ow)) (fun s => ws.length - s.1) (0, List.replicate ((n + 63) / 64) 0) (.cons rfl (.cons rfl (.cons rfl (.cons rfl (.cons rfl .nil))))) ?_ ?_ -- loop 0
  · exact ⟨Nat.zero_le _, h1, hO1, fun j hj => by omega, fun j hj => bit_zero _ _, (Step.refl _ _).widen (fun _ h => h.elim) (fun b hb => by rw [hb]; exact hO1.mw)⟩
  · rintro ⟨k, vs⟩ w2 ⟨hk, h2, hO2, hb1, hb2, S2⟩
    dsimp only at hk hO2 hb1 hb2 ⊢
    have hS2 := h2.s
    have hOS := hO2.s
    have hvl := hO2.len
    refine T.seq ?_
    refine T.region ?_ -- region 3
    refine Rg.ilt rfl rfl rfl ?_
    refine Rg.nil ?_
    refine T.seq ?_
    refine T.ifp rfl (fun c3 => ?_) (fun c3 => ?_)
    · -- c3 True
      refine T.skip ?_
      refine T.seq ?_
      refine T.block ?_
      refine T.seq ?_
      refine T.region ?_ -- region 4
      refine Rg.move rfl rfl ?_
      refine Rg.idxc Tryd.underlying57 I60 rfl rfl rfl (by omega) ?_
      refine Rg.loadc Tryd.underlying60 rfl rfl rfl h2.w (v := .int .u64 ((ws.getD (k) 0 : Nat) : Int)) (by rw [show ((k : Int)).toNat = k from by omega]; exact wcells_get (by omega)) ?_
      refine Rg.assign rfl rfl ?_
      refine Rg.assign rfl rfl ?_
      refine Rg.nil ?_
      refine T.region ?_ -- region 5
      refine Rg.move rfl rfl ?_
      refine Rg.nilCheck rfl ⟨_, rfl⟩ rfl ?_
      refine Rg.fieldc Tryd.underlying59 rfl rfl I57 (by decide) rfl rfl ?_
      refine Rg.loadc Tryd.underlying57 rfl rfl rfl (by assumption) rfl ?_
      refine Rg.move rfl rfl ?_
      refine Rg.move rfl rfl ?_
      refine Rg.unxor rfl rfl (hok.get _) ?_
      refine Rg.idxc Tryd.underlying57 I60 rfl rfl rfl (by omega) ?_
      refine Rg.storec (M := M1) (u := .int .u64 ((vs.getD k 0 : Nat) : Int)) I60 rfl rfl hO2.w (by rw [Int.toNat_natCast]; exact wcells_get (by omega)) rfl hO2.mw (fun w5 hW5 s5 => ?_)
      rw [Int.toNat_natCast, wcells_set] at hW5
      refine Rg.nil ?_
      refine T.region ?_ -- region 6
      refine Rg.iadd rfl rfl rfl (by omega) ?_
      refine Rg.move rfl rfl ?_
      refine Rg.nil ?_
      refine ⟨rfl, (k + 1, vs.set k (2 ^ 64 - 1 - ws.getD k 0)), (.cons rfl (.cons rfl (.cons rfl (.cons rfl (.cons rfl .nil))))), ?_, ?_⟩
      · refine ⟨by simp only; omega, h2.step s5 (by omega) (by omega), hO2.put s5 (by simp) hW5 (hO2.ok.set (by omega)), fun j hj => ?_, fun j hj => ?_, S2.trans s5 (fun _ _ h => h)⟩
        · simp only at hj ⊢
          rw [bit_set _ (by omega)]
          by_cases hjk : j / 64 = k
          · rw [if_pos hjk, compl_tb (hok.get _) (by omega)]; unfold bit; rw [hjk]
          · rw [if_neg hjk]; exact hb1 j (by omega)
        · simp only at hj ⊢
          rw [bit_set _ (by omega), if_neg (by omega)]; exact hb2 j (by omega)
      · simp only; omega
    · -- c3 False
      refine T.exit ?_
      refine T.seq ?_
      refine T.seq ?_
      refine T.region ?_ -- region 7
      refine Rg.move rfl rfl ?_
      refine Rg.nilCheck rfl ⟨_, rfl⟩ rfl ?_
      refine Rg.fieldc Tryd.underlying59 rfl rfl I3 (by decide) rfl rfl ?_
      refine Rg.loadc Tryd.underlying3 rfl rfl rfl (by assumption) rfl ?_
      refine Rg.imod rfl rfl rfl (by omega) ?_
      refine Rg.eqv (v' := .int .i64 ((n % 64 : Nat) : Int)) (congrArg _ (by omega)) ?_
      refine Rg.assign rfl rfl ?_
      refine Rg.nil ?_
      refine T.seq ?_
      refine T.region ?_ -- region 8
      refine Rg.move rfl rfl ?_
      refine Rg.igt rfl rfl rfl ?_
      refine Rg.nil ?_
      refine T.ifp rfl (fun c8 => ?_) (fun c8 => ?_)
      · -- c8 True
        have hp2 := Nat.two_pow_pos (n % 64)
        have hp3 : 2 ^ (n % 64) < 2 ^ 64 := Nat.pow_lt_pow_right (by decide) (by omega)
        apply T.drawT (M := M1) mixed [] [Asr.eq _, Asr.eq _, Asr.eq _, Asr.eq (.slice (some ⟨ow, 0, none⟩) vs.length vs.length), Asr.eq _, Asr.eq _, Asr.eq _, Asr.eq (.slice (some ⟨ow, 0, none⟩) vs.length vs.length), Asr.eq (.int .i64 vs.length), Asr.eq (.int .i64 ((vs.length - 1 : Nat) : Int)), Asr.eq (.pointer (some ⟨ow, ((vs.length - 1 : Nat) : Int).toNat, none⟩)), Asr.eq (.int .u64 ((vs.getD (vs.length - 1) 0 : Nat) : Int)), Asr.eq _, Asr.eq (.int .u64 ((2 ^ (n % 64) : Nat) : Int)), Asr.eq (.int .u64 ((2 ^ (n % 64) - 1 : Nat) : Int)), Asr.eq (.int .u64 (((vs.getD (vs.length - 1) 0 % 2 ^ (n % 64)) : Nat) : Int)), Asr.eq (.pointer (some ⟨ow, ((vs.length - 1 : Nat) : Int).toNat, none⟩))] 17 -- region 9
        · rfl
        · rfl
        · rfl
        · rfl
        · rfl
        · exact fun p hp => by cases hp
        · exact UOk.none
        · -- its operations
          refine OblsS.cons ?_ ?_
          · intro wD E sD -- 0
            refine Rg.move rfl rfl ?_
            exact Rg.nil ⟨rfl, rfl, _, rfl, rfl, Step.refl _ _⟩
          refine OblsS.cons ?_ ?_
          · intro wD E sD -- 1
            intro x_ hx_; have hx_ : x_ = _ := hx_; subst x_
            refine Rg.nilCheck rfl ⟨_, rfl⟩ rfl ?_
            exact Rg.nil ⟨rfl, rfl, _, rfl, rfl, Step.refl _ _⟩
          refine OblsS.cons ?_ ?_
          · intro wD E sD -- 2
            intro x_ hx_; have hx_ : x_ = _ := hx_; subst x_
            refine Rg.fieldc Tryd.underlying59 rfl rfl I57 (by decide) rfl rfl ?_
            exact Rg.nil ⟨rfl, rfl, _, rfl, rfl, Step.refl _ _⟩
          refine OblsS.cons ?_ ?_
          · intro wD E sD -- 3
            intro x_ hx_; have hx_ : x_ = _ := hx_; subst x_
            refine Rg.loadc Tryd.underlying57 rfl rfl rfl (Step.same0 sD (by assumption)) rfl ?_
            exact Rg.nil ⟨rfl, rfl, _, rfl, rfl, Step.refl _ _⟩
          refine OblsS.cons ?_ ?_
          · intro wD E sD -- 4
            refine Rg.move rfl rfl ?_
            exact Rg.nil ⟨rfl, rfl, _, rfl, rfl, Step.refl _ _⟩
          refine OblsS.cons ?_ ?_
          · intro wD E sD -- 5
            intro x_ hx_; have hx_ : x_ = _ := hx_; subst x_
            refine Rg.nilCheck rfl ⟨_, rfl⟩ rfl ?_
            exact Rg.nil ⟨rfl, rfl, _, rfl, rfl, Step.refl _ _⟩
          refine OblsS.cons ?_ ?_
          · intro wD E sD -- 6
            intro x_ hx_; have hx_ : x_ = _ := hx_; subst x_
            refine Rg.fieldc Tryd.underlying59 rfl rfl I57 (by decide) rfl rfl ?_
            exact Rg.nil ⟨rfl, rfl, _, rfl, rfl, Step.refl _ _⟩
          refine OblsS.cons ?_ ?_
          · intro wD E sD -- 7
            intro x_ hx_; have hx_ : x_ = _ := hx_; subst x_
            refine Rg.loadc Tryd.underlying57 rfl rfl rfl (Step.same0 sD (by assumption)) rfl ?_
            exact Rg.nil ⟨rfl, rfl, _, rfl, rfl, Step.refl _ _⟩
          refine OblsS.cons ?_ ?_
          · intro wD E sD -- 8
            intro x_ hx_; have hx_ : x_ = _ := hx_; subst x_
            refine Rg.lenraw Tryd.underlying57 rfl rfl ?_
            exact Rg.nil ⟨rfl, rfl, _, rfl, rfl, Step.refl _ _⟩
          refine OblsS.cons ?_ ?_
          · intro wD E sD -- 9
            intro x_ hx_; have hx_ : x_ = _ := hx_; subst x_
            refine Rg.isub rfl rfl rfl (by omega) ?_
            refine Rg.eqv (v' := .int .i64 ((vs.length - 1 : Nat) : Int)) (congrArg _ (by omega)) ?_
            exact Rg.nil ⟨rfl, rfl, _, rfl, rfl, Step.refl _ _⟩
          refine OblsS.cons ?_ ?_
          · intro wD E sD -- 10
            intro x_ hx_; have hx_ : x_ = _ := hx_; subst x_
            intro x_ hx_; have hx_ : x_ = _ := hx_; subst x_
            refine Rg.idxc Tryd.underlying57 I60 rfl rfl rfl (by omega) ?_
            exact Rg.nil ⟨rfl, rfl, _, rfl, rfl, Step.refl _ _⟩
          refine OblsS.cons ?_ ?_
          · intro wD E sD -- 11
            intro x_ hx_; have hx_ : x_ = _ := hx_; subst x_
            refine Rg.loadc Tryd.underlying60 rfl rfl rfl (sD.same0 hO2.w) (v := .int .u64 ((vs.getD (vs.length - 1) 0 : Nat) : Int)) (by rw [Int.toNat_natCast]; exact wcells_get (by omega)) ?_
            exact Rg.nil ⟨rfl, rfl, _, rfl, rfl, Step.refl _ _⟩
          refine OblsS.cons ?_ ?_
          · intro wD E sD -- 12
            refine Rg.move rfl rfl ?_
            exact Rg.nil ⟨rfl, rfl, _, rfl, rfl, Step.refl _ _⟩
          refine OblsS.cons ?_ ?_
          · intro wD E sD -- 13
            intro x_ hx_; have hx_ : x_ = _ := hx_; subst x_
            refine Rg.shl rfl rfl rfl (by omega) ?_
            refine Rg.eqv (v' := .int .u64 ((2 ^ (n % 64) : Nat) : Int)) (congrArg _ (shlw _ (by omega))) ?_
            exact Rg.nil ⟨rfl, rfl, _, rfl, rfl, Step.refl _ _⟩
          refine OblsS.cons ?_ ?_
          · intro wD E sD -- 14
            intro x_ hx_; have hx_ : x_ = _ := hx_; subst x_
            refine Rg.subw rfl rfl rfl ?_
            refine Rg.eqv (v' := .int .u64 ((2 ^ (n % 64) - 1 : Nat) : Int)) (congrArg _ (by rw [show ((2 ^ (n % 64) : Nat) : Int) - 1 = ((2 ^ (n % 64) - 1 : Nat) : Int) from by omega, wrap64u, Nat.mod_eq_of_lt (by omega)])) ?_
            exact Rg.nil ⟨rfl, rfl, _, rfl, rfl, Step.refl _ _⟩
          refine OblsS.cons ?_ ?_
          · intro wD E sD -- 15
            intro x_ hx_; have hx_ : x_ = _ := hx_; subst x_
            intro x_ hx_; have hx_ : x_ = _ := hx_; subst x_
            refine Rg.and rfl rfl rfl ?_
            refine Rg.eqv (v' := .int .u64 (((vs.getD (vs.length - 1) 0 % 2 ^ (n % 64)) : Nat) : Int)) (congrArg _ (by rw [bits64 _ _ (hO2.ok.get _) (by omega), Nat.and_two_pow_sub_one_eq_mod])) ?_
            exact Rg.nil ⟨rfl, rfl, _, rfl, rfl, Step.refl _ _⟩
          refine OblsS.cons ?_ ?_
          · intro wD E sD -- 16
            intro x_ hx_; have hx_ : x_ = _ := hx_; subst x_
            intro x_ hx_; have hx_ : x_ = _ := hx_; subst x_
            intro x_ hx_; have hx_ : x_ = _ := hx_; subst x_
            intro x_ hx_; have hx_ : x_ = _ := hx_; subst x_
            intro x_ hx_; have hx_ : x_ = _ := hx_; subst x_
            intro x_ hx_; have hx_ : x_ = _ := hx_; subst x_
            intro x_ hx_; have hx_ : x_ = _ := hx_; subst x_
            intro x_ hx_; have hx_ : x_ = _ := hx_; subst x_
            intro x_ hx_; have hx_ : x_ = _ := hx_; subst x_
            intro x_ hx_; have hx_ : x_ = _ := hx_; subst x_
            intro x_ hx_; have hx_ : x_ = _ := hx_; subst x_
            intro x_ hx_; have hx_ : x_ = _ := hx_; subst x_
            intro x_ hx_; have hx_ : x_ = _ := hx_; subst x_
            intro x_ hx_; have hx_ : x_ = _ := hx_; subst x_
            intro x_ hx_; have hx_ : x_ = _ := hx_; subst x_
            intro x_ hx_; have hx_ : x_ = _ := hx_; subst x_
            intro x_ hx_; have hx_ : x_ = _ := hx_; subst x_
            intro x_ hx_; have hx_ : x_ = _ := hx_; subst x_
            refine Rg.idxc Tryd.underlying57 I60 rfl rfl rfl (by omega) ?_
            exact Rg.nil ⟨rfl, rfl, _, rfl, rfl, Step.refl _ _⟩
          exact OblsS.nil
        · -- behind it
          intro wD9 sD9
          intro x_ hx_; have hx_ : x_ = _ := hx_; subst x_
          intro x_ hx_; have hx_ : x_ = _ := hx_; subst x_
          intro x_ hx_; have hx_ : x_ = _ := hx_; subst x_
          intro x_ hx_; have hx_ : x_ = _ := hx_; subst x_
          intro x_ hx_; have hx_ : x_ = _ := hx_; subst x_
          intro x_ hx_; have hx_ : x_ = _ := hx_; subst x_
          intro x_ hx_; have hx_ : x_ = _ := hx_; subst x_
          intro x_ hx_; have hx_ : x_ = _ := hx_; subst x_
          intro x_ hx_; have hx_ : x_ = _ := hx_; subst x_
          intro x_ hx_; have hx_ : x_ = _ := hx_; subst x_
          intro x_ hx_; have hx_ : x_ = _ := hx_; subst x_
          intro x_ hx_; have hx_ : x_ = _ := hx_; subst x_
          intro x_ hx_; have hx_ : x_ = _ := hx_; subst x_
          intro x_ hx_; have hx_ : x_ = _ := hx_; subst x_
          intro x_ hx_; have hx_ : x_ = _ := hx_; subst x_
          intro x_ hx_; have hx_ : x_ = _ := hx_; subst x_
          intro x_ hx_; have hx_ : x_ = _ := hx_; subst x_
          refine Rg.storec (M := M1) (u := .int .u64 ((vs.getD (vs.length - 1) 0 : Nat) : Int)) I60 rfl rfl (sD9.same0 hO2.w) (by rw [Int.toNat_natCast]; exact wcells_get (by omega)) rfl hO2.mw (fun w9 hW9 s9 => ?_)
          rw [Int.toNat_natCast, wcells_set] at hW9
          refine Rg.nil ?_
          refine T.seq ?_
          refine T.region ?_ -- region 10
          refine Rg.move rfl rfl ?_
          refine Rg.assign rfl rfl ?_
          refine Rg.nil ?_
          refine T.ret ?_
          have hkk : k = ws.length := by omega
          first
          | exact Kret1 rfl rfl ⟨os, ow, vs.set (vs.length - 1) (vs.getD (vs.length - 1) 0 % 2 ^ (n % 64)), rfl, z1, z2, by rw [← hM1e]; exact (s1.transNew S2 (fun b hb => by omega)).trans0 sD9 |>.transNew s9 (fun b hb => by omega), by rw [← hM1e]; exact (hO2.step sD9 (fun h => h) (fun h => h)).put s9 (by simp) hW9 (hO2.ok.set (Nat.lt_of_le_of_lt (Nat.mod_le _ _) (hO2.ok.get _))), fun j => notS_bits hlen hvl (by omega) (by rw [← hkk]; exact hb1) j⟩
          | exact Kret1 rfl rfl ⟨os, ow, vs, rfl, z1, z2, by rw [← hM1e]; exact s1.transNew S2 (fun b hb => by omega), by rw [← hM1e]; exact hO2, fun j => notS_all hlen (by omega) (by rw [← hkk]; exact hb1) (by rw [← hkk]; exact hb2) j⟩
      · -- c8 False
        refine T.skip ?_
        refine T.seq ?_
        refine T.region ?_ -- region 10
        refine Rg.move rfl rfl ?_
        refine Rg.assign rfl rfl ?_
        refine Rg.nil ?_
        refine T.ret ?_
        have hkk : k = ws.length := by omega
        first
        | exact Kret1 rfl rfl ⟨os, ow, vs.set (vs.length - 1) (vs.getD (vs.length - 1) 0 % 2 ^ (n % 64)), rfl, z1, z2, by rw [← hM1e]; exact (s1.transNew S2 (fun b hb => by omega)).trans0 sD9 |>.transNew s9 (fun b hb => by omega), by rw [← hM1e]; exact (hO2.step sD9 (fun h => h) (fun h => h)).put s9 (by simp) hW9 (hO2.ok.set (Nat.lt_of_le_of_lt (Nat.mod_le _ _) (hO2.ok.get _))), fun j => notS_bits hlen hvl (by omega) (by rw [← hkk]; exact hb1) j⟩
        | exact Kret1 rfl rfl ⟨os, ow, vs, rfl, z1, z2, by rw [← hM1e]; exact s1.transNew S2 (fun b hb => by omega), by rw [← hM1e]; exact hO2, fun j => notS_all hlen (by omega) (by rw [← hkk]; exact hb1) (by rw [← hkk]; exact hb2) j⟩

/-- 'concordance/bits.Full' -/
theorem Full_spec {M : PSet} {w0 : World} {n : Nat} (hn : n ≤ 1099511627776) :
    Spec Tryd.prog 15 #[.int .i64 n] w0 (fun v' w' => ∃ os ow ws' M', v' = .pointer (some ⟨os, 0, none⟩) ∧ w0.heap.size ≤ os ∧ w0.heap.size ≤ ow ∧ Step M w0 M' w' none' ∧ SetAt 59 60 n ws' M' w' os ow ∧ ∀ j, bit ws' j = decide (j < n)) := by
  refine spec_of (args := [.int .i64 n]) (fn := Tryd.f15) Tryd.func15 rfl (n := 6) Tryd.ntmps15 ?_
  refine T.seq ?_
  refine T.region ?_ -- region 0
  refine Rg.assign rfl rfl ?_
  refine Rg.nil ?_
  refine T.seq ?_
  refine T.region ?_ -- region 1
  refine Rg.move rfl rfl ?_
  refine Rg.call rfl rfl E21 (NewS_spec (M := M) hn) (fun r1 w1 h => ?_)
  obtain ⟨bs, bw, rfl, z1, z2, s1, h1⟩ := h
  refine Rg.call rfl rfl E22 (NotS_spec h1) (fun r2 w2 h => ?_)
  obtain ⟨os, ow, ws', rfl, z3, z4, s2, h2, hb⟩ := h
  have y1 := s1.size
  refine Rg.assign rfl rfl ?_
  refine Rg.nil ?_
  refine T.ret ?_
  exact Kret1 rfl rfl ⟨os, ow, ws', _, rfl, by omega, by omega, s1.trans0 s2, h2, fun j => by rw [hb j, bit_zero]; simp⟩

end Go.K

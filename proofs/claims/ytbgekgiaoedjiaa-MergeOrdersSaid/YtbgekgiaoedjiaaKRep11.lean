/- The walks of Go functions, operation by operation. -/
import Derived.Test.YtbgekgiaoedjiaaKTypes
import Derived.Test.YtbgekgiaoedjiaaKNum
import Derived.Test.YtbgekgiaoedjiaaKBits
import Derived.Test.YtbgekgiaoedjiaaKHp
import Derived.Test.YtbgekgiaoedjiaaKFloat
import Derived.Test.YtbgekgiaoedjiaaKMul
import Derived.Test.YtbgekgiaoedjiaaProg
import Derived.KernelRfl
namespace Go.K
open Go.Proofs
namespace TKRep11
theorem E26 : Enters Try.prog 26 := enters Try.func26 rfl (by decide) -- math/bits.Mul
end TKRep11
open TKRep11
set_option linter.unusedVariables false
set_option linter.unusedSimpArgs false
set_option maxRecDepth 10000

theorem addr_add (b o i : Nat) : (⟨b, o, none⟩ : Addr).add i = ⟨b, o + i, none⟩ := by simp [Addr.add]
/-- a row of one number, and behind it zeros -/
def filled (n k : Nat) (x : Int) : List Int := List.replicate k x ++ List.replicate (n - k) 0
theorem filled_len {n k : Nat} {x : Int} (h : k ≤ n) : (filled n k x).length = n := by unfold filled; simp; omega
theorem filled_all (n : Nat) (x : Int) : filled n n x = List.replicate n x := by unfold filled; simp
theorem filled_get {n k j : Nat} {x : Int} (h : j < k) : (filled n k x)[j]? = some x := by unfold filled; rw [List.getElem?_append_left (by simpa using h)]; simp [h]
theorem filled_next {n k m : Nat} {x : Int} (h : k + m ≤ n) : (filled n k x).take k ++ List.replicate m x ++ (filled n k x).drop (k + m) = filled n (k + m) x := by
  unfold filled
  rw [List.take_append_of_le_length (by simp), List.take_of_length_le (by simp), List.replicate_append_replicate, List.drop_append, List.drop_of_length_le (by simp), List.nil_append, List.drop_replicate, List.length_replicate]
  congr 2; omega
theorem Own.zeros {M : PSet} {w : World} {e : TypeId} {base g n : Nat} (h : w.heap[g]? = some (.cells (List.replicate n (.int .i64 0)).toArray e (0, 0))) (hb : base ≤ g) (hm : M g) (hn : n ≤ 1099511627776) : Own (RT.int .i64) e M w base (.slice (some ⟨g, 0, none⟩) n n) (List.replicate n 0) := by
  refine ⟨⟨List.replicate n (.int .i64 0), ⟨by simp [RT.int], .inr ⟨g, n, _, by simp, hb, h, by simp, by unfold maxLen; simp; omega, by simp [RT.int], by simp [RT.int]⟩⟩, ?_⟩, fun b hb => by cases hb; exact hm⟩
  have := AllR.of_ints (M := M) (w := w) (κ := .i64) (xs := List.replicate n 0) (fun x hx => by rw [List.eq_of_mem_replicate hx]; decide)
  simpa using this
/-- 'slices.Repeat[[]int,int]' -/
theorem Repeat_spec {M : PSet} {w0 : World} {v : Value} {x : Int} {n : Nat} (hM : Lt M w0) (hv : ((RT.int .i64).sl).V M w0 [x] v) (hn : n ≤ 1073741824) :
    Spec Try.prog 18 #[v, .int .i64 n] w0 (fun v' w' => ∃ M', Own (RT.int .i64) 3 M' w' w0.heap.size v' (List.replicate n x) ∧ Lt M' w' ∧ Step M w0 M' w' none') := by
  have hxr := i64_of hv (i := 0) rfl
  obtain ⟨av, capv, rfl, hcv, _, hsv⟩ := V_sl.1 hv
  obtain ⟨bv, ov, rfl, hbv, hav⟩ := hsv.resolve_left (by simp)
  obtain ⟨vs0, ⟨hvs0, _⟩, hrx⟩ := hav 0 x rfl
  subst hvs0
  have hcx : w0.cell? ⟨bv, ov, none⟩ = some (.int .i64 x) := by simpa using hrx 0 _ rfl
  refine spec_of (args := [_, _]) (fn := Try.f18) Try.func18 rfl (n := 48) Try.ntmps18 ?_
  refine T.seq ?_
  refine T.region ?_ -- region 0
  refine Rg.assign rfl rfl ?_
  refine Rg.nil ?_
  refine T.seq ?_
  refine T.seq ?_
  refine T.region ?_ -- region 1
  refine Rg.move rfl rfl ?_
  refine Rg.ilt rfl rfl rfl ?_
  refine Rg.nil ?_
  refine T.iffp rfl (by omega) ?_
  refine T.skip ?_
  refine T.seq ?_
  refine T.region ?_ -- region 3
  refine Rg.move rfl rfl ?_
  refine Rg.lenraw Try.underlying23 rfl rfl ?_
  refine Rg.conv Try.underlying3 Try.underlying56 rfl rfl ?_
  refine Rg.eqv (v' := .int .u64 1) (congrArg _ (by simp only [List.length_singleton]; decide)) ?_
  refine Rg.move rfl rfl ?_
  refine Rg.conv Try.underlying3 Try.underlying56 rfl rfl ?_
  refine Rg.eqv (v' := .int .u64 (n : Int)) (congrArg _ (IntWalk.u64_in _ (by omega))) ?_
  refine Rg.call rfl rfl E26 (Mul_one hn) (fun r wc h => ?_)
  obtain ⟨rfl, rfl⟩ := h
  refine Rg.move rfl rfl ?_
  refine Rg.extract rfl rfl rfl ?_
  refine Rg.extract rfl rfl rfl ?_
  refine Rg.assign rfl rfl ?_
  refine Rg.assign rfl rfl ?_
  refine Rg.nil ?_
  refine T.seq ?_
  refine T.seq ?_
  refine T.region ?_ -- region 4
  refine Rg.move rfl rfl ?_
  refine Rg.igt rfl rfl rfl ?_
  refine Rg.move rfl rfl ?_
  refine Rg.gfalse (g := 23) rfl (by omega) ?_
  refine Rg.gyes rfl rfl ?_
  refine Rg.move rfl rfl ?_
  refine Rg.gyes rfl rfl ?_
  refine Rg.igt rfl rfl rfl ?_
  refine Rg.pickf rfl rfl rfl ?_
  refine Rg.nil ?_
  refine T.iffp rfl (by omega) ?_
  refine T.skip ?_
  refine T.seq ?_
  refine T.region ?_ -- region 6
  refine Rg.move rfl rfl ?_
  refine Rg.conv64 Try.underlying56 Try.underlying3 rfl rfl (by omega) ?_
  refine Rg.mk0 (len := n) M Try.underlying23 I3 rfl rfl rfl rfl (by omega) (by omega) (fun g wg zg zg' gg sg => ?_)
  have ho : Own (RT.int .i64) 3 (ins M g) wg w0.heap.size (.slice (some ⟨g, 0, none⟩) n n) (filled n 0 x) := by unfold filled; simpa using Own.zeros gg zg (.inl rfl) (by omega)
  clear gg
  refine Rg.assign rfl rfl ?_
  refine Rg.nil ?_
  refine T.seq ?_
  refine T.region ?_ -- region 7
  refine Rg.move rfl rfl ?_
  obtain ⟨k0, hk0⟩ : ∃ k0 : Nat, k0 = min 1 n := ⟨_, rfl⟩
  refine Rg.move rfl rfl ?_
  refine Rg.copyi (M := ins M g) (xs := filled n 0 x) (ys := List.replicate k0 x) (o := 0) Try.underlying23 I3 rfl rfl rfl ho (by simp; omega) (by rw [filled_len (by omega), List.length_replicate]; omega) (fun j a hj => ?_) (fun a ha => by rw [List.eq_of_mem_replicate ha]; exact hxr) (fun w7 ho7 s7 => ?_)
  · have hj2 := (List.getElem?_eq_some_iff.1 hj).1
    rw [List.length_replicate] at hj2
    have e : a = x := by rw [List.getElem?_replicate] at hj; split at hj <;> simp_all
    subst e
    obtain rfl : j = 0 := by omega
    have hc := sg.same bv (World.block_lt_of_cell? w0 _ hcx) (fun h => h)
    have : wg.cell? ⟨bv, ov, none⟩ = some (.int .i64 a) := by rw [World.cell?_of_block (w := w0) hc]; exact hcx
    rw [addr_add, Nat.add_zero]; exact this
  rw [List.length_replicate, filled_next (by omega), Nat.zero_add] at ho7
  refine Rg.eqv (v' := .int .i64 (k0 : Int)) (by rw [List.length_replicate]) ?_
  have S7 := sg.transNew s7 (fun b hb => by have hb : b = g := hb; omega)
  refine Rg.assign rfl rfl ?_
  refine Rg.nil ?_
  refine T.seq ?_
  refine T.block ?_
  refine T.loop (σ := Nat) (fun s => [(7, .slice (some ⟨g, 0, none⟩) n n), (8, .int .i64 s)]) (fun s w => s ≤ n ∧ (0 < n → 0 < s) ∧ Own (RT.int .i64) 3 (ins M g) w w0.heap.size (.slice (some ⟨g, 0, none⟩) n n) (filled n s x) ∧ Step M w0 (ins M g) w none') (fun s => n - s) k0 (.cons rfl (.cons rfl .nil)) ?_ ?_ -- loop 0
  · exact ⟨by omega, by omega, ho7, S7⟩
  · rintro k w1 ⟨hk, hk0', ho, S⟩
    refine T.seq ?_
    refine T.seq ?_
    refine T.region ?_ -- region 8
    refine Rg.move rfl rfl ?_
    refine Rg.move rfl rfl ?_
    refine Rg.lenraw Try.underlying23 rfl rfl ?_
    refine Rg.ilt rfl rfl rfl ?_
    refine Rg.nil ?_
    refine T.ifp rfl (fun c8 => ?_) (fun c8 => ?_)
    · -- c8 True
      refine T.skip ?_
      refine T.block ?_
      apply T.drawF 7 [0] (fun b => b = g) mixed rfl rfl rfl rfl -- region 9
      intro wD9 sA9
      have sD9 := sA9 (ins M g)
      refine Rg.move rfl rfl ?_
      refine Rg.nil ⟨rfl, rfl, rfl, ?_⟩
      refine Rg.move rfl rfl ?_
      refine Rg.nil ⟨rfl, rfl, rfl, ?_⟩
      refine Rg.move rfl rfl ?_
      refine Rg.nil ⟨rfl, rfl, rfl, ?_⟩
      refine Rg.dropo Try.underlying23 I3 rfl rfl rfl (by omega) ?_
      refine Rg.eqv (v' := .slice (some ⟨g, k, none⟩) (n - k) (n - k)) (by rw [Int.toNat_natCast, Nat.mul_one]) ?_
      refine Rg.nil ⟨rfl, rfl, rfl, ?_⟩
      refine Rg.move rfl rfl ?_
      refine Rg.nil ⟨rfl, rfl, rfl, ?_⟩
      refine Rg.move rfl rfl ?_
      refine Rg.nil ⟨rfl, rfl, rfl, ?_⟩
      refine Rg.cuto Try.underlying23 I3 rfl rfl rfl (by omega) ?_
      refine Rg.eqv (v' := .slice (some ⟨g, 0, none⟩) k n) (by rw [Int.toNat_natCast]) ?_
      refine Rg.nil ⟨rfl, rfl, rfl, ?_⟩
      refine QRg.nil ?_
      refine ⟨Floats.all ⟨FloatOk.move, trivial⟩, ?_⟩
      have kp := Keep.refl (fun b => b = g) wD9
      refine Rg.copyi (M := ins M g) (xs := filled n k x) (ys := List.replicate (min k (n - k)) x) (o := k) Try.underlying23 I3 rfl rfl rfl (ho.step0 sD9) (by simp) (by rw [filled_len hk, List.length_replicate]; omega) (fun j a hj => ?_) (fun a ha => by rw [List.eq_of_mem_replicate ha]; exact hxr) (fun w7 ho7 s7 => ?_)
      · have hj2 := (List.getElem?_eq_some_iff.1 hj).1
        rw [List.length_replicate] at hj2
        have e : a = x := by rw [List.getElem?_replicate] at hj; split at hj <;> simp_all
        subst e
        have := (ho.step0 sD9).cell (filled_get (n := n) (show j < k by omega))
        rw [addr_add, Nat.zero_add]; exact this
      rw [List.length_replicate, filled_next (by omega)] at ho7
      refine Rg.eqv (v' := .int .i64 ((min k (n - k) : Nat) : Int)) (by rw [List.length_replicate]) ?_
      refine (fun (kp : Keep _ _ _) => Rg.nil ⟨rfl, rfl, kp, ?_⟩) (by first | exact kp | exact kp.go0 (by assumption) | exact kp.goN (by assumption) | exact kp.go (by assumption) (fun _ _ h => by first | exact h | exact h.elim))
      refine Rg.iadd rfl rfl rfl (by omega) ?_
      refine (fun (kp : Keep _ _ _) => Rg.nil ⟨rfl, rfl, kp, ?_⟩) (by first | exact kp | exact kp.go0 (by assumption) | exact kp.goN (by assumption) | exact kp.go (by assumption) (fun _ _ h => by first | exact h | exact h.elim))
      refine Rg.assign rfl rfl ?_
      refine (fun (kp : Keep _ _ _) => Rg.nil ⟨rfl, rfl, kp, ?_⟩) (by first | exact kp | exact kp.go0 (by assumption) | exact kp.goN (by assumption) | exact kp.go (by assumption) (fun _ _ h => by first | exact h | exact h.elim))
      refine TRg.nil ?_
      refine ⟨rfl, k + min k (n - k), (.cons rfl (.cons (congrArg (fun z => some (Value.int .i64 z)) (by omega)) .nil)), ?_, ?_⟩
      · exact ⟨by omega, by omega, ho7, (S.trans0 (sA9 _)).transNew s7 (fun b hb => by have hb : b = g := hb; omega)⟩
      · show n - (k + min k (n - k)) < n - k; omega
    · -- c8 False
      refine T.exit ?_
      refine T.seq ?_
      refine T.region ?_ -- region 10
      refine Rg.move rfl rfl ?_
      refine Rg.assign rfl rfl ?_
      refine Rg.nil ?_
      refine T.ret ?_
      obtain rfl : k = n := by omega
      rw [filled_all] at ho
      exact Kret1 rfl rfl ⟨_, ho, S.lt hM, S⟩

end Go.K

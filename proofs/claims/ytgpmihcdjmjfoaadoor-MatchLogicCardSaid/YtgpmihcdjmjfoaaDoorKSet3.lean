/- The walks of Go functions, operation by operation. -/
import Derived.Test.YtgpmihcdjmjfoaaDoorKTypes
import Derived.Test.YtgpmihcdjmjfoaaDoorKNum
import Derived.Test.YtgpmihcdjmjfoaaDoorKBits
import Derived.Test.YtgpmihcdjmjfoaaDoorKDraw
import Derived.Test.YtgpmihcdjmjfoaaDoorKRange
import Derived.Test.YtgpmihcdjmjfoaaDoorKSet
import Derived.Test.YtgpmihcdjmjfoaaDoorProg
import Derived.KernelRfl
namespace Go.K
open Go.Proofs
namespace TKSet3
theorem E25 : Enters Tryd.prog 25 := enters Tryd.func25 rfl (by decide) -- (*concordance/bits.Set).Next
theorem E30 : Enters Tryd.prog 30 := enters Tryd.func30 rfl (by decide) -- math/bits.TrailingZeros64
end TKSet3
open TKSet3
set_option linter.unusedVariables false
set_option linter.unusedSimpArgs false
set_option maxRecDepth 10000

/-- '(*concordance/bits.Set).Next' -/
theorem NextS_spec {M : PSet} {w0 : World} {n : Nat} {ws : List Nat} {bs bw : Nat} (h : SetAt 59 60 n ws M w0 bs bw) {i : Int} (hi : -1 ≤ i ∧ i ≤ 1099511627776) (hb : ∀ j, bit ws j = true → j < n) (tab : ∃ e fr, w0.heap[0]? = some (.cells (deb.map fun (k : Nat) => Value.int .u8 (k : Int)).toArray e fr)) :
    Spec Tryd.prog 25 #[.pointer (some ⟨bs, 0, none⟩), .int .i64 i] w0 (fun v' w' => (∃ r, v' = .int .i64 r ∧ NextR ws i.toNat r ∧ -1 ≤ r ∧ r ≤ 1099511627776) ∧ w0 = w') := by
  have hS := h.s
  have hW := h.w
  have hlen := h.len
  have hok := h.ok
  have hnn := h.nn
  refine spec_of (args := [.pointer (some ⟨bs, 0, none⟩), .int .i64 i]) (fn := Tryd.f25) Tryd.func25 rfl (n := 36) Tryd.ntmps25 ?_
  refine T.seq ?_
  refine T.region ?_ -- region 0
  refine Rg.assign rfl rfl ?_
  refine Rg.nil ?_
  refine T.seq ?_
  refine T.region ?_ -- region 1
  refine Rg.move rfl rfl ?_
  refine Rg.max2 rfl rfl rfl ?_
  refine Rg.eqv (v' := .int .i64 (i.toNat : Int)) (congrArg _ (by omega)) ?_
  refine Rg.assign rfl rfl ?_
  refine Rg.nil ?_
  refine T.seq ?_
  refine T.block ?_
  refine T.loop (σ := Nat) (fun s => [(0, .pointer (some ⟨bs, 0, none⟩)), (1, .int .i64 s)]) (fun s w => w0 = w ∧ i.toNat ≤ s ∧ (∀ t, i.toNat ≤ t → t < s → bit ws t = false) ∧ s ≤ 1099511627840) (fun s => n + 64 - s) i.toNat (.cons rfl (.cons rfl .nil)) ?_ ?_ -- loop 0
  · exact ⟨rfl, Nat.le_refl _, fun t h1 h2 => by omega, by omega⟩
  · rintro p w1 ⟨rfl, hp, hno, hps⟩
    refine T.seq ?_
    refine T.seq ?_
    refine T.region ?_ -- region 2
    refine Rg.move rfl rfl ?_
    refine Rg.move rfl rfl ?_
    refine Rg.nilCheck rfl ⟨_, rfl⟩ rfl ?_
    refine Rg.fieldc Tryd.underlying59 rfl rfl I3 (by decide) rfl rfl ?_
    refine Rg.loadc Tryd.underlying3 rfl rfl rfl (by assumption) rfl ?_
    refine Rg.ilt rfl rfl rfl ?_
    refine Rg.nil ?_
    refine T.ifp rfl (fun c2 => ?_) (fun c2 => ?_)
    · -- c2 True
      refine T.skip ?_
      refine T.block ?_
      refine T.seq ?_
      refine T.seq ?_
      refine T.region ?_ -- region 3
      refine Rg.move rfl rfl ?_
      refine Rg.nilCheck rfl ⟨_, rfl⟩ rfl ?_
      refine Rg.fieldc Tryd.underlying59 rfl rfl I57 (by decide) rfl rfl ?_
      refine Rg.loadc Tryd.underlying57 rfl rfl rfl (by assumption) rfl ?_
      refine Rg.move rfl rfl ?_
      refine Rg.idiv rfl rfl rfl (by omega) ?_
      refine Rg.idxc Tryd.underlying57 I60 rfl rfl rfl (by omega) ?_
      refine Rg.loadc Tryd.underlying60 rfl rfl rfl hW (v := .int .u64 ((ws.getD (p / 64) 0 : Nat) : Int)) (by rw [show (((p : Int) / 64)).toNat = p / 64 from by omega]; exact wcells_get (by omega)) ?_
      refine Rg.move rfl rfl ?_
      refine Rg.imod rfl rfl rfl (by omega) ?_
      refine Rg.shr rfl rfl rfl (by omega) ?_
      refine Rg.eqv (v' := .int .u64 ((ws.getD (p / 64) 0 / 2 ^ (p % 64) : Nat) : Int)) (congrArg _ (by rw [show ((p : Int) % 64) = ((p % 64 : Nat) : Int) from by omega]; exact shrw _ _ (by omega))) ?_
      refine Rg.assign rfl rfl ?_
      refine Rg.nil ?_
      refine T.seq ?_
      refine T.region ?_ -- region 4
      refine Rg.move rfl rfl ?_
      refine Rg.ine rfl rfl rfl ?_
      refine Rg.nil ?_
      refine T.ifp rfl (fun c4 => ?_) (fun c4 => ?_)
      · -- c4 True
        refine T.seq ?_
        refine T.region ?_ -- region 5
        refine Rg.move rfl rfl ?_
        refine Rg.move rfl rfl ?_
        obtain ⟨k, m, hkm⟩ := odd_part (ws.getD (p / 64) 0 / 2 ^ (p % 64)) (Nat.pos_of_ne_zero fun h => c4 (by rw [h]; rfl))
        have hsm := shift_small (hok.get _) (show p % 64 < 64 by omega) hkm
        have hx64 : ws.getD (p / 64) 0 / 2 ^ (p % 64) < 2 ^ 64 := Nat.lt_of_le_of_lt (Nat.div_le_self _ _) (hok.get _)
        refine Rg.call rfl rfl E30 (Trailing_spec (k := k) (m := m) tab hkm hx64) (fun r wc h => ?_)
        obtain ⟨rfl, rfl⟩ := h
        refine Rg.iadd rfl rfl rfl (by omega) ?_
        refine Rg.assign rfl rfl ?_
        refine Rg.nil ?_
        refine T.ret ?_
        have hlb := fun t ht => (low_bit (k := k) (m := m)).2 t ht
        have hbk : bit ws (p + k) = true := by rw [word_bit hsm, hkm]; exact low_bit.1
        have := hb _ hbk
        exact Kret1 rfl rfl ⟨⟨_, rfl, .inl ⟨p + k, by omega, by omega, hbk, fun t h1 h2 => by
          rcases Nat.lt_or_ge t p with h | h
          · exact hno t h1 h
          · have h3 := word_bit (ws := ws) (i := p) (t := t - p) (by omega)
            rw [show p + (t - p) = t from by omega] at h3
            rw [h3, hkm]; exact hlb _ (by omega)⟩, by omega, by omega⟩, rfl⟩
      · -- c4 False
        have hz0 : ws.getD (p / 64) 0 / 2 ^ (p % 64) = 0 := by
          have := Decidable.not_not.1 c4
          exact Int.ofNat.inj this
        refine T.skip ?_
        refine T.region ?_ -- region 6
        refine Rg.move rfl rfl ?_
        refine Rg.move rfl rfl ?_
        refine Rg.imod rfl rfl rfl (by omega) ?_
        refine Rg.isub rfl rfl rfl (by omega) ?_
        refine Rg.iadd rfl rfl rfl (by omega) ?_
        refine Rg.assign rfl rfl ?_
        refine Rg.nil ?_
        refine ⟨rfl, p + (64 - p % 64), (.cons rfl (.cons (by rw [show ((p + (64 - p % 64) : Nat) : Int) = (p : Int) + (64 - (p : Int) % 64) from by omega]; rfl) .nil)), ?_, ?_⟩
        · refine ⟨rfl, by omega, fun t h1 h2 => ?_, by omega⟩
          rcases Nat.lt_or_ge t p with h | h
          · exact hno t h1 h
          · have h3 := word_bit (ws := ws) (i := p) (t := t - p) (by omega)
            rw [show p + (t - p) = t from by omega] at h3
            rw [h3, hz0]; simp
        · show n + 64 - (p + (64 - p % 64)) < n + 64 - p; omega
    · -- c2 False
      refine T.exit ?_
      refine T.seq ?_
      refine T.region ?_ -- region 7
      refine Rg.assign rfl rfl ?_
      refine Rg.nil ?_
      refine T.ret ?_
      exact Kret1 rfl rfl ⟨⟨_, rfl, .inr ⟨rfl, fun t h1 => by
        rcases Nat.lt_or_ge t p with h | h
        · exact hno t h1 h
        · cases hbt : bit ws t with
          | false => rfl
          | true => have := hb t hbt; omega⟩, by omega, by omega⟩, rfl⟩

/-- '(*concordance/bits.Set).All' -/
theorem AllS_spec {M : PSet} {w0 : World} {bs : Nat} (hM : Lt M w0) :
    Spec Tryd.prog 17 #[.pointer (some ⟨bs, 0, none⟩)] w0 (fun v' w' => ∃ bl, v' = .func (.func 24) #[] #[.pointer (some ⟨bl, 0, none⟩)] ∧ w'.heap[bl]? = some (.cells #[.pointer (some ⟨bs, 0, none⟩)] 33 (0, 0)) ∧ w0.heap.size ≤ bl ∧ Step M w0 M w' none') := by
  refine spec_of (args := [.pointer (some ⟨bs, 0, none⟩)]) (fn := Tryd.f17) Tryd.func17 rfl (n := 4) Tryd.ntmps17 ?_
  refine T.seq ?_
  refine T.region ?_ -- region 0
  refine Rg.box M rfl rfl (fun bl w1 h1 h1' hS s1 => ?_)
  change w1.heap[bl]? = some (.cells #[.pointer (some ⟨bs, 0, none⟩)] _ _) at hS
  refine Rg.assign rfl rfl ?_
  refine Rg.nil ?_
  refine T.seq ?_
  refine T.region ?_ -- region 1
  refine Rg.makeFunc (xs := []) (ys := [.tmp 1]) rfl rfl rfl ?_
  refine Rg.assign rfl rfl ?_
  refine Rg.nil ?_
  refine T.ret ?_
  exact Kret1 rfl rfl ⟨bl, rfl, hS, h1, s1.back⟩

/-- '(*concordance/bits.Set).All$1' -/
theorem AllS1_spec {w0 : World} {n : Nat} {ws : List Nat} {bs bw bl yl : Nat} {J : Nat → PSet → World → Prop} {M : PSet} {Jx : World → Prop} (hb : ∀ j, bit ws j = true → j < n) (hbx : ∀ p M w, J p M w → w.heap[bl]? = some (.cells #[.pointer (some ⟨bs, 0, none⟩)] 33 (0, 0)) ∧ SetAt 59 60 n ws M w bs bw ∧ (∃ e fr, w.heap[0]? = some (.cells (deb.map fun (k : Nat) => Value.int .u8 (k : Int)).toArray e fr))) (hy : ∀ (p j : Nat) (M : PSet) (w : World), J p M w → p ≤ j → bit ws j = true → (∀ t, p ≤ t → t < j → bit ws t = false) → Yield Tryd.prog yl [.int .i64 j].toArray w (fun r w' => ∃ c, r = .bool c ∧ (c = true → ∃ M', J (j + 1) M' w') ∧ (c = false → Jx w'))) (h0 : J 0 M w0) :
    Spec Tryd.prog 24 #[.func (.yield yl) #[] #[], .pointer (some ⟨bl, 0, none⟩)] w0 (fun _ w' => (∃ p M', J p M' w' ∧ ∀ t, p ≤ t → bit ws t = false) ∨ Jx w') := by
  obtain ⟨hl0, hs0, tab0⟩ := hbx _ _ _ h0
  refine spec_of (args := [.func (.yield yl) #[] #[], .pointer (some ⟨bl, 0, none⟩)]) (fn := Tryd.f24) Tryd.func24 rfl (n := 17) Tryd.ntmps24 ?_
  refine T.seq ?_
  refine T.region ?_ -- region 0
  refine Rg.loadc Tryd.underlying33 rfl rfl rfl (by assumption) rfl ?_
  refine Rg.call rfl rfl E25 (NextS_spec hs0 (i := 0) (by omega) hb tab0) (fun r wc h => ?_)
  obtain ⟨⟨r, rfl, hr, hr1, hr2⟩, rfl⟩ := h
  refine Rg.assign rfl rfl ?_
  refine Rg.nil ?_
  refine T.block ?_
  refine T.loop (σ := Nat × Int) (fun s => [(0, .func (.yield yl) #[] #[]), (1, .pointer (some ⟨bl, 0, none⟩)), (3, .int .i64 s.2)]) (fun s w => (∃ M1, J s.1 M1 w) ∧ NextR ws s.1 s.2 ∧ -1 ≤ s.2 ∧ s.2 ≤ 1099511627776 ∧ s.1 ≤ n) (fun s => n + 1 - s.1) (0, r) (.cons rfl (.cons rfl (.cons rfl .nil))) ?_ ?_ -- loop 0
  · exact ⟨⟨M, h0⟩, hr, hr1, hr2, Nat.zero_le _⟩
  · clear hr hr1 hr2
    rintro ⟨p, r⟩ w1 ⟨⟨M1, hJ⟩, hr, hr1, hr2, hpn⟩
    dsimp only at hJ hr hr1 hr2 hpn ⊢
    refine T.seq ?_
    refine T.seq ?_
    refine T.region ?_ -- region 1
    refine Rg.move rfl rfl ?_
    refine Rg.ige rfl rfl rfl ?_
    refine Rg.move rfl rfl ?_
    refine Rg.gsplitp (g := 8) rfl (fun g1_2 => ?_) (fun g1_2 => ?_)
    · -- g1_2 True
      refine Rg.gyes rfl rfl ?_
      refine Rg.move rfl rfl ?_
      refine Rg.gyes rfl rfl ?_
      refine Rg.move rfl rfl ?_
      refine Rg.gyes rfl rfl ?_
      have hrj : ∃ j : Nat, r = j ∧ p ≤ j ∧ bit ws j = true ∧ ∀ t, p ≤ t → t < j → bit ws t = false := by
        rcases hr with h | h
        · exact h
        · omega
      obtain ⟨j, rfl, hpj, hbj, hno⟩ := hrj
      have hjn := hb j hbj
      refine Rg.yield rfl (vs := [.int .i64 j]) rfl rfl (hy p j M1 _ hJ hpj hbj hno) (fun r4 w5 h5 => ?_)
      obtain ⟨c, rfl, hc5, hc6⟩ := h5
      refine Rg.eqv (v' := .bool (decide (c = true))) (by simp) ?_
      refine Rg.pickt rfl rfl rfl ?_
      refine Rg.nil ?_
      refine T.ifp rfl (fun c1 => ?_) (fun c1 => ?_)
      · -- c1 True
        obtain ⟨M2, hJ2⟩ := hc5 c1
        obtain ⟨hl2, hs2, tab2⟩ := hbx _ _ _ hJ2
        refine T.skip ?_
        refine T.seq ?_
        refine T.block ?_
        refine T.skip ?_
        refine T.region ?_ -- region 2
        refine Rg.loadc Tryd.underlying33 rfl rfl rfl (by assumption) rfl ?_
        refine Rg.move rfl rfl ?_
        refine Rg.iadd rfl rfl rfl (by omega) ?_
        refine Rg.call rfl rfl E25 (NextS_spec hs2 (i := (j : Int) + 1) (by have := hs2.nn; omega) hb tab2) (fun r wc h => ?_)
        obtain ⟨⟨r2, rfl, hr2', hr3, hr4⟩, rfl⟩ := h
        refine Rg.assign rfl rfl ?_
        refine Rg.nil ?_
        refine ⟨rfl, (j + 1, r2), (.cons rfl (.cons rfl (.cons rfl .nil))), ?_, ?_⟩
        · refine ⟨⟨M2, hJ2⟩, ?_, hr3, hr4, by simp only; omega⟩
          rw [show ((j : Int) + 1).toNat = j + 1 from by omega] at hr2'
          exact hr2'
        · simp only; omega
      · -- c1 False
        refine T.exit ?_
        change Kret Tryd.prog Tryd.f24 (fun _ w' => (∃ p M', J p M' w' ∧ ∀ t, p ≤ t → bit ws t = false) ∨ Jx w') .normal _ [] _
        first
        | exact Kret0n rfl (.inr (hc6 (by simpa using c1)))
        | (have hnone : ∀ t, p ≤ t → bit ws t = false := by
            rcases hr with ⟨j, h, _⟩ | h
            · omega
            · exact h.2
           exact Kret0n rfl (.inl ⟨p, M1, hJ, hnone⟩))
    · -- g1_2 False
      refine Rg.gno rfl rfl rfl rfl ?_
      refine Rg.gno rfl rfl rfl rfl ?_
      refine Rg.gno rfl rfl rfl rfl ?_
      refine Rg.pickf rfl rfl rfl ?_
      refine Rg.nil ?_
      refine T.iff rfl ?_
      refine T.exit ?_
      change Kret Tryd.prog Tryd.f24 (fun _ w' => (∃ p M', J p M' w' ∧ ∀ t, p ≤ t → bit ws t = false) ∨ Jx w') .normal _ [] _
      first
      | exact Kret0n rfl (.inr (hc6 (by simpa using c1)))
      | (have hnone : ∀ t, p ≤ t → bit ws t = false := by
          rcases hr with ⟨j, h, _⟩ | h
          · omega
          · exact h.2
         exact Kret0n rfl (.inl ⟨p, M1, hJ, hnone⟩))

end Go.K

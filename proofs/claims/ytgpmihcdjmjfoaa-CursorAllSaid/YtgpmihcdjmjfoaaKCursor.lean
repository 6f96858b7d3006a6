/- The walks of Go functions, operation by operation. -/
import Derived.Test.YtgpmihcdjmjfoaaKTypes
import Derived.Test.YtgpmihcdjmjfoaaKNum
import Derived.Test.YtgpmihcdjmjfoaaKPost
import Derived.Test.YtgpmihcdjmjfoaaKPtr
import Derived.Test.YtgpmihcdjmjfoaaKCur
import Derived.Test.YtgpmihcdjmjfoaaKDraw
import Derived.Test.YtgpmihcdjmjfoaaKPosting
import Derived.Test.YtgpmihcdjmjfoaaProg
import Derived.KernelRfl
namespace Go.K
open Go.Proofs
namespace TKCursor
theorem I23 : TI Try.prog 23 (.slice none 0 0) 1 24 := by unfold TI; kernel_rfl -- []int
theorem I28 : TI Try.prog 28 (.slice none 0 0) 1 24 := by unfold TI; kernel_rfl -- []api.Posting
theorem I37 : TI Try.prog 37 (.agg #[(.int .i64 0), (.slice none 0 0)]) 2 32 := by unfold TI; kernel_rfl -- api.Posting
theorem I92 : TI Try.prog 92 (.agg #[(.pointer none), (.int .i64 0), (.slice none 0 0), (.int .i64 0), (.int .i64 0)]) 5 56 := by unfold TI; kernel_rfl -- cursor.Cursor
theorem B92 : placesOf Try.prog 92 = [(0, 1), (1, 1), (2, 1), (3, 1), (4, 1)].map some := by kernel_rfl
theorem E69 : Enters Try.prog 69 := enters Try.func69 rfl (by decide) -- (*concordance/cursor.Cursor).at
theorem E70 : Enters Try.prog 70 := enters Try.func70 rfl (by decide) -- slices.Clone[[]int,int]
end TKCursor
open TKCursor
set_option linter.unusedVariables false
set_option linter.unusedSimpArgs false
set_option maxRecDepth 10000


theorem leftAt_head {l : List Po} {j : Nat} {p : Po} (h : l[j]? = some p) : (leftAt l (j : Int))[0]? = some p := by
  unfold leftAt
  rw [if_neg (by omega), Int.toNat_natCast, List.getElem?_take, if_pos (by omega), List.getElem?_drop]; simpa using h
theorem leftAt_end {l : List Po} {i : Int} (h : (l.length : Int) ≤ i) : leftAt l i = [] := by
  unfold leftAt
  rw [if_neg (by omega), List.drop_eq_nil_of_le (by omega), List.take_nil]
theorem leftAt_neg {l : List Po} {i : Int} (h : i < 0) : leftAt l i = [] := by unfold leftAt; rw [if_pos h]

/-- 'concordance/cursor.New' -/
theorem New6_spec {M : PSet} {w0 : World} {q : Addr} {l : List Po} (hv : PtrTo RT.li M w0 (.pointer (some q)) (mkLi l)) :
    Spec Try.prog 30 #[.pointer (some q)] w0 (fun v' w' => ∃ bc, v' = .pointer (some ⟨bc, 0, none⟩) ∧ w0.heap.size ≤ bc ∧ Step M w0 (ins M bc) w' none' ∧ Cu 92 l (-1) (ins M bc) w' bc) := by
  refine spec_of (args := [.pointer (some q)]) (fn := Try.f30) Try.func30 rfl (n := 12) Try.ntmps30 ?_
  refine T.seq ?_
  refine T.region ?_ -- region 0
  refine Rg.assign rfl rfl ?_
  refine Rg.nil ?_
  refine T.seq ?_
  refine T.seq ?_
  refine T.region ?_ -- region 1
  refine Rg.move rfl rfl ?_
  refine Rg.ptreqnil (v := .pointer (some q)) Try.underlying30 rfl ⟨_, rfl⟩ rfl rfl ?_
  refine Rg.eqv (v' := .bool (decide False)) rfl ?_
  refine Rg.nil ?_
  refine T.iffp rfl ((fun h => h)) ?_
  refine T.skip ?_
  refine T.seq ?_
  refine T.region ?_ -- region 3
  refine Rg.move rfl rfl ?_
  refine Rg.build (places := [(0, 1), (1, 1), (2, 1), (3, 1), (4, 1)]) Try.underlying92 I92 B92 rfl ⟨_, _, rfl, rfl, _, _, rfl, rfl, _, _, rfl, rfl, rfl⟩ (out := [_, _, .slice none 0 0, _, .int .i64 0]) ⟨0, [_], rfl, rfl, by simp [Value.cells], 1, [_], rfl, rfl, by simp [Value.cells], 3, [_], rfl, rfl, by simp [Value.cells], rfl⟩ ?_
  refine Rg.box M rfl rfl (fun bc w1 h1 h1' hS s1 => ?_)
  refine Rg.assign rfl rfl ?_
  refine Rg.nil ?_
  refine T.ret ?_
  exact Kret1 rfl rfl ⟨bc, rfl, h1, s1, .pointer (some q), .slice none 0 0, -1, 0, .inl rfl, hS, hv.le (by decide) s1.le, V_nil, by omega, by omega, fun _ => rfl, fun h => by omega⟩

/-- '(*concordance/cursor.Cursor).Doc' -/
theorem Doc6_spec {M : PSet} {w0 : World} {bc : Nat} {l : List Po} {i : Int} (h : Cu 92 l i M w0 bc) :
    Spec Try.prog 37 #[.pointer (some ⟨bc, 0, none⟩)] w0 (fun v' w' => v' = .int .i64 (docAt l i) ∧ w0 = w') := by
  obtain ⟨p, u, k, cnt, hMb, hb, hp, hu, hi, hk, hk0, hk1⟩ := id h
  refine spec_of (args := [.pointer (some ⟨bc, 0, none⟩)]) (fn := Try.f37) Try.func37 rfl (n := 7) Try.ntmps37 ?_
  refine T.seq ?_
  refine T.region ?_ -- region 0
  refine Rg.assign rfl rfl ?_
  refine Rg.nil ?_
  refine T.seq ?_
  refine T.region ?_ -- region 1
  refine Rg.move rfl rfl ?_
  refine Rg.nilCheck rfl ⟨_, rfl⟩ rfl ?_
  refine Rg.fieldc Try.underlying92 rfl rfl I3 (by decide) rfl rfl ?_
  refine Rg.loadc Try.underlying3 rfl rfl rfl (by assumption) rfl ?_
  refine Rg.assign rfl rfl ?_
  refine Rg.nil ?_
  refine T.ret ?_
  exact Kret1 rfl rfl ⟨rfl, rfl⟩

/-- '(*concordance/cursor.Cursor).at' -/
theorem at6_spec {M : PSet} {w0 : World} {bc : Nat} {l : List Po} {i : Int} (h : Cu 92 l i M w0 bc) (hm : mayPo (-1) l = true) :
    Spec Try.prog 69 #[.pointer (some ⟨bc, 0, none⟩)] w0 (fun v' w' => v' = .bool (decide (0 ≤ i ∧ i < l.length)) ∧ w0 = w') := by
  obtain ⟨p, u, k, cnt, hMb, hb, hp, hu, hi, hk, hk0, hk1⟩ := id h
  have hin := docAt_in hm (i := i)
  refine spec_of (args := [.pointer (some ⟨bc, 0, none⟩)]) (fn := Try.f69) Try.func69 rfl (n := 15) Try.ntmps69 ?_
  refine T.seq ?_
  refine T.region ?_ -- region 0
  refine Rg.assign rfl rfl ?_
  refine Rg.nil ?_
  refine T.seq ?_
  refine T.region ?_ -- region 1
  refine Rg.move rfl rfl ?_
  refine Rg.nilCheck rfl ⟨_, rfl⟩ rfl ?_
  refine Rg.fieldc Try.underlying92 rfl rfl I3 (by decide) rfl rfl ?_
  refine Rg.loadc Try.underlying3 rfl rfl rfl (by assumption) rfl ?_
  refine Rg.ige rfl rfl rfl ?_
  refine Rg.move rfl rfl ?_
  refine Rg.gsplitp (g := 8) rfl (fun g1_5 => ?_) (fun g1_5 => ?_)
  · -- g1_5 True
    refine Rg.gyes rfl rfl ?_
    refine Rg.move rfl rfl ?_
    refine Rg.gyes rfl rfl ?_
    refine Rg.nilCheck rfl ⟨_, rfl⟩ rfl ?_
    refine Rg.gyes rfl rfl ?_
    refine Rg.fieldc Try.underlying92 rfl rfl I3 (by decide) rfl rfl ?_
    refine Rg.gyes rfl rfl ?_
    refine Rg.loadc Try.underlying3 rfl rfl rfl (by assumption) rfl ?_
    refine Rg.gyes rfl rfl ?_
    refine Rg.ilt rfl rfl rfl ?_
    refine Rg.pickt rfl rfl rfl ?_
    refine Rg.assign rfl rfl ?_
    refine Rg.nil ?_
    refine T.ret ?_
    first
    | exact Kret1 rfl rfl ⟨congrArg Value.bool (decide_eq_decide.2 (by omega)), rfl⟩
    | exact Kret1 rfl rfl ⟨congrArg Value.bool (Eq.symm (decide_eq_false (by omega))), rfl⟩
  · -- g1_5 False
    refine Rg.gno rfl rfl rfl rfl ?_
    refine Rg.gno rfl rfl rfl rfl ?_
    refine Rg.gno rfl rfl rfl rfl ?_
    refine Rg.gno rfl rfl rfl rfl ?_
    refine Rg.gno rfl rfl rfl rfl ?_
    refine Rg.pickf rfl rfl rfl ?_
    refine Rg.assign rfl rfl ?_
    refine Rg.nil ?_
    refine T.ret ?_
    first
    | exact Kret1 rfl rfl ⟨congrArg Value.bool (decide_eq_decide.2 (by omega)), rfl⟩
    | exact Kret1 rfl rfl ⟨congrArg Value.bool (Eq.symm (decide_eq_false (by omega))), rfl⟩

/-- 'slices.Clone[[]int,int]' -/
theorem CloneI_spec {M : PSet} {w0 : World} {v : Value} {b : List Int} (hM : Lt M w0) (hv : ((RT.int .i64).sl).V M w0 b v) (hbl : b.length ≤ 1099511627776) :
    Spec Try.prog 70 #[v] w0 (fun v' w' => ((RT.int .i64).sl).V M w' b v' ∧ Step M w0 M w' none') := by
  obtain ⟨a, cap, hva, hc, hl, hs⟩ := V_sl.1 hv
  refine spec_of (args := [v]) (fn := Try.f70) Try.func70 rfl (n := 8) Try.ntmps70 ?_
  refine T.seq ?_
  refine T.region ?_ -- region 0
  refine Rg.assign rfl rfl ?_
  refine Rg.nil ?_
  refine T.seq ?_
  refine T.seq ?_
  refine T.region ?_ -- region 1
  refine Rg.move rfl rfl ?_
  refine Rg.eqv (v' := .slice a b.length cap) hva ?_
  refine Rg.sleqnil Try.underlying23 rfl rfl rfl ?_
  refine Rg.nil ?_
  refine T.ifp rfl (fun c1 => ?_) (fun c1 => ?_)
  · -- c1 True
    refine T.seq ?_
    refine T.region ?_ -- region 2
    refine Rg.assign rfl rfl ?_
    refine Rg.nil ?_
    refine T.ret ?_
    have hb : b = [] := by
      rcases hs with h | ⟨_, _, h, _⟩
      · exact h
      · rw [c1] at h; cases h
    exact Kret1 rfl rfl ⟨by rw [hb]; exact V_nil, Step.refl _ _⟩
  · -- c1 False
    refine T.skip ?_
    refine T.seq ?_
    refine T.region ?_ -- region 3
    refine Rg.sl0 Try.underlying23 I3 M rfl (fun a0 w1 s1 => ?_)
    refine Rg.move rfl rfl ?_
    refine Rg.appendnew (A := RT.int .i64) (hn := by decide) (M := M) Try.underlying23 I3 rfl rfl rfl rfl hv s1.le (s1.lt hM) (by omega) (fun u2 w2 hu2 s2 => ?_)
    refine Rg.assign rfl rfl ?_
    refine Rg.nil ?_
    refine T.ret ?_
    exact Kret1 rfl rfl ⟨hu2, s1.trans0 s2⟩

/-- '(*concordance/cursor.Cursor).Places' -/
theorem Places6_spec {M : PSet} {w0 : World} {bc : Nat} {l : List Po} {i : Int} (h : Cu 92 l i M w0 bc) (hm : mayPo (-1) l = true) (hps : ∀ p ∈ l, p.2.length ≤ 1099511627776) (hM : Lt M w0) :
    Spec Try.prog 40 #[.pointer (some ⟨bc, 0, none⟩)] w0 (fun v' w' => ((RT.int .i64).sl).V M w' (placesAt l i) v' ∧ Step M w0 M w' none') := by
  obtain ⟨p, u, k, cnt, hMb, hb, hp, hu, hi, hk, hk0, hk1⟩ := id h
  refine spec_of (args := [.pointer (some ⟨bc, 0, none⟩)]) (fn := Try.f40) Try.func40 rfl (n := 14) Try.ntmps40 ?_
  refine T.seq ?_
  refine T.region ?_ -- region 0
  refine Rg.assign rfl rfl ?_
  refine Rg.nil ?_
  refine T.seq ?_
  refine T.seq ?_
  refine T.region ?_ -- region 1
  refine Rg.move rfl rfl ?_
  refine Rg.call rfl rfl E69 (at6_spec h hm) (fun r wc h => ?_)
  obtain ⟨rfl, rfl⟩ := h
  refine Rg.not rfl rfl ?_
  refine Rg.eqv (v' := .bool (decide (¬ (0 ≤ i ∧ i < l.length)))) (by rw [decide_not]) ?_
  refine Rg.nil ?_
  refine T.ifp rfl (fun c1 => ?_) (fun c1 => ?_)
  · -- c1 True
    have hno : placesAt l i = [] := by
      rcases docAt_cases l i with ⟨_, _, h0⟩ | ⟨j, d, ps, rfl, hx, _⟩ | ⟨_, _, h0⟩
      · exact h0
      · have := (List.getElem?_eq_some_iff.1 hx).1; omega
      · exact h0
    refine T.seq ?_
    refine T.region ?_ -- region 2
    refine Rg.assign rfl rfl ?_
    refine Rg.nil ?_
    refine T.ret ?_
    exact Kret1 rfl rfl ⟨by rw [hno]; exact V_nil, Step.refl _ _⟩
  · -- c1 False
    obtain ⟨j, d, ps, rfl, hx, hd, hpl⟩ : ∃ j : Nat, ∃ d ps, i = j ∧ l[j]? = some (d, ps) ∧ docAt l i = d ∧ placesAt l i = ps := by
      rcases docAt_cases l i with ⟨h0, _⟩ | h0 | ⟨h0, _⟩
      · omega
      · exact h0
      · omega
    have hh := leftAt_head hx
    have hhl := (List.getElem?_eq_some_iff.1 hh).1
    refine T.skip ?_
    refine T.seq ?_
    refine T.region ?_ -- region 3
    refine Rg.move rfl rfl ?_
    refine Rg.nilCheck rfl ⟨_, rfl⟩ rfl ?_
    refine Rg.fieldc Try.underlying92 rfl rfl I28 (by decide) rfl rfl ?_
    refine Rg.loadc Try.underlying28 rfl rfl rfl (by assumption) rfl ?_

    refine Rg.idx (M := M) Try.underlying28 I37 rfl rfl rfl (hu) (Le.refl _ _) (by omega) (fun u3_4 a3_4 hg3_4 hu3_4 => ?_)
    obtain rfl : (d, ps) = a3_4 := Eq.symm (Option.some.inj (hg3_4.symm.trans (by simpa using hh)))
    refine Rg.fieldAddr (M := M) (A := RT.po) (B := (RT.int .i64).sl) Try.underlying37 rfl rfl I23 (by decide) (po1) rfl rfl (by decide) (by assumption) (by repeat (first | exact Le.refl _ _ | refine Le.trans (Step.le (by assumption)) ?_)) (fun u3_5 hu3_5 => ?_)
    refine Rg.load (M := M) Try.underlying23 rfl rfl rfl rfl rfl (by assumption) (by repeat (first | exact Le.refl _ _ | refine Le.trans (Step.le (by assumption)) ?_)) (fun v3_6 hv3_6 => ?_)
    replace hv3_6 : ((RT.int .i64).sl).V M _ ps v3_6 := hv3_6
    refine Rg.call rfl rfl E70 (CloneI_spec (M := M) hM hv3_6 (hps _ (List.mem_of_getElem? hx))) (fun r wr h => ?_)
    obtain ⟨hr, sr⟩ := h
    refine Rg.assign rfl rfl ?_
    refine Rg.nil ?_
    refine T.ret ?_
    exact Kret1 rfl rfl ⟨by rw [hpl]; exact hr, sr⟩

/-- '(*concordance/cursor.Cursor).Count' -/
theorem Count6_spec {M : PSet} {w0 : World} {bc : Nat} {l : List Po} {i : Int} (h : Cu 92 l i M w0 bc) (hm : mayPo (-1) l = true) :
    Spec Try.prog 72 #[.pointer (some ⟨bc, 0, none⟩)] w0 (fun v' w' => v' = .int .i64 (placesAt l i).length ∧ w0 = w') := by
  obtain ⟨p, u, k, cnt, hMb, hb, hp, hu, hi, hk, hk0, hk1⟩ := id h
  refine spec_of (args := [.pointer (some ⟨bc, 0, none⟩)]) (fn := Try.f72) Try.func72 rfl (n := 14) Try.ntmps72 ?_
  refine T.seq ?_
  refine T.region ?_ -- region 0
  refine Rg.assign rfl rfl ?_
  refine Rg.nil ?_
  refine T.seq ?_
  refine T.seq ?_
  refine T.region ?_ -- region 1
  refine Rg.move rfl rfl ?_
  refine Rg.call rfl rfl E69 (at6_spec h hm) (fun r wc h => ?_)
  obtain ⟨rfl, rfl⟩ := h
  refine Rg.not rfl rfl ?_
  refine Rg.eqv (v' := .bool (decide (¬ (0 ≤ i ∧ i < l.length)))) (by rw [decide_not]) ?_
  refine Rg.nil ?_
  refine T.ifp rfl (fun c1 => ?_) (fun c1 => ?_)
  · -- c1 True
    have hno : placesAt l i = [] := by
      rcases docAt_cases l i with ⟨_, _, h0⟩ | ⟨j, d, ps, rfl, hx, _⟩ | ⟨_, _, h0⟩
      · exact h0
      · have := (List.getElem?_eq_some_iff.1 hx).1; omega
      · exact h0
    refine T.seq ?_
    refine T.region ?_ -- region 2
    refine Rg.assign rfl rfl ?_
    refine Rg.nil ?_
    refine T.ret ?_
    exact Kret1 rfl rfl ⟨by rw [hno]; rfl, rfl⟩
  · -- c1 False
    obtain ⟨j, d, ps, rfl, hx, hd, hpl⟩ : ∃ j : Nat, ∃ d ps, i = j ∧ l[j]? = some (d, ps) ∧ docAt l i = d ∧ placesAt l i = ps := by
      rcases docAt_cases l i with ⟨h0, _⟩ | h0 | ⟨h0, _⟩
      · omega
      · exact h0
      · omega
    have hh := leftAt_head hx
    have hhl := (List.getElem?_eq_some_iff.1 hh).1
    refine T.skip ?_
    refine T.seq ?_
    refine T.region ?_ -- region 3
    refine Rg.move rfl rfl ?_
    refine Rg.nilCheck rfl ⟨_, rfl⟩ rfl ?_
    refine Rg.fieldc Try.underlying92 rfl rfl I28 (by decide) rfl rfl ?_
    refine Rg.loadc Try.underlying28 rfl rfl rfl (by assumption) rfl ?_

    refine Rg.idx (M := M) Try.underlying28 I37 rfl rfl rfl (hu) (Le.refl _ _) (by omega) (fun u3_4 a3_4 hg3_4 hu3_4 => ?_)
    obtain rfl : (d, ps) = a3_4 := Eq.symm (Option.some.inj (hg3_4.symm.trans (by simpa using hh)))
    refine Rg.fieldAddr (M := M) (A := RT.po) (B := (RT.int .i64).sl) Try.underlying37 rfl rfl I23 (by decide) (po1) rfl rfl (by decide) (by assumption) (by repeat (first | exact Le.refl _ _ | refine Le.trans (Step.le (by assumption)) ?_)) (fun u3_5 hu3_5 => ?_)
    refine Rg.load (M := M) Try.underlying23 rfl rfl rfl rfl rfl (by assumption) (by repeat (first | exact Le.refl _ _ | refine Le.trans (Step.le (by assumption)) ?_)) (fun v3_6 hv3_6 => ?_)
    replace hv3_6 : ((RT.int .i64).sl).V M _ ps v3_6 := hv3_6
    refine Rg.lensl Try.underlying23 rfl hv3_6 rfl ?_
    refine Rg.assign rfl rfl ?_
    refine Rg.nil ?_
    refine T.ret ?_
    exact Kret1 rfl rfl ⟨by rw [hpl], rfl⟩


def nextI (l : List Po) (i : Int) : Int := if i < l.length then i + 1 else i
theorem next_adv {l : List Po} (hm : mayPo (-1) l = true) {i : Int} (hi : -1 ≤ i ∧ i ≤ l.length) : advI l i (min (docAt l i + 1) 2147483648) = nextI l i := by
  unfold advI nextI
  rcases docAt_cases l i with ⟨h0, h, _⟩ | ⟨j, d, ps, rfl, hx, h, _⟩ | ⟨h0, h, _⟩
  · rw [h, if_neg (by omega), if_pos (by omega)]
    rw [idx_eq (i := 0) (fun j hj => absurd hj (Nat.not_lt_zero _)) (fun p hp => by have := doc_rng hm (i := 0) (d := p.1) (ps := p.2) hp; omega) (Nat.zero_le _)]
    omega
  · have hr := doc_rng hm hx
    have hj := (List.getElem?_eq_some_iff.1 hx).1
    rw [h, if_neg (by omega), if_pos (by omega)]
    rw [idx_eq (i := j + 1) (fun t ht p hp => ?_) (fun p hp => ?_) (by omega)]
    · omega
    · rcases Nat.lt_or_ge t j with h1 | h1
      · have := docs_lt hm hp hx h1; simp only at this; omega
      · rw [show t = j from by omega, hx] at hp; cases hp; simp only; omega
    · have h1 := docs_lt hm hx hp (by omega)
      have h2 := doc_rng hm (i := j + 1) (d := p.1) (ps := p.2) hp
      simp only at h1; omega
  · rw [h, if_pos (by omega), if_neg (by omega)]

end Go.K

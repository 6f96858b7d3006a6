/- Postings: their layout in memory, and in plain Lean. No program is named here. -/
import Derived.Test.YtohfoenhmkfjkaaGreatDoorKCell
import Derived.Test.YtohfoenhmkfjkaaGreatDoorKPure04
namespace Go.K
set_option linter.unusedVariables false
set_option linter.unusedSimpArgs false
abbrev Po := Int × List Int
abbrev Bl := Int × Int × Int × Int
abbrev Li := List UInt8 × List Bl × Int
abbrev RT.po : RT Po := RT.pair (RT.int .i64) ((RT.int .i64).sl)
abbrev RT.bl : RT Bl := RT.pair (RT.int .i64) (RT.pair (RT.int .i64) (RT.pair (RT.int .i64) (RT.int .i64)))
abbrev RT.li : RT Li := RT.pair (RT.u8.sl) (RT.pair ((RT.bl).sl) (RT.int .i64))

theorem po0 : Part RT.po (RT.int .i64) (fun p => p.1) 0 := Part.fst _ _
theorem po1 : Part RT.po ((RT.int .i64).sl) (fun p => p.2) 1 := Part.snd _ _
theorem bl0 : Part RT.bl (RT.int .i64) (fun b => b.1) 0 := Part.fst _ _
theorem bl1 : Part RT.bl (RT.int .i64) (fun b => b.2.1) 1 := (Part.snd _ _).trans (Part.fst _ _)
theorem bl2 : Part RT.bl (RT.int .i64) (fun b => b.2.2.1) 2 := (Part.snd _ _).trans ((Part.snd _ _).trans (Part.fst _ _))
theorem bl3 : Part RT.bl (RT.int .i64) (fun b => b.2.2.2) 3 := (Part.snd _ _).trans ((Part.snd _ _).trans (Part.snd _ _))
theorem li0 : Part RT.li (RT.u8.sl) (fun x => x.1) 0 := Part.fst _ _
theorem li1 : Part RT.li ((RT.bl).sl) (fun x => x.2.1) 1 := (Part.snd _ _).trans (Part.fst _ _)
theorem li2 : Part RT.li (RT.int .i64) (fun x => x.2.2) 2 := (Part.snd _ _).trans (Part.snd _ _)

def isB (n : Nat) (k : Int) : Bool := decide (0 ≤ k ∧ k < n)
def lastB (bs : List Bl) (k : Int) : Int := if isB bs.length k then (bs.getD k.toNat (0, 0, 0, 0)).2.2.1 else -1
def sumN (bs : List Bl) : Int := (bs.map fun b => b.2.2.2).sum
theorem sumN_snoc (bs : List Bl) (b : Bl) : sumN (bs ++ [b]) = sumN bs + b.2.2.2 := by simp [sumN]
theorem sumN_take {bs : List Bl} {k : Nat} {b : Bl} (h : bs[k]? = some b) : sumN (bs.take (k + 1)) = sumN (bs.take k) + b.2.2.2 := by
  obtain ⟨h1, h2⟩ := List.getElem?_eq_some_iff.1 h
  rw [List.take_succ_eq_append_getElem h1, h2, sumN_snoc]
theorem sumN_le (bs : List Bl) (h : ∀ b ∈ bs, 0 ≤ b.2.2.2 ∧ b.2.2.2 ≤ 8) : 0 ≤ sumN bs ∧ sumN bs ≤ 8 * bs.length := by
  induction bs with
  | nil => simp [sumN]
  | cons b bs ih =>
    have := ih fun c hc => h c (List.mem_cons_of_mem _ hc)
    have h0 := h b (List.mem_cons_self ..)
    simp only [sumN, List.map_cons, List.sum_cons, List.length_cons] at this ⊢
    omega

/-! ### What is made -/
def putPo : Int → List Po → List UInt8
  | _, [] => []
  | last, (d, ps) :: l => put (d - last - 1).toNat ++ putRising ps ++ putPo d l
def lastPo : Int → List Po → Int
  | last, [] => last
  | _, (d, _) :: l => lastPo d l
def totPo (l : List Po) : Int := (l.map fun p => (p.2.length : Int)).sum
theorem putPo_append (l l' : List Po) (last : Int) : putPo last (l ++ l') = putPo last l ++ putPo (lastPo last l) l' := by
  induction l generalizing last with
  | nil => rfl
  | cons p l ih => obtain ⟨d, ps⟩ := p; simp [putPo, lastPo, ih]
theorem lastPo_append (l l' : List Po) (last : Int) : lastPo last (l ++ l') = lastPo (lastPo last l) l' := by
  induction l generalizing last with
  | nil => rfl
  | cons p l ih => obtain ⟨d, ps⟩ := p; simp [lastPo, ih]
theorem totPo_append (l l' : List Po) : totPo (l ++ l') = totPo l + totPo l' := by simp [totPo]
/-- block k of a list of postings -/
def blkOf (l : List Po) (k : Nat) : Bl := ((putPo (-1) (l.take (8 * k))).length, lastPo (-1) (l.take (8 * k)), lastPo (-1) (l.take (8 * k + 8)), ((l.drop (8 * k)).take 8).length)
def blks (l : List Po) (m : Nat) : List Bl := (List.range m).map (blkOf l)
def mkLi (l : List Po) : Li := (putPo (-1) l, blks l ((l.length + 7) / 8), totPo l)
/-- postings may be -/
def risesB (l : List Int) : Bool := rises (-1) l && l.all (fun n => decide (n < 2147483648))
def mayPo : Int → List Po → Bool
  | _, [] => true
  | last, (d, ps) :: l => decide (last < d) && decide (d < 2147483648) && !ps.isEmpty && risesB ps && mayPo d l

theorem may_at : ∀ {l : List Po} {i : Nat} {last d : Int} {ps : List Int}, mayPo last l = true → l[i]? = some (d, ps) →
    lastPo last (l.take i) < d ∧ d < 2147483648 ∧ ps ≠ [] ∧ risesB ps = true ∧ lastPo last (l.take (i + 1)) = d ∧ last ≤ lastPo last (l.take i)
  | [], i, _, _, _, _, h => by simp at h
  | (d0, p0) :: l, 0, last, d, ps, hm, h => by
    simp only [List.getElem?_cons_zero, Option.some.injEq, Prod.mk.injEq] at h
    obtain ⟨rfl, rfl⟩ := h
    simp only [mayPo, Bool.and_eq_true, decide_eq_true_eq] at hm
    obtain ⟨⟨⟨⟨h1, h2⟩, h3⟩, h4⟩, h5⟩ := hm
    refine ⟨h1, h2, ?_, h4, by simp [lastPo], by simp [lastPo]⟩
    rintro rfl; simp at h3
  | (d0, p0) :: l, i + 1, last, d, ps, hm, h => by
    simp only [mayPo, Bool.and_eq_true, decide_eq_true_eq] at hm
    obtain ⟨⟨⟨⟨h1, h2⟩, h3⟩, h4⟩, h5⟩ := hm
    obtain ⟨a1, a2, a3, a4, a5, a6⟩ := may_at (i := i) h5 (by simpa using h)
    refine ⟨by simpa [lastPo] using a1, a2, a3, a4, by simpa [lastPo] using a5, ?_⟩
    simp only [List.take_succ_cons, lastPo]; omega
theorem putPo_take {l : List Po} {i : Nat} {d : Int} {ps : List Int} (last : Int) (h : l[i]? = some (d, ps)) :
    putPo last (l.take (i + 1)) = putPo last (l.take i) ++ put (d - lastPo last (l.take i) - 1).toNat ++ putRising ps := by
  obtain ⟨h1, h2⟩ := List.getElem?_eq_some_iff.1 h
  rw [List.take_succ_eq_append_getElem h1, h2, putPo_append]; simp [putPo]
theorem putPo_split {l : List Po} {i : Nat} (last : Int) : putPo last l = putPo last (l.take i) ++ putPo (lastPo last (l.take i)) (l.drop i) := by
  conv => lhs; rw [← List.take_append_drop i l]
  exact putPo_append _ _ _
theorem risesB_iff {l : List Int} : risesB l = true ↔ rises (-1) l = true ∧ ∀ x ∈ l, x < 2147483648 := by
  simp [risesB]

def takeP (b : List UInt8) (at_ ahead : Int) : Po × Int × Int :=
  if (get b at_).2.2 ≠ 0 then ((0, []), 0, (get b at_).2.2)
  else ((IntKind.i64.wrap (IntKind.i64.wrap (ahead + 1) + (get b at_).1), (getRising b (get b at_).2.1).2.1), (getRising b (get b at_).2.1).2.2, (getRising b (get b at_).2.1).1)
theorem takeP_at {l : List Po} {i : Nat} {d : Int} {ps : List Int} (hm : mayPo (-1) l = true) (h : l[i]? = some (d, ps)) (hl : ps.length ≤ 1099511627776) :
    takeP (putPo (-1) l) (((putPo (-1) (l.take i)).length : Nat) : Int) (lastPo (-1) (l.take i)) = ((d, ps), (((putPo (-1) (l.take (i + 1))).length : Nat) : Int), 0) := by
  obtain ⟨h1, h2, h3, h4, h5, h6⟩ := may_at hm h
  obtain ⟨h7, h8⟩ := risesB_iff.1 h4
  have e1 := putPo_split (l := l) (i := i + 1) (-1)
  have e2 := putPo_take (-1) h
  generalize hla : lastPo (-1) (l.take i) = last at h1 h6 e2 ⊢
  generalize hpre : putPo (-1) (l.take i) = pre at e2 ⊢
  generalize putPo (lastPo (-1) (l.take (i + 1))) (l.drop (i + 1)) = post at e1
  rw [e2] at e1 ⊢
  have g1 := get_put pre (putRising ps ++ post) (n := (d - last - 1).toNat) (by omega)
  have g2 := getRising_put (pre ++ put (d - last - 1).toNat) post h7 (fun x hx => by have := h8 x hx; omega) (by omega)
  rw [show pre ++ put (d - last - 1).toNat ++ (putRising ps ++ post) = putPo (-1) l from by rw [e1]; simp] at g1
  rw [← e1] at g2
  unfold takeP
  rw [g1]
  simp only [ne_eq, not_true_eq_false, if_false]
  have hpl : ((pre.length + (put (d - last - 1).toNat).length : Nat) : Int) = ((pre ++ put (d - last - 1).toNat).length : Int) := by simp
  rw [hpl, g2]
  refine Prod.ext (Prod.ext ?_ rfl) (Prod.ext ?_ rfl)
  · simp only
    rw [IntWalk.i64_in (last + 1) (by omega), IntWalk.i64_in _ (by omega)]; omega
  · simp; omega

/-! ### Postings made such as may be -/
def fixD (d : Int) : Int := if d < 0 then -(d + 1) else d
def fixP (ps : List Int) : List Int := if good ps 5 = [] then [0] else good ps 5
def goodPo : Int → List Po → List Po
  | _, [] => []
  | last, (d, ps) :: l => (last + 1 + fixD d % 50, fixP ps) :: goodPo (last + 1 + fixD d % 50) l
theorem goodPo_drop {l : List Po} {k : Nat} {d : Int} {ps : List Int} (h : l[k]? = some (d, ps)) (last : Int) : goodPo last (l.drop k) = (last + 1 + fixD d % 50, fixP ps) :: goodPo (last + 1 + fixD d % 50) (l.drop (k + 1)) := by
  obtain ⟨h1, h2⟩ := List.getElem?_eq_some_iff.1 h
  rw [List.drop_eq_getElem_cons h1, h2, goodPo]
theorem goodPo_len : ∀ (l : List Po) (last : Int), (goodPo last l).length = l.length
  | [], _ => rfl
  | (d, ps) :: l, last => by simp [goodPo, goodPo_len l]
theorem fixP_ok (ps : List Int) : fixP ps ≠ [] ∧ risesB (fixP ps) = true ∧ (fixP ps).length ≤ 5 := by
  unfold fixP
  split
  · exact ⟨by simp, by decide, by decide⟩
  · rename_i h
    refine ⟨h, risesB_iff.2 ⟨good_rises ps 5, fun x hx => ?_⟩, by rw [good_len]; omega⟩
    have := good_le ps 5 x hx
    omega
theorem goodPo_may : ∀ (l : List Po) (last : Int), -1 ≤ last → last + 50 * l.length < 2147483648 → mayPo last (goodPo last l) = true
  | [], _, _, _ => rfl
  | (d, ps) :: l, last, h0, h => by
    obtain ⟨h1, h2, h3⟩ := fixP_ok ps
    have h4 := Int.emod_nonneg (fixD d) (show (50 : Int) ≠ 0 by decide)
    have h5 := Int.emod_lt_of_pos (fixD d) (show (0 : Int) < 50 by decide)
    simp only [List.length_cons] at h
    simp only [goodPo, mayPo, Bool.and_eq_true, decide_eq_true_eq]
    refine ⟨⟨⟨⟨by omega, by omega⟩, ?_⟩, h2⟩, goodPo_may l _ (by omega) (by omega)⟩
    cases hf : fixP ps with
    | nil => exact absurd hf h1
    | cons a as => rfl
theorem goodPo_small : ∀ (l : List Po) (last : Int), ∀ p ∈ goodPo last l, p.2.length ≤ 5
  | [], _, p, h => by simp [goodPo] at h
  | (d, ps) :: l, last, p, h => by
    simp only [goodPo, List.mem_cons] at h
    rcases h with rfl | h
    · exact (fixP_ok ps).2.2
    · exact goodPo_small l _ p h

theorem all_drop {l : List Int} {k : Nat} {x : Int} (p : Int → Bool) (h : l[k]? = some x) : (l.drop k).all p = (p x && (l.drop (k + 1)).all p) := by
  obtain ⟨h1, h2⟩ := List.getElem?_eq_some_iff.1 h
  rw [List.drop_eq_getElem_cons h1, h2, List.all_cons]
theorem mayPo_drop {l : List Po} {k : Nat} {d : Int} {ps : List Int} (h : l[k]? = some (d, ps)) (last : Int) :
    mayPo last (l.drop k) = (decide (last < d) && decide (d < 2147483648) && !ps.isEmpty && risesB ps && mayPo d (l.drop (k + 1))) := by
  obtain ⟨h1, h2⟩ := List.getElem?_eq_some_iff.1 h
  rw [List.drop_eq_getElem_cons h1, h2, mayPo]

theorem totPo_take {l : List Po} {i : Nat} {d : Int} {ps : List Int} (h : l[i]? = some (d, ps)) : totPo (l.take (i + 1)) = totPo (l.take i) + ps.length := by
  obtain ⟨h1, h2⟩ := List.getElem?_eq_some_iff.1 h
  rw [List.take_succ_eq_append_getElem h1, h2, totPo_append]; simp [totPo]
theorem totPo_nonneg (l : List Po) : 0 ≤ totPo l := by
  induction l with
  | nil => simp [totPo]
  | cons p l ih => simp only [totPo, List.map_cons, List.sum_cons] at ih ⊢; omega
theorem totPo_le (l : List Po) (i : Nat) : 0 ≤ totPo (l.take i) ∧ totPo (l.take i) ≤ totPo l := by
  refine ⟨totPo_nonneg _, ?_⟩
  conv => rhs; rw [← List.take_append_drop i l, totPo_append]
  have := totPo_nonneg (l.drop i)
  omega
theorem putPo_take_le (l : List Po) (i : Nat) : (putPo (-1) (l.take i)).length ≤ (putPo (-1) l).length := by
  rw [putPo_split (l := l) (i := i) (-1)]; simp
theorem blks_succ (l : List Po) (k : Nat) : blks l (k + 1) = blks l k ++ [blkOf l k] := by simp [blks, List.range_succ]

theorem lastPo_rng : ∀ (l : List Po) (last : Int), mayPo last l = true → last < 2147483648 → ∀ n : Nat, last ≤ lastPo last (l.take n) ∧ lastPo last (l.take n) < 2147483648
  | [], last, _, h, n => by simp [lastPo]; exact h
  | (d, ps) :: l, last, hm, h, 0 => by simp [lastPo]; exact h
  | (d, ps) :: l, last, hm, h, n + 1 => by
    simp only [mayPo, Bool.and_eq_true, decide_eq_true_eq] at hm
    obtain ⟨⟨⟨⟨h1, h2⟩, h3⟩, h4⟩, h5⟩ := hm
    have := lastPo_rng l d h5 h2 n
    simp only [List.take_succ_cons, lastPo]; omega
theorem V_bl {M : PSet} {w : World} {a b c d : Int} (ha : -9223372036854775808 ≤ a ∧ a ≤ 9223372036854775807) (hb : -9223372036854775808 ≤ b ∧ b ≤ 9223372036854775807) (hc : -9223372036854775808 ≤ c ∧ c ≤ 9223372036854775807) (hd : -9223372036854775808 ≤ d ∧ d ≤ 9223372036854775807) :
    RT.bl.V M w (a, b, c, d) (.agg [.int .i64 a, .int .i64 b, .int .i64 c, .int .i64 d].toArray) :=
  ⟨_, ⟨[.int .i64 a], [.int .i64 b, .int .i64 c, .int .i64 d], rfl, ⟨rfl, ha⟩, [.int .i64 b], [.int .i64 c, .int .i64 d], rfl, ⟨rfl, hb⟩, [.int .i64 c], [.int .i64 d], rfl, ⟨rfl, hc⟩, ⟨rfl, hd⟩⟩, rfl⟩
theorem li_mk {M : PSet} {w : World} {bx : Nat} {b : List UInt8} {ks : List Bl} {tot : Int} {vb vk : Value} {e : TypeId} {fr : Nat × Nat} (hx : w.heap[bx]? = some (.cells #[vb, vk, .int .i64 tot] e fr)) (hm : ¬ M bx) (hb : (RT.u8.sl).V M w b vb) (hk : ((RT.bl).sl).V M w ks vk) (ht : -9223372036854775808 ≤ tot ∧ tot ≤ 9223372036854775807) :
    PtrTo RT.li M w (.pointer (some ⟨bx, 0, none⟩)) (b, ks, tot) :=
  ⟨bx, 0, [vb, vk, .int .i64 tot], rfl, hm, ⟨[vb], [vk, .int .i64 tot], rfl, V_cell hb rfl rfl, [vk], [.int .i64 tot], rfl, V_cell hk rfl rfl, ⟨rfl, ht⟩⟩, fun j v hj => cell_at hx (by simpa using hj)⟩
theorem blk_next {l : List Po} {i : Nat} (h8 : i % 8 = 0) (hi : i < l.length) : blks l ((i + 7) / 8) ++ [(((putPo (-1) (l.take i)).length : Int), lastPo (-1) (l.take i), lastPo (-1) (l.take (min (i + 8) l.length)), (((l.drop i).take 8).length : Int))] = blks l ((min (i + 8) l.length + 7) / 8) := by
  rw [show (min (i + 8) l.length + 7) / 8 = (i + 7) / 8 + 1 from by omega, blks_succ]
  have e : 8 * ((i + 7) / 8) = i := by omega
  have e2 : l.take (i + 8) = l.take (min (i + 8) l.length) := by rw [List.take_eq_take_iff]; omega
  simp only [blkOf, e, e2]

theorem sumN_blks (l : List Po) : ∀ m : Nat, sumN (blks l m) = ((min (8 * m) l.length : Nat) : Int)
  | 0 => by simp [sumN, blks]
  | m + 1 => by
    rw [blks_succ, sumN_snoc, sumN_blks l m]
    simp only [blkOf, List.length_take, List.length_drop]; omega
theorem blks_many (l : List Po) (m : Nat) : ∀ b ∈ blks l m, 0 ≤ b.2.2.2 ∧ b.2.2.2 ≤ 8 := fun b hb => by
  simp only [blks, List.mem_map] at hb
  obtain ⟨k, _, rfl⟩ := hb
  simp only [blkOf, List.length_take, List.length_drop]; omega
theorem putPo_small : ∀ (l : List Po) (last : Int), -1 ≤ last → mayPo last l = true → (∀ p ∈ l, p.2.length ≤ 5) → (putPo last l).length ≤ 63 * l.length
  | [], _, _, _, _ => by simp [putPo]
  | (d, ps) :: l, last, h0, hm, hs => by
    simp only [mayPo, Bool.and_eq_true, decide_eq_true_eq] at hm
    obtain ⟨⟨⟨⟨h1, h2⟩, h3⟩, h4⟩, h5⟩ := hm
    obtain ⟨h6, h7⟩ := risesB_iff.1 h4
    have a1 := putPo_small l d (by omega) h5 (fun p hp => hs p (List.mem_cons_of_mem _ hp))
    have a2 := hs _ (List.mem_cons_self ..)
    have a3 := put_len9 (n := (d - last - 1).toNat) (by omega)
    simp only at a2
    have a4 := put_len9 (n := ps.length) (by omega)
    have a5 := putR_len ps (-1) (by decide) (fun x hx => by have := h7 x hx; omega) h6
    simp only [putPo, putRising, List.length_append, List.length_cons]; omega
theorem totPo_small : ∀ (l : List Po), (∀ p ∈ l, p.2.length ≤ 5) → totPo l ≤ 5 * l.length
  | [], _ => by simp [totPo]
  | (d, ps) :: l, h => by
    have a1 := totPo_small l (fun p hp => h p (List.mem_cons_of_mem _ hp))
    have a2 := h _ (List.mem_cons_self ..)
    simp only [totPo, List.map_cons, List.sum_cons, List.length_cons] at a1 a2 ⊢; omega

theorem lastPo_mono : ∀ (l : List Po) (last : Int) (n m : Nat), mayPo last l = true → last < 2147483648 → n ≤ m → lastPo last (l.take n) ≤ lastPo last (l.take m)
  | [], last, n, m, _, _, _ => by simp
  | (d, ps) :: l, last, 0, m, hm, h, _ => by
    have := (lastPo_rng ((d, ps) :: l) last hm h m).1
    simpa [lastPo] using this
  | (d, ps) :: l, last, n + 1, 0, _, _, h => by omega
  | (d, ps) :: l, last, n + 1, m + 1, hm, h, hnm => by
    simp only [mayPo, Bool.and_eq_true, decide_eq_true_eq] at hm
    obtain ⟨⟨⟨⟨h1, h2⟩, h3⟩, h4⟩, h5⟩ := hm
    simpa [lastPo] using lastPo_mono l d n m h5 h2 (by omega)
theorem lastB_mk {g : List Po} {k : Nat} (hk : k < (g.length + 7) / 8) : lastB (mkLi g).2.1 (k : Int) = lastPo (-1) (g.take (8 * k + 8)) := by
  have hl : (mkLi g).2.1.length = (g.length + 7) / 8 := by simp [mkLi, blks]
  have hb : (mkLi g).2.1[k]? = some (blkOf g k) := by simp only [mkLi, blks, List.getElem?_map]; rw [List.getElem?_range hk]; rfl
  unfold lastB isB
  rw [if_pos (by rw [hl]; simp; omega), Int.toNat_natCast, List.getD_eq_getElem?_getD, hb]; rfl
theorem lastB_prev {g : List Po} {k : Nat} (hk : k < (g.length + 7) / 8) : lastB (mkLi g).2.1 ((k : Int) - 1) = lastPo (-1) (g.take (8 * k)) := by
  cases k with
  | zero => unfold lastB isB; rw [if_neg (by simp)]; simp [lastPo]
  | succ k =>
    have := lastB_mk (g := g) (k := k) (by omega)
    rw [show ((k + 1 : Nat) : Int) - 1 = (k : Int) from by omega, this, show 8 * (k + 1) = 8 * k + 8 from by omega]
theorem take_snoc_map {g : List Po} {i : Nat} {p : Po} (h : g[i]? = some p) : (g.take (i + 1)).map Prod.fst = (g.take i).map Prod.fst ++ [p.1] := by
  obtain ⟨h1, h2⟩ := List.getElem?_eq_some_iff.1 h
  rw [List.take_succ_eq_append_getElem h1, h2]; simp
theorem po_get {M : PSet} {w : World} {l : List Po} {v : Value} (h : ((RT.po).sl).V M w l v) {i : Nat} {d : Int} {ps : List Int} (hx : l[i]? = some (d, ps)) : (-9223372036854775808 ≤ d ∧ d ≤ 9223372036854775807) ∧ ∃ u, ((RT.int .i64).sl).V M w ps u := by
  obtain ⟨a, cap, _, _, _, hs⟩ := V_sl.1 h
  rcases hs with rfl | ⟨b, o, _, _, hs⟩
  · simp at hx
  · obtain ⟨vs, ⟨va, vb, _, ⟨_, h2⟩, h3⟩, _⟩ := hs i _ hx
    exact ⟨h2, _, vb, h3, rfl⟩
theorem po_rng {M : PSet} {w : World} {l : List Po} {v : Value} (h : ((RT.po).sl).V M w l v) {i : Nat} {d : Int} {ps : List Int} (hx : l[i]? = some (d, ps)) : -9223372036854775808 ≤ d ∧ d ≤ 9223372036854775807 := (po_get h hx).1
theorem po_len {M : PSet} {w : World} {l : List Po} {v : Value} (h : ((RT.po).sl).V M w l v) {i : Nat} {d : Int} {ps : List Int} (hx : l[i]? = some (d, ps)) : ps.length ≤ 140737488355328 := by
  obtain ⟨_, u, hu⟩ := po_get h hx; exact V_sl_len hu
theorem po_item {M : PSet} {w : World} {l : List Po} {v : Value} (h : ((RT.po).sl).V M w l v) {i j : Nat} {d x : Int} {ps : List Int} (hx : l[i]? = some (d, ps)) (hj : ps[j]? = some x) : -9223372036854775808 ≤ x ∧ x ≤ 9223372036854775807 := by
  obtain ⟨_, u, hu⟩ := po_get h hx; exact i64_of hu hj
end Go.K

/- Reading postings: in plain Lean. No program is named here. -/
import Derived.Test.YtgpmihcdjmjfoaaKPtr
namespace Go.K
set_option linter.unusedVariables false
set_option linter.unusedSimpArgs false
/-- l is what many postings in b are -/
def RP (many : Int) (b : List UInt8) (l : List Po) : Prop := many = (l.length : Int) ∧ mayPo (-1) l = true ∧ putPo (-1) l = b

theorem putR_ge : ∀ (l : List Int) (last : Int), l.length ≤ (putR last l).length
  | [], _ => by simp
  | x :: l, last => by
    have h1 := putR_ge l x
    have h2 := put_pos (x - last - 1).toNat
    simp only [putR, List.length_append, List.length_cons]; omega
theorem putPo_ge : ∀ (l : List Po) (last : Int), 2 * l.length + totPo l ≤ (putPo last l).length ∧ ∀ p ∈ l, p.2.length ≤ (putPo last l).length
  | [], _ => by simp [totPo]
  | (d, ps) :: l, last => by
    obtain ⟨h1, h2⟩ := putPo_ge l d
    have h3 := put_pos (d - last - 1).toNat
    have h4 := put_pos ps.length
    have h5 := putR_ge ps (-1)
    simp only [totPo] at h1
    refine ⟨?_, fun p hp => ?_⟩
    · simp only [putPo, putRising, totPo, List.map_cons, List.sum_cons, List.length_append, List.length_cons]; omega
    · rcases List.mem_cons.1 hp with rfl | hp
      · simp only [putPo, putRising, List.length_append]; omega
      · have := h2 p hp
        simp only [putPo, List.length_append]; omega
theorem RP.bounds {many : Int} {b : List UInt8} {l : List Po} (h : RP many b l) : 2 * l.length + totPo l ≤ b.length ∧ ∀ p ∈ l, p.2.length ≤ b.length := by
  have := putPo_ge l (-1); rw [h.2.2] at this; exact this

theorem putPo_any2 : ∀ (l : List Po) (last : Int), -9223372036854775808 ≤ last → (∀ p ∈ l, (-9223372036854775808 ≤ p.1 ∧ p.1 ≤ 9223372036854775807) ∧ p.2.length ≤ 1099511627776 ∧ ∀ x ∈ p.2, -9223372036854775808 ≤ x ∧ x ≤ 9223372036854775807) → (putPo last l).length ≤ 20 * l.length + 10 * totPo l
  | [], _, _, _ => by simp [putPo, totPo]
  | (d, ps) :: l, last, h1, h2 => by
    obtain ⟨hd, hl, hp⟩ := h2 _ (List.mem_cons_self ..)
    simp only at hd hl hp
    have h4 := putPo_any2 l d hd.1 (fun y hy => h2 y (List.mem_cons_of_mem _ hy))
    have h5 := put_len10 (n := (d - last - 1).toNat) (by omega)
    have h6 := putR_any ps (-1) (by decide) hp
    have h7 := put_len10 (n := ps.length) (by omega)
    simp only [totPo] at h4
    simp only [putPo, putRising, totPo, List.map_cons, List.sum_cons, List.length_append, List.length_cons]; omega

/-- what was read so far -/
structure RD (b : List UInt8) (o : List Po) (at_ : Int) : Prop where
  all : ∀ l, mayPo (-1) l = true → putPo (-1) l = b → o.length ≤ l.length → l.take o.length = o
  pos : ∀ l, mayPo (-1) l = true → putPo (-1) l = b → o.length ≤ l.length → at_ = ((putPo (-1) o).length : Int)
  lo : 0 ≤ at_
  hi : at_ ≤ b.length
  tot : 2 * o.length + totPo o ≤ at_
  ps : ∀ p ∈ o, p.2.length ≤ b.length
theorem RD.nil (b : List UInt8) : RD b [] 0 := ⟨fun _ _ _ _ => rfl, fun _ _ _ _ => rfl, by omega, by omega, by simp [totPo], fun _ h => by cases h⟩

theorem getRL_adv (b : List UInt8) : ∀ (k : Nat) (a last : Int), (getRL b k a last).1 = 0 → 0 ≤ a → a ≤ b.length → a + (getRL b k a last).2.1.length ≤ (getRL b k a last).2.2 ∧ (getRL b k a last).2.2 ≤ b.length
  | 0, a, last, _, h0, h1 => by simp [getRL]; exact h1
  | k + 1, a, last, h, h0, h1 => by
    by_cases e1 : (get b a).2.2 ≠ 0
    · rw [getRL_fail e1] at h; exact absurd h e1
    · have e1' : (get b a).2.2 = 0 := Decidable.not_not.1 e1
      have hok := get_ok e1'
      rw [getRL, if_neg e1] at h ⊢
      by_cases e2 : 4611686018427387904 - last - 1 < (get b a).1
      · rw [if_pos e2] at h; exact absurd h (by simp)
      · rw [if_neg e2] at h ⊢
        by_cases e3 : (getRL b k (get b a).2.1 (last + 1 + (get b a).1)).1 ≠ 0
        · rw [if_pos e3] at h; exact absurd h e3
        · rw [if_neg e3] at h ⊢
          have ih := getRL_adv b k (get b a).2.1 (last + 1 + (get b a).1) (Decidable.not_not.1 e3) (by omega) (by omega)
          simp only [List.length_cons]; omega
theorem takeP_adv {b : List UInt8} {a last : Int} (h : (takeP b a last).2.2 = 0) : 0 ≤ a ∧ a + 2 + (takeP b a last).1.2.length ≤ (takeP b a last).2.1 ∧ (takeP b a last).2.1 ≤ b.length := by
  unfold takeP at h ⊢
  by_cases e1 : (get b a).2.2 ≠ 0
  · rw [if_pos e1] at h; exact absurd h e1
  · rw [if_neg e1] at h ⊢
    simp only at h ⊢
    have hok := get_ok (Decidable.not_not.1 e1)
    unfold getRising at h ⊢
    by_cases e2 : (get b (get b a).2.1).2.2 ≠ 0
    · rw [if_pos e2] at h; exact absurd h e2
    · rw [if_neg e2] at h ⊢
      have hok2 := get_ok (Decidable.not_not.1 e2)
      have := getRL_adv b _ _ _ h (by omega) (by omega)
      omega

theorem RD.step {b : List UInt8} {o : List Po} {a : Int} {p : Po} {next : Int} (h : RD b o a) (hb : b.length ≤ 1099511627776) (ht : takeP b a (lastPo (-1) o) = (p, next, 0)) : RD b (o ++ [p]) next := by
  have hadv := takeP_adv (b := b) (a := a) (last := lastPo (-1) o) (by rw [ht])
  rw [ht] at hadv
  simp only at hadv
  have key : ∀ l, mayPo (-1) l = true → putPo (-1) l = b → (o ++ [p]).length ≤ l.length → l[o.length]? = some p ∧ next = ((putPo (-1) (l.take (o.length + 1))).length : Int) ∧ l.take o.length = o := by
    intro l hm hp hl
    simp only [List.length_append, List.length_singleton] at hl
    have h1 := h.all l hm hp (by omega)
    have h2 := h.pos l hm hp (by omega)
    obtain ⟨⟨d, ps⟩, hx⟩ : ∃ x, l[o.length]? = some x := ⟨_, List.getElem?_eq_getElem (by omega)⟩
    have h3 := takeP_at hm hx (by have := (putPo_ge l (-1)).2 _ (List.mem_of_getElem? hx); rw [hp] at this; simp only at this; omega)
    rw [hp, h1, ← h2, ht] at h3
    simp only [Prod.mk.injEq] at h3
    exact ⟨by rw [hx, h3.1], h3.2.1, h1⟩
  refine ⟨fun l hm hp hl => ?_, fun l hm hp hl => ?_, by omega, by omega, ?_, fun q hq => ?_⟩
  · obtain ⟨h1, h2, h3⟩ := key l hm hp hl
    obtain ⟨h4, h5⟩ := List.getElem?_eq_some_iff.1 h1
    rw [List.length_append, List.length_singleton, List.take_succ_eq_append_getElem h4, h3, h5]
  · obtain ⟨h1, h2, h3⟩ := key l hm hp hl
    obtain ⟨h4, h5⟩ := List.getElem?_eq_some_iff.1 h1
    rw [h2, List.take_succ_eq_append_getElem h4, h3, h5]
  · have := h.tot
    rw [totPo_append, List.length_append, List.length_singleton]
    simp only [totPo, List.map_cons, List.map_nil, List.sum_cons, List.sum_nil] at this ⊢; omega
  · rcases List.mem_append.1 hq with hq | hq
    · exact h.ps q hq
    · simp only [List.mem_singleton] at hq
      subst hq; have := h.tot; have := totPo_nonneg o; omega
theorem RD.none {b : List UInt8} {o : List Po} {a : Int} (h : RD b o a) (hb : b.length ≤ 1099511627776) (ht : (takeP b a (lastPo (-1) o)).2.2 ≠ 0 ∨ (takeP b a (lastPo (-1) o)).1.1 < 0) {many : Int} (hm : (o.length : Int) < many) : ¬ ∃ l, RP many b l := by
  rintro ⟨l, hl, hm2, hp⟩
  have h1 := h.all l hm2 hp (by omega)
  have h2 := h.pos l hm2 hp (by omega)
  obtain ⟨⟨d, ps⟩, hx⟩ : ∃ x, l[o.length]? = some x := ⟨_, List.getElem?_eq_getElem (by omega)⟩
  have h3 := takeP_at hm2 hx (by have := (putPo_ge l (-1)).2 _ (List.mem_of_getElem? hx); rw [hp] at this; simp only at this; omega)
  obtain ⟨f1, _⟩ := may_at hm2 hx
  have f2 := (lastPo_rng l (-1) hm2 (by decide) o.length).1
  rw [hp, h1, ← h2] at h3
  rw [h3] at ht
  simp only at ht
  omega
theorem RD.done {b : List UInt8} {o : List Po} {a : Int} (h : RD b o a) {many : Int} (hm : many ≤ o.length) (h0 : ¬ (many = (o.length : Int) ∧ mayPo (-1) o = true ∧ putPo (-1) o = b)) (hle : 0 ≤ many → many = o.length) : ¬ ∃ l, RP many b l := by
  rintro ⟨l, hl, hm2, hp⟩
  have hlo : l.length = o.length := by have := hle (by omega); omega
  have h1 := h.all l hm2 hp (by omega)
  rw [← hlo, List.take_length] at h1
  subst h1
  exact h0 ⟨hl, hm2, hp⟩
theorem RP.take {m m' : Int} {b : List UInt8} {l l' : List Po} (h : RP m b l) (h' : RP m' b l') (hb : b.length ≤ 1099511627776) : ∀ k, k ≤ l.length → k ≤ l'.length → l.take k = l'.take k := by
  intro k
  induction k with
  | zero => intro _ _; rfl
  | succ k ih =>
    intro hk hk'
    have h0 := ih (by omega) (by omega)
    obtain ⟨⟨d, ps⟩, hx⟩ : ∃ x, l[k]? = some x := ⟨_, List.getElem?_eq_getElem (by omega)⟩
    obtain ⟨⟨e, qs⟩, hy⟩ : ∃ x, l'[k]? = some x := ⟨_, List.getElem?_eq_getElem (by omega)⟩
    have h3 := takeP_at h.2.1 hx (by have := h.bounds.2 _ (List.mem_of_getElem? hx); simp only at this; omega)
    have h4 := takeP_at h'.2.1 hy (by have := h'.bounds.2 _ (List.mem_of_getElem? hy); simp only at this; omega)
    rw [h.2.2, h0] at h3
    rw [h'.2.2, h3] at h4
    simp only [Prod.mk.injEq] at h4
    obtain ⟨h5, h6⟩ := List.getElem?_eq_some_iff.1 hx
    obtain ⟨h7, h8⟩ := List.getElem?_eq_some_iff.1 hy
    rw [List.take_succ_eq_append_getElem h5, List.take_succ_eq_append_getElem h7, h0, h6, h8, h4.1.1, h4.1.2]
theorem putPo_more {l l' : List Po} (h : l.length ≤ l'.length) (ht : l'.take l.length = l) (hp : putPo (-1) l = putPo (-1) l') : l = l' := by
  rw [putPo_split (l := l') (i := l.length) (-1), ht] at hp
  have h1 := congrArg List.length hp
  rw [List.length_append] at h1
  have h2 := (putPo_ge (l'.drop l.length) (lastPo (-1) l)).1
  have h3 := totPo_nonneg (l'.drop l.length)
  rw [List.length_drop] at h2
  rw [← ht, List.take_of_length_le (by omega)]
theorem RP.uniq {m m' : Int} {b : List UInt8} {l l' : List Po} (h : RP m b l) (h' : RP m' b l') (hb : b.length ≤ 1099511627776) : l = l' := by
  rcases Nat.le_total l.length l'.length with hl | hl
  · exact putPo_more hl (by have := h.take h' hb l.length (Nat.le_refl _) hl; rw [List.take_length] at this; exact this.symm) (h.2.2.trans h'.2.2.symm)
  · exact (putPo_more hl (by have := h'.take h hb l'.length (Nat.le_refl _) hl; rw [List.take_length] at this; exact this.symm) (h'.2.2.trans h.2.2.symm)).symm
theorem hle_of {o : List Po} {many : Int} (hom : o = [] ∨ (o.length : Int) ≤ many) (c : ¬ (o.length : Int) < many) (h0 : 0 ≤ many) : many = o.length := by
  rcases hom with h | h
  · subst h; simp at c ⊢; omega
  · omega
theorem wrap_turn (n e : Int) : IntKind.i64.wrap (IntKind.i64.wrap (n + e) + 1) = IntKind.i64.wrap (IntKind.i64.wrap (e + 1) + n) := by
  simp only [IntKind.wrap_i64]; omega
theorem wrap_first {n : Int} (h : 0 ≤ n ∧ n ≤ 9223372036854775807) : n = IntKind.i64.wrap (IntKind.i64.wrap (-1 + 1) + n) := by
  simp only [IntKind.wrap_i64]; omega
end Go.K

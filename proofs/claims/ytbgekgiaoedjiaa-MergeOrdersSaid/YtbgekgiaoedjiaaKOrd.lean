/- Rising lists made one: what the least number again and again comes to, in plain Lean. No program is named here. -/
import Derived.Test.YtbgekgiaoedjiaaKHeapq
import Derived.Test.YtbgekgiaoedjiaaKSides
namespace Go.K
set_option linter.unusedVariables false
set_option linter.unusedSimpArgs false
def Tr (ls : List (List Int)) (i k : Nat) (n : Int) : Prop := ∃ l, ls[i]? = some l ∧ l[k]? = some n
def sumF (f : Nat → Nat) : Nat → Nat
  | 0 => 0
  | k + 1 => sumF f k + f k
theorem sumF_eq {f g : Nat → Nat} : ∀ {n : Nat}, (∀ j, j < n → f j = g j) → sumF f n = sumF g n
  | 0, _ => rfl
  | n + 1, h => by unfold sumF; rw [sumF_eq (fun j hj => h j (by omega)), h n (by omega)]
theorem sumF_one {f g : Nat → Nat} {i : Nat} (hi : f i = g i + 1) (hj : ∀ j, j ≠ i → f j = g j) : ∀ {n : Nat}, i < n → sumF f n = sumF g n + 1
  | 0, h => by omega
  | n + 1, h => by
    unfold sumF
    by_cases e : i = n
    · subst e; rw [hi, sumF_eq (fun j hj' => hj j (by omega))]; omega
    · rw [sumF_one hi hj (n := n) (by omega), hj n (fun h => e h.symm)]; omega
def lenAt (ls : List (List Int)) (i : Nat) : Nat := (ls.getD i []).length
def tot (ls : List (List Int)) : Nat := sumF (lenAt ls) ls.length
def rem (ls : List (List Int)) (at_ : Nat → Nat) : Nat := sumF (fun i => lenAt ls i - at_ i) ls.length
def up1 (at_ : Nat → Nat) (i : Nat) : Nat → Nat := fun j => if j = i then at_ j + 1 else at_ j
theorem Tr.lt {ls : List (List Int)} {i k : Nat} {n : Int} (h : Tr ls i k n) : i < ls.length ∧ k < lenAt ls i := by
  obtain ⟨l, h1, h2⟩ := h
  have h3 := (List.getElem?_eq_some_iff.1 h1).1
  refine ⟨h3, ?_⟩
  unfold lenAt; rw [List.getD_eq_getElem?_getD, h1]
  exact (List.getElem?_eq_some_iff.1 h2).1
theorem Tr.un {ls : List (List Int)} {i k : Nat} {n n' : Int} (h : Tr ls i k n) (h' : Tr ls i k n') : n = n' := by
  obtain ⟨l, h1, h2⟩ := h; obtain ⟨l', h3, h4⟩ := h'
  rw [h1] at h3; cases h3; rw [h2] at h4; cases h4; rfl
theorem Tr.ex {ls : List (List Int)} {i k : Nat} (h : k < lenAt ls i) : ∃ n, Tr ls i k n := by
  unfold lenAt at h; rw [List.getD_eq_getElem?_getD] at h
  cases hi : ls[i]? with
  | none => rw [hi] at h; simp at h
  | some l => rw [hi] at h; exact ⟨_, l, hi, List.getElem?_eq_getElem h⟩
/-- all lists rise, from 0 on -/
def Up (ls : List (List Int)) : Prop := ∀ l ∈ ls, rises (-1) l = true
noncomputable instance (ls : List (List Int)) : Decidable (Up ls) := Classical.propDecidable _
theorem Up.mono {ls : List (List Int)} (h : Up ls) {i k k' : Nat} {n n' : Int} (h1 : Tr ls i k n) (h2 : Tr ls i k' n') (hk : k < k') : n < n' := by
  obtain ⟨l, a1, a2⟩ := h1; obtain ⟨l', b1, b2⟩ := h2
  rw [a1] at b1; cases b1
  have hp := (rises_pair l (-1) (h l (List.mem_of_getElem? a1))).1
  obtain ⟨c1, c2⟩ := List.getElem?_eq_some_iff.1 a2; obtain ⟨d1, d2⟩ := List.getElem?_eq_some_iff.1 b2
  rw [← c2, ← d2]; exact (List.pairwise_iff_getElem.1 hp) k k' c1 d1 hk
theorem Up.nn {ls : List (List Int)} (h : Up ls) {i k : Nat} {n : Int} (h1 : Tr ls i k n) : 0 ≤ n := by
  obtain ⟨l, a1, a2⟩ := h1
  have := (rises_pair l (-1) (h l (List.mem_of_getElem? a1))).2 n (List.mem_of_getElem? a2); omega
structure AInv (ls : List (List Int)) (at_ : Nat → Nat) (out : List Hd) (last : Int) : Prop where
  a : ∀ o ∈ out, ∃ i k : Nat, o = (o.1, (i : Int), (k : Int)) ∧ Tr ls i k o.1 ∧ k < at_ i
  b : ∀ i k n, Tr ls i k n → k < at_ i → (n, (i : Int), (k : Int)) ∈ out
  c : out.Pairwise fun p q => p.1 < q.1
  d : ∀ o ∈ out, o.1 ≤ last
  d2 : last = -1 ∨ ∃ o ∈ out, o.1 = last
  e : ∀ i n, Tr ls i (at_ i) n → last ≤ n
  f : out.length + rem ls at_ = tot ls
theorem AInv.zero (ls : List (List Int)) (h : Up ls) : AInv ls (fun _ => 0) [] (-1) :=
  ⟨fun _ h => by (cases h), fun i k n _ h => by omega, List.Pairwise.nil, fun _ h => by (cases h), .inl rfl, fun i n ht => by have := h.nn ht; omega, by simp [rem, tot]⟩
theorem AInv.step {ls : List (List Int)} {at_ : Nat → Nat} {out : List Hd} {last : Int} (hu : Up ls) (h : AInv ls at_ out last) {i : Nat} {n : Int} (ht : Tr ls i (at_ i) n) (hmin : ∀ j m, Tr ls j (at_ j) m → n ≤ m) (hne : n ≠ last) :
    AInv ls (up1 at_ i) (out ++ [(n, (i : Int), ((at_ i : Nat) : Int))]) n := by
  have hlt := h.e i n ht
  refine ⟨fun o ho => ?_, fun j k m hj hk => ?_, ?_, fun o ho => ?_, .inr ⟨_, List.mem_append_right _ (List.mem_singleton.2 rfl), rfl⟩, fun j m hj => ?_, ?_⟩
  · rcases List.mem_append.1 ho with ho | ho
    · obtain ⟨j, k, h1, h2, h3⟩ := h.a o ho
      exact ⟨j, k, h1, h2, by unfold up1; split <;> omega⟩
    · rw [List.mem_singleton] at ho; subst ho
      exact ⟨i, at_ i, rfl, ht, by unfold up1; rw [if_pos rfl]; omega⟩
  · unfold up1 at hk
    by_cases e : j = i
    · subst e
      rw [if_pos rfl] at hk
      rcases Nat.lt_or_ge k (at_ j) with h1 | h1
      · exact List.mem_append_left _ (h.b j k m hj h1)
      · obtain rfl : k = at_ j := by omega
        rw [hj.un ht]; exact List.mem_append_right _ (List.mem_singleton.2 rfl)
    · rw [if_neg e] at hk
      exact List.mem_append_left _ (h.b j k m hj hk)
  · refine List.pairwise_append.2 ⟨h.c, List.pairwise_singleton _ _, fun p hp q hq => ?_⟩
    rw [List.mem_singleton] at hq; subst hq
    have := h.d p hp; simp only; omega
  · rcases List.mem_append.1 ho with ho | ho
    · have := h.d o ho; omega
    · rw [List.mem_singleton] at ho; subst ho; exact Int.le_refl _
  · unfold up1 at hj
    by_cases e : j = i
    · subst e; rw [if_pos rfl] at hj
      have := hu.mono ht hj (by omega); omega
    · rw [if_neg e] at hj; exact hmin j m hj
  · obtain ⟨h1, h2⟩ := ht.lt
    have h3 := h.f
    have h4 : rem ls at_ = rem ls (up1 at_ i) + 1 := sumF_one (i := i) (by simp only [up1, if_true]; omega) (fun j hj => by simp only [up1, if_neg hj]) h1
    rw [List.length_append, List.length_singleton]; omega
/-- what comes of it: nothing, as a number is there twice; or all, in order -/
def ResO (ls : List (List Int)) : Option (List Hd) → Prop
  | none => ∃ i k i' k' n, ¬ (i = i' ∧ k = k') ∧ Tr ls i k n ∧ Tr ls i' k' n
  | some out => (out.Pairwise fun p q => p.1 < q.1) ∧ (∀ o ∈ out, ∃ i k : Nat, o = (o.1, (i : Int), (k : Int)) ∧ Tr ls i k o.1) ∧ ∀ i k n, Tr ls i k n → (n, (i : Int), (k : Int)) ∈ out
theorem AInv.fin {ls : List (List Int)} {at_ : Nat → Nat} {out : List Hd} {last : Int} (h : AInv ls at_ out last) (hn : ∀ i n, ¬ Tr ls i (at_ i) n) : ResO ls (some out) := by
  refine ⟨h.c, fun o ho => ?_, fun i k n ht => ?_⟩
  · obtain ⟨i, k, h1, h2, _⟩ := h.a o ho; exact ⟨i, k, h1, h2⟩
  · refine h.b i k n ht ?_
    rcases Nat.lt_or_ge k (at_ i) with h1 | h1
    · exact h1
    · obtain ⟨m, hm⟩ := Tr.ex (ls := ls) (i := i) (k := at_ i) (by have := ht.lt.2; omega)
      exact absurd hm (hn i m)
theorem AInv.twice {ls : List (List Int)} {at_ : Nat → Nat} {out : List Hd} {last : Int} (hu : Up ls) (h : AInv ls at_ out last) {i : Nat} {n : Int} (ht : Tr ls i (at_ i) n) (he : n = last) : ResO ls none := by
  rcases h.d2 with h1 | ⟨o, ho, h1⟩
  · have := hu.nn ht; omega
  · obtain ⟨j, k, h2, h3, h4⟩ := h.a o ho
    refine ⟨i, at_ i, j, k, n, fun ⟨e1, e2⟩ => by subst e1; omega, ht, ?_⟩
    rw [he, ← h1]; exact h3
theorem sorted_un : ∀ {a b : List Hd}, (a.Pairwise fun p q => p.1 < q.1) → (b.Pairwise fun p q => p.1 < q.1) → (∀ x, x ∈ a ↔ x ∈ b) → a = b
  | [], [], _, _, _ => rfl
  | [], y :: b, _, _, h => by have := (h y).2 (List.mem_cons_self ..); cases this
  | x :: a, [], _, _, h => by have := (h x).1 (List.mem_cons_self ..); cases this
  | x :: a, y :: b, ha, hb, h => by
    obtain ⟨ha1, ha2⟩ := List.pairwise_cons.1 ha
    obtain ⟨hb1, hb2⟩ := List.pairwise_cons.1 hb
    have e : x = y := by
      rcases List.mem_cons.1 ((h x).1 (List.mem_cons_self ..)) with h1 | h1
      · exact h1
      · rcases List.mem_cons.1 ((h y).2 (List.mem_cons_self ..)) with h2 | h2
        · exact h2.symm
        · have := hb1 x h1; have := ha1 y h2; omega
    subst e
    rw [sorted_un ha2 hb2 (fun z => ?_)]
    constructor
    · intro hz
      rcases List.mem_cons.1 ((h z).1 (List.mem_cons_of_mem _ hz)) with h1 | h1
      · subst h1; have := ha1 z hz; omega
      · exact h1
    · intro hz
      rcases List.mem_cons.1 ((h z).2 (List.mem_cons_of_mem _ hz)) with h1 | h1
      · subst h1; have := hb1 z hz; omega
      · exact h1
theorem sorted_inj {out : List Hd} (h : out.Pairwise fun p q => p.1 < q.1) {x y : Hd} (hx : x ∈ out) (hy : y ∈ out) (he : x.1 = y.1) : x = y := by
  obtain ⟨i, hi⟩ := List.mem_iff_getElem?.1 hx; obtain ⟨j, hj⟩ := List.mem_iff_getElem?.1 hy
  obtain ⟨i1, i2⟩ := List.getElem?_eq_some_iff.1 hi; obtain ⟨j1, j2⟩ := List.getElem?_eq_some_iff.1 hj
  have hp := List.pairwise_iff_getElem.1 h
  rcases Nat.lt_trichotomy i j with h1 | h1 | h1
  · have := hp i j i1 j1 h1; rw [i2, j2] at this; omega
  · subst h1; rw [← i2, ← j2]
  · have := hp j i j1 i1 h1; rw [i2, j2] at this; omega
theorem ResO.un {ls : List (List Int)} : ∀ {r r' : Option (List Hd)}, ResO ls r → ResO ls r' → r = r' := by
  have key : ∀ {out : List Hd}, ResO ls none → ResO ls (some out) → False := by
    rintro out ⟨i, k, i', k', n, hne, h1, h2⟩ ⟨h3, h4, h5⟩
    have := sorted_inj h3 (h5 _ _ _ h1) (h5 _ _ _ h2) rfl
    simp only [Prod.mk.injEq, true_and] at this
    exact hne ⟨by omega, by omega⟩
  intro r r' h h'
  cases r with
  | none => cases r' with
    | none => rfl
    | some o => exact (key h h').elim
  | some o => cases r' with
    | none => exact (key h' h).elim
    | some o' =>
      have half : ∀ {a b : List Hd}, ResO ls (some a) → ResO ls (some b) → ∀ x ∈ a, x ∈ b := fun ha hb x hx => by
        obtain ⟨i, k, e1, e2⟩ := ha.2.1 x hx
        rw [e1]; exact hb.2.2 i k _ e2
      rw [sorted_un h.1 h'.1 (fun x => ⟨half h h' x, half h' h x⟩)]
/-- the heap holds each list's next number -/
def HpOf (ls : List (List Int)) (at_ : Nat → Nat) (upto : Nat) (hs : List Hd) : Prop := hs.Nodup ∧ ∀ h : Hd, h ∈ hs ↔ ∃ (i : Nat) (n : Int), i < upto ∧ h = (n, (i : Int), ((at_ i : Nat) : Int)) ∧ Tr ls i (at_ i) n
theorem HpOf.perm {ls : List (List Int)} {at_ : Nat → Nat} {u : Nat} {hs hs' : List Hd} (h : HpOf ls at_ u hs) (hp : hs'.Perm hs) : HpOf ls at_ u hs' := ⟨hp.nodup_iff.2 h.1, fun x => (hp.mem_iff).trans (h.2 x)⟩
/-- a list's next number, from a place on -/
def nxt (ls : List (List Int)) (i k : Nat) : List Hd := match (ls.getD i [])[k]? with
  | some n => [(n, (i : Int), (k : Int))]
  | none => []
theorem Tr.iff {ls : List (List Int)} {i k : Nat} {n : Int} : Tr ls i k n ↔ i < ls.length ∧ (ls.getD i [])[k]? = some n := by
  constructor
  · rintro ⟨l, h1, h2⟩
    have h3 := (List.getElem?_eq_some_iff.1 h1).1
    rw [List.getD_eq_getElem?_getD, h1]; exact ⟨h3, h2⟩
  · rintro ⟨h1, h2⟩
    rw [List.getD_eq_getElem?_getD, List.getElem?_eq_getElem h1] at h2
    exact ⟨_, List.getElem?_eq_getElem h1, h2⟩
theorem nxt_mem {ls : List (List Int)} {i k : Nat} (hi : i < ls.length) {h : Hd} : h ∈ nxt ls i k ↔ ∃ n, h = (n, (i : Int), (k : Int)) ∧ Tr ls i k n := by
  unfold nxt
  constructor
  · intro hh
    split at hh
    · rename_i n hn
      rw [List.mem_singleton] at hh
      exact ⟨n, hh, Tr.iff.2 ⟨hi, hn⟩⟩
    · cases hh
  · rintro ⟨n, rfl, ht⟩
    rw [(Tr.iff.1 ht).2]; exact List.mem_singleton.2 rfl
theorem nxt_nodup (ls : List (List Int)) (i k : Nat) : (nxt ls i k).Nodup := by unfold nxt; split <;> simp
theorem HpOf.fill {ls : List (List Int)} {u : Nat} {hs hs' : List Hd} (h : HpOf ls (fun _ => 0) u hs) (hu : u < ls.length) (hp : hs'.Perm (hs ++ nxt ls u 0)) : HpOf ls (fun _ => 0) (u + 1) hs' := by
  refine HpOf.perm (hs := hs ++ nxt ls u 0) ⟨?_, fun x => ?_⟩ hp
  · refine List.nodup_append.2 ⟨h.1, nxt_nodup _ _ _, fun a ha b hb e => ?_⟩
    subst e
    obtain ⟨i, n, h1, h2, _⟩ := (h.2 a).1 ha
    obtain ⟨m, h3, _⟩ := (nxt_mem hu).1 hb
    rw [h2] at h3; simp only [Prod.mk.injEq] at h3; omega
  · rw [List.mem_append, h.2 x, nxt_mem hu]
    constructor
    · rintro (⟨i, n, h1, h2, h3⟩ | ⟨n, h2, h3⟩)
      · exact ⟨i, n, by omega, h2, h3⟩
      · exact ⟨u, n, by omega, h2, h3⟩
    · rintro ⟨i, n, h1, h2, h3⟩
      rcases Nat.lt_or_ge i u with h4 | h4
      · exact .inl ⟨i, n, h4, h2, h3⟩
      · obtain rfl : i = u := by omega
        exact .inr ⟨n, h2, h3⟩
theorem HpOf.next {ls : List (List Int)} {at_ : Nat → Nat} {hs ys zs : List Hd} {i : Nat} {n : Int} (h : HpOf ls at_ ls.length hs) (hp : ((n, (i : Int), ((at_ i : Nat) : Int)) :: ys).Perm hs) (hi : i < ls.length) (hz : zs.Perm (ys ++ nxt ls i (at_ i + 1))) : HpOf ls (up1 at_ i) ls.length zs := by
  have hnd := (hp.nodup_iff).2 h.1
  obtain ⟨hn1, hn2⟩ := List.nodup_cons.1 hnd
  have hmem : ∀ x, x ∈ ys ↔ x ∈ hs ∧ x ≠ (n, (i : Int), ((at_ i : Nat) : Int)) := fun x => by
    rw [← hp.mem_iff, List.mem_cons]
    constructor
    · intro hx; exact ⟨.inr hx, fun e => hn1 (e ▸ hx)⟩
    · rintro ⟨h1 | h1, h2⟩
      · exact absurd h1 h2
      · exact h1
  have hx : (n, (i : Int), ((at_ i : Nat) : Int)) ∈ hs := (hp.mem_iff).1 (List.mem_cons_self ..)
  obtain ⟨i', n', h1, h2, h3⟩ := (h.2 _).1 hx
  simp only [Prod.mk.injEq] at h2
  obtain ⟨e1, e2, e3⟩ := h2
  obtain rfl : i = i' := by omega
  subst e1
  refine HpOf.perm (hs := ys ++ nxt ls i (at_ i + 1)) ⟨?_, fun x => ?_⟩ hz
  · refine List.nodup_append.2 ⟨hn2, nxt_nodup _ _ _, fun a ha b hb e => ?_⟩
    subst e
    obtain ⟨j, m, g1, g2, g3⟩ := (h.2 a).1 ((hmem a).1 ha).1
    obtain ⟨m', g4, _⟩ := (nxt_mem hi).1 hb
    rw [g2] at g4; simp only [Prod.mk.injEq] at g4
    obtain rfl : j = i := by omega
    omega
  · rw [List.mem_append, hmem, h.2 x, nxt_mem hi]
    constructor
    · rintro (⟨⟨j, m, g1, g2, g3⟩, g4⟩ | ⟨m, g2, g3⟩)
      · have hji : j ≠ i := fun e => by subst e; rw [g2] at g4; exact g4 (by rw [g3.un h3])
        exact ⟨j, m, g1, by rw [g2]; simp only [up1, if_neg hji], by simp only [up1, if_neg hji]; exact g3⟩
      · exact ⟨i, m, hi, by rw [g2]; simp only [up1, if_true], by simp only [up1, if_true]; exact g3⟩
    · rintro ⟨j, m, g1, g2, g3⟩
      by_cases e : j = i
      · subst e
        simp only [up1, if_true] at g2 g3
        exact .inr ⟨m, g2, g3⟩
      · simp only [up1, if_neg e] at g2 g3
        exact .inl ⟨⟨j, m, g1, g2, g3⟩, fun e2 => by rw [g2] at e2; simp only [Prod.mk.injEq] at e2; omega⟩
theorem HpOf.zero (ls : List (List Int)) : HpOf ls (fun _ => 0) 0 [] := ⟨List.nodup_nil, fun x => ⟨fun h => by (cases h), fun ⟨i, n, h, _⟩ => by omega⟩⟩
theorem HpOf.noTr {ls : List (List Int)} {at_ : Nat → Nat} (h : HpOf ls at_ ls.length []) : ∀ i n, ¬ Tr ls i (at_ i) n := fun i n ht => by
  have := (h.2 _).2 ⟨i, n, ht.lt.1, rfl, ht⟩; cases this
theorem HpOf.len {ls : List (List Int)} {at_ : Nat → Nat} {u : Nat} {hs : List Hd} (h : HpOf ls at_ u hs) : hs.length ≤ u := by
  have hsub : (hs.map fun h => h.2.1.toNat).Nodup := by
    refine List.pairwise_map.2 (h.1.imp_of_mem fun {a b} ha hb hab e => hab ?_)
    obtain ⟨i, n, _, h2, h3⟩ := (h.2 a).1 ha
    obtain ⟨j, m, _, g2, g3⟩ := (h.2 b).1 hb
    rw [h2, g2] at e
    simp only [Int.toNat_natCast] at e
    subst e
    rw [h2, g2, h3.un g3]
  have hlt : ∀ x ∈ (hs.map fun h => h.2.1.toNat), x < u := fun x hx => by
    obtain ⟨y, hy, rfl⟩ := List.mem_map.1 hx
    obtain ⟨i, n, h1, h2, _⟩ := (h.2 y).1 hy
    rw [h2]; simpa using h1
  have hss : ∀ x ∈ (hs.map fun h => h.2.1.toNat), x ∈ List.range u := fun x hx => List.mem_range.2 (hlt x hx)
  have := List.Nodup.length_le_of_subset hsub hss
  rw [List.length_map, List.length_range] at this; exact this
theorem rises_iff {l : List Int} (h0 : 0 < l.length) : rises (-1) l = true ↔ 0 ≤ l.getD 0 0 ∧ (∀ i, i + 1 < l.length → l.getD i 0 ≤ l.getD (i + 1) 0) ∧ (∀ i, i + 1 < l.length → l.getD i 0 ≠ l.getD (i + 1) 0) := by
  have key : ∀ (l : List Int) (last : Int), rises last l = true ↔ (∀ x, l[0]? = some x → last < x) ∧ ∀ i, i + 1 < l.length → l.getD i 0 < l.getD (i + 1) 0 := by
    intro l
    induction l with
    | nil => intro last; simp [rises]
    | cons a l ih =>
      intro last
      simp only [rises, Bool.and_eq_true, decide_eq_true_eq, ih a]
      constructor
      · rintro ⟨h1, h2, h3⟩
        refine ⟨fun x hx => by simp at hx; omega, fun i hi => ?_⟩
        cases i with
        | zero =>
          cases l with
          | nil => simp at hi
          | cons b l => simpa using h2 b rfl
        | succ i => simpa using h3 i (by simpa using hi)
      · rintro ⟨h1, h2⟩
        refine ⟨h1 a rfl, fun x hx => ?_, fun i hi => ?_⟩
        · have := h2 0 (by have := (List.getElem?_eq_some_iff.1 hx).1; simp; omega)
          simp only [List.getD_cons_zero, Nat.zero_add, List.getD_cons_succ] at this; rw [List.getD_eq_getElem?_getD, hx] at this; exact this
        · have := h2 (i + 1) (by simp; omega)
          simpa using this
  rw [key]
  constructor
  · rintro ⟨h1, h2⟩
    refine ⟨?_, fun i hi => Int.le_of_lt (h2 i hi), fun i hi => by have := h2 i hi; omega⟩
    have := h1 _ (List.getElem?_eq_getElem h0)
    rw [List.getD_eq_getElem?_getD, List.getElem?_eq_getElem h0]; simp only [Option.getD_some]; omega
  · rintro ⟨h1, h2, h3⟩
    refine ⟨fun x hx => ?_, fun i hi => by have := h2 i hi; have := h3 i hi; omega⟩
    rw [List.getD_eq_getElem?_getD, hx] at h1; simp only [Option.getD_some] at h1; omega
def outO (out : List Hd) : List (Int × Int) := out.map Prod.snd
end Go.K

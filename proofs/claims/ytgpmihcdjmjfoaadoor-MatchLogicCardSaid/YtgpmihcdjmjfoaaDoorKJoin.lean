/- Lists of documents joined, in plain Lean. No program is named here. -/
import Derived.Test.YtgpmihcdjmjfoaaDoorKStr2
namespace Go.K
set_option linter.unusedVariables false
set_option linter.unusedSimpArgs false
structure Rise (l : List Fo) (lo hi : Nat) : Prop where
  up : l.Pairwise fun p q => p.1 < q.1
  rng : ∀ p ∈ l, (lo : Int) ≤ p.1 ∧ p.1 < hi
  sc : ∀ p ∈ l, -1000 ≤ p.2 ∧ p.2 ≤ 1000
def scoreF : List Fo → Int → Int
  | [], _ => 0
  | p :: l, d => if p.1 = d then p.2 else scoreF l d
def cnt (a b : List Fo) (d : Int) : Int := (if hasF a d then 1 else 0) + (if hasF b d then 1 else 0)
def jl (least : Int) (a b : List Fo) (d : Nat) : List Fo := if least ≤ cnt a b (d : Int) then [((d : Int), scoreF a (d : Int) + scoreF b (d : Int))] else []
def outL (least : Int) (a b : List Fo) (p k : Nat) : List Fo := (List.range' p k).flatMap (jl least a b)
theorem Rise.okD {l : List Fo} {lo hi : Nat} (h : Rise l lo hi) (hh : hi ≤ 100000) : okD l := fun p hp => by have := h.rng p hp; omega
theorem Rise.head {p : Fo} {l : List Fo} {lo hi : Nat} (h : Rise (p :: l) lo hi) : ∀ q ∈ l, p.1 < q.1 := (List.pairwise_cons.1 h.up).1
theorem hasF_cons (p : Fo) (l : List Fo) (d : Int) : hasF (p :: l) d = (decide (p.1 = d) || hasF l d) := rfl
theorem hasF_none {l : List Fo} {d : Int} (h : ∀ q ∈ l, d < q.1) : hasF l d = false := by
  unfold hasF
  rw [List.any_eq_false]
  intro q hq
  have := h q hq
  simp only [decide_eq_true_eq]; omega
theorem scoreF_none : ∀ {l : List Fo} {d : Int}, hasF l d = false → scoreF l d = 0
  | [], _, _ => rfl
  | p :: l, d, h => by
    rw [hasF_cons, Bool.or_eq_false_iff, decide_eq_false_iff_not] at h
    rw [scoreF, if_neg h.1, scoreF_none h.2]
theorem Rise.hit {l : List Fo} {lo hi : Nat} (h : Rise l lo hi) : hit l (lo : Int) = hasF l (lo : Int) := by
  cases l with
  | nil => rfl
  | cons p l =>
    rw [hasF_cons]
    change decide (p.1 = (lo : Int)) = _
    have h1 := h.rng p (List.mem_cons_self ..)
    rw [hasF_none (l := l) (fun q hq => by have := h.head q hq; omega), Bool.or_false]
theorem Rise.rest {l : List Fo} {lo hi : Nat} (h : Rise l lo hi) : Rise (restF l (lo : Int)) (lo + 1) hi ∧ (∀ d : Int, (lo : Int) < d → hasF (restF l (lo : Int)) d = hasF l d ∧ scoreF (restF l (lo : Int)) d = scoreF l d) := by
  cases l with
  | nil => exact ⟨⟨List.Pairwise.nil, fun p hp => by simp [restF, Go.K.hit] at hp, fun p hp => by simp [restF, Go.K.hit] at hp⟩, fun d _ => ⟨rfl, rfl⟩⟩
  | cons p l =>
    have h1 := h.rng p (List.mem_cons_self ..)
    by_cases hp : p.1 = (lo : Int)
    · have e : restF (p :: l) (lo : Int) = l := by unfold restF; rw [if_pos (hit_of hp)]; rfl
      rw [e]
      refine ⟨⟨(List.pairwise_cons.1 h.up).2, fun q hq => ?_, fun q hq => h.sc q (List.mem_cons_of_mem _ hq)⟩, fun d hd => ⟨?_, ?_⟩⟩
      · have := h.head q hq
        have := h.rng q (List.mem_cons_of_mem _ hq)
        omega
      · rw [hasF_cons, decide_eq_false (by omega), Bool.false_or]
      · rw [scoreF, if_neg (by omega)]
    · have e : restF (p :: l) (lo : Int) = p :: l := by
        unfold restF; rw [if_neg]; intro h2; exact hp (of_decide_eq_true h2)
      rw [e]
      refine ⟨⟨h.up, fun q hq => ?_, h.sc⟩, fun d _ => ⟨rfl, rfl⟩⟩
      have h3 := h.rng q hq
      rcases List.mem_cons.1 hq with rfl | hq2
      · omega
      · have := h.head q hq2; omega
theorem Rise.skip {l : List Fo} {lo hi : Nat} (h : Rise l lo hi) (hn : hasF l (lo : Int) = false) : Rise l (lo + 1) hi := by
  refine ⟨h.up, fun p hp => ?_, h.sc⟩
  have h1 := h.rng p hp
  have : p.1 ≠ (lo : Int) := fun e => by
    have : hasF l (lo : Int) = true := by unfold hasF; rw [List.any_eq_true]; exact ⟨p, hp, decide_eq_true e⟩
    rw [hn] at this; cases this
  omega
theorem Rise.score {l : List Fo} {lo hi : Nat} (h : Rise l lo hi) {s : Int} (hs : -1000 ≤ s ∧ s ≤ 1000) : addS l (lo : Int) s = s + scoreF l (lo : Int) ∧ -1000 ≤ scoreF l (lo : Int) ∧ scoreF l (lo : Int) ≤ 1000 := by
  cases l with
  | nil => simp [addS, Go.K.hit, scoreF]
  | cons p l =>
    have h1 := h.sc p (List.mem_cons_self ..)
    have h2 := h.hit
    unfold addS
    rw [h2]
    by_cases hp : p.1 = (lo : Int)
    · rw [if_pos (by rw [hasF_cons, decide_eq_true hp]; rfl), scoreF, if_pos hp]
      refine ⟨?_, h1⟩
      change IntKind.i64.wrap (s + p.2) = _
      exact IntWalk.i64_in _ (by omega)
    · have hn : hasF (p :: l) (lo : Int) = false := by rw [← h2]; exact decide_eq_false hp
      rw [hn, scoreF_none hn]; simp
theorem min_x {a b : List Fo} {lo hi : Nat} (ha : Rise a lo hi) (hb : Rise b lo hi) (hh : hi ≤ 100000) (h : hasF a (lo : Int) = true ∨ hasF b (lo : Int) = true) : mnX a b = (lo : Int) := by
  rw [← ha.hit, ← hb.hit] at h
  have key : ∀ {l : List Fo}, Rise l lo hi → ∀ x : Int, (lo : Int) ≤ x → (lo : Int) ≤ mn l x ∧ (hit l (lo : Int) = true → mn l x = (lo : Int)) ∧ mn l x ≤ x := by
    intro l hl x hx
    cases l with
    | nil => exact ⟨hx, fun h => by simp [hit] at h, Int.le_refl _⟩
    | cons p l =>
      have h1 := hl.rng p (List.mem_cons_self ..)
      change (lo : Int) ≤ min x p.1 ∧ (_ → min x p.1 = (lo : Int)) ∧ min x p.1 ≤ x
      exact ⟨by omega, fun h => by have : p.1 = (lo : Int) := of_decide_eq_true h; omega, by omega⟩
  obtain ⟨k1, k2, k3⟩ := key ha 2147483648 (by
    rcases h with h | h
    · cases a with
      | nil => simp [hit] at h
      | cons p l => have := ha.rng p (List.mem_cons_self ..); omega
    · cases b with
      | nil => simp [hit] at h
      | cons p l => have := hb.rng p (List.mem_cons_self ..); omega)
  obtain ⟨j1, j2, j3⟩ := key hb _ k1
  unfold mnX
  rcases h with h | h
  · have := k2 h; omega
  · exact j2 h
theorem many_x {a b : List Fo} {lo hi : Nat} (ha : Rise a lo hi) (hb : Rise b lo hi) (hx : mnX a b = (lo : Int)) : mny a b 2 = cnt a b (lo : Int) ∧ scr a b 2 = scoreF a (lo : Int) + scoreF b (lo : Int) := by
  constructor
  · change addM b (mnX a b) (addM a (mnX a b) 0) = _
    rw [hx]
    unfold addM cnt
    rw [ha.hit, hb.hit]
    cases hasF a (lo : Int) <;> cases hasF b (lo : Int) <;> rfl
  · change addS b (mnX a b) (addS a (mnX a b) 0) = _
    rw [hx]
    obtain ⟨h1, h2⟩ := ha.score (s := 0) (by omega)
    rw [Int.zero_add] at h1
    rw [h1, (hb.score h2).1]
theorem jl_eq {least : Int} {a b a' b' : List Fo} {d : Nat} (h1 : hasF a' (d : Int) = hasF a (d : Int)) (h2 : scoreF a' (d : Int) = scoreF a (d : Int)) (h3 : hasF b' (d : Int) = hasF b (d : Int)) (h4 : scoreF b' (d : Int) = scoreF b (d : Int)) : jl least a' b' d = jl least a b d := by
  unfold jl cnt; rw [h1, h2, h3, h4]
theorem ofP_outL {least : Int} (hl : 1 ≤ least) : ∀ (k p : Nat) (a b : List Fo), p + k ≤ 100000 → Rise a p (p + k) → Rise b p (p + k) → ofP least a b = outL least a b p k
  | 0, p, a, b, _, ha, hb => by
    have e1 : a = [] := by
      cases a with
      | nil => rfl
      | cons q l => have := ha.rng q (List.mem_cons_self ..); omega
    have e2 : b = [] := by
      cases b with
      | nil => rfl
      | cons q l => have := hb.rng q (List.mem_cons_self ..); omega
    subst e1; subst e2; rfl
  | k + 1, p, a, b, hk, ha, hb => by
    have hout : outL least a b p (k + 1) = jl least a b p ++ outL least a b (p + 1) k := by
      unfold outL; rw [List.range'_succ, List.flatMap_cons]
    rw [hout]
    by_cases h : hasF a (p : Int) = true ∨ hasF b (p : Int) = true
    · have hx := min_x ha hb (by omega) h
      obtain ⟨hm, hs⟩ := many_x ha hb hx
      have hne : a ≠ [] ∨ b ≠ [] := by
        rcases h with h | h
        · left; rintro rfl; simp [hasF] at h
        · right; rintro rfl; simp [hasF] at h
      rw [ofP_step (ha.okD (by omega)) (hb.okD (by omega)) hne, hm, hs, hx]
      obtain ⟨ra, ea⟩ := ha.rest
      obtain ⟨rb, eb⟩ := hb.rest
      rw [ofP_outL hl k (p + 1) _ _ (by omega) (by rw [show p + 1 + k = p + (k + 1) from by omega]; exact ra) (by rw [show p + 1 + k = p + (k + 1) from by omega]; exact rb)]
      congr 1
      unfold outL
      rw [List.flatMap_def, List.flatMap_def]
      congr 1
      apply List.map_congr_left
      intro d hd
      rw [List.mem_range'_1] at hd
      exact jl_eq (ea d (by omega)).1 (ea d (by omega)).2 (eb d (by omega)).1 (eb d (by omega)).2
    · have h1 : hasF a (p : Int) = false := by cases e : hasF a (p : Int) with | false => rfl | true => exact absurd (.inl e) h
      have h2 : hasF b (p : Int) = false := by cases e : hasF b (p : Int) with | false => rfl | true => exact absurd (.inr e) h
      have hj : jl least a b p = [] := by unfold jl cnt; rw [h1, h2, if_neg]; simp; omega
      rw [hj, List.nil_append]
      exact ofP_outL hl k (p + 1) a b (by omega) (by rw [show p + 1 + k = p + (k + 1) from by omega]; exact ha.skip h1) (by rw [show p + 1 + k = p + (k + 1) from by omega]; exact hb.skip h2)
theorem outL_succ (least : Int) (a b : List Fo) (k : Nat) : outL least a b 0 (k + 1) = outL least a b 0 k ++ jl least a b k := by
  unfold outL
  rw [List.range'_concat]; simp
theorem outL_more {least : Int} (hl : 1 ≤ least) {a b : List Fo} {m : Nat} (ha : ∀ p ∈ a, p.1 < m) (hb : ∀ p ∈ b, p.1 < m) : ∀ k : Nat, m ≤ k → outL least a b 0 k = outL least a b 0 m
  | k, h => by
    rcases Nat.lt_or_ge m k with h1 | h1
    · obtain ⟨c, rfl⟩ : ∃ c, k = c + 1 := ⟨k - 1, by omega⟩
      have key : ∀ l : List Fo, (∀ p ∈ l, p.1 < m) → hasF l (c : Int) = false := fun l hl => by
        unfold hasF; rw [List.any_eq_false]; intro p hp; have := hl p hp; simp only [decide_eq_true_eq]; omega
      have hj : jl least a b c = [] := by unfold jl cnt; rw [key a ha, key b hb, if_neg]; simp; omega
      rw [outL_succ, hj, List.append_nil, outL_more hl ha hb c (by omega)]
    · rw [show k = m from by omega]
theorem outL_len (least : Int) (a b : List Fo) : ∀ k, (outL least a b 0 k).length ≤ k
  | 0 => by simp [outL]
  | k + 1 => by
    rw [outL_succ, List.length_append]
    have := outL_len least a b k
    unfold jl; split <;> simp <;> omega
theorem Rise.nil (lo hi : Nat) : Rise [] lo hi := ⟨List.Pairwise.nil, (fun _ h => by (cases h)), (fun _ h => by (cases h))⟩
theorem Rise.snoc {l : List Fo} {m : Nat} (h : Rise l 0 m) {d : Int} {m' : Nat} {s : Int} (hd : (m : Int) ≤ d ∧ d < m') (hs : -1000 ≤ s ∧ s ≤ 1000) : Rise (l ++ [(d, s)]) 0 m' := by
  refine ⟨List.pairwise_append.2 ⟨h.up, List.pairwise_singleton _ _, fun p hp q hq => ?_⟩, fun p hp => ?_, fun p hp => ?_⟩
  · simp only [List.mem_singleton] at hq; subst hq
    have := h.rng p hp; simp only; omega
  · rcases List.mem_append.1 hp with hp | hp
    · have := h.rng p hp; omega
    · simp only [List.mem_singleton] at hp; subst hp; simp only; omega
  · rcases List.mem_append.1 hp with hp | hp
    · exact h.sc p hp
    · simp only [List.mem_singleton] at hp; subst hp; exact hs
theorem Rise.wide {l : List Fo} {m m' : Nat} (h : Rise l 0 m) (hm : m ≤ m') : Rise l 0 m' := ⟨h.up, fun p hp => by have := h.rng p hp; omega, h.sc⟩
def AtR (l : List Fo) (d r : Int) : Prop := (∃ i : Nat, r = i ∧ hasF l d = true ∧ l[i]? = some (d, scoreF l d)) ∨ (r = -1 ∧ hasF l d = false)
theorem scoreF_at : ∀ {l : List Fo} {i : Nat} {d s : Int}, l[i]? = some (d, s) → (∀ t, t < i → ∀ q, l[t]? = some q → q.1 ≠ d) → scoreF l d = s
  | [], _, _, _, h, _ => by simp at h
  | p :: l, 0, d, s, h, _ => by
    simp at h; subst h; simp [scoreF]
  | p :: l, i + 1, d, s, h, hno => by
    have h0 := hno 0 (by omega) p rfl
    rw [scoreF, if_neg h0]
    exact scoreF_at (i := i) (by simpa using h) (fun t ht q hq => hno (t + 1) (by omega) q (by simpa using hq))
theorem tmodK (x : Int) : -1000 < x.tmod 1000 ∧ x.tmod 1000 < 1000 := by
  have h1 := Int.tmod_lt_of_pos x (b := 1000) (by decide)
  have h2 := Int.tmod_lt_of_pos (-x) (b := 1000) (by decide)
  rw [Int.neg_tmod] at h2
  omega
theorem jl_y {least : Int} {a b : List Fo} {d : Nat} (h : least ≤ cnt a b (d : Int)) : jl least a b d = [((d : Int), scoreF a (d : Int) + scoreF b (d : Int))] := by unfold jl; rw [if_pos h]
theorem jl_n {least : Int} {a b : List Fo} {d : Nat} (h : ¬ least ≤ cnt a b (d : Int)) : jl least a b d = [] := by unfold jl; rw [if_neg h]
def fixE (d : Int) : Int := if d < 0 then -(d + 1) else d
theorem last_all {l : List Fo} {lo hi : Nat} (h : Rise l lo hi) {p : Fo} (hx : l[l.length - 1]? = some p) : ∀ q ∈ l, q.1 < p.1 + 1 := fun q hq => by
  obtain ⟨t, ht⟩ := List.mem_iff_getElem?.1 hq
  obtain ⟨h1, h2⟩ := List.getElem?_eq_some_iff.1 ht
  obtain ⟨h3, h4⟩ := List.getElem?_eq_some_iff.1 hx
  rcases Nat.lt_or_ge t (l.length - 1) with h5 | h5
  · have := (List.pairwise_iff_getElem.1 h.up) t (l.length - 1) h1 h3 h5
    rw [h2, h4] at this; omega
  · have e : t = l.length - 1 := by omega
    subst e
    rw [h4] at h2; subst h2; omega
theorem outL_fst (least : Int) (a b : List Fo) : ∀ k : Nat, (outL least a b 0 k).map Prod.fst = ((List.range k).filter fun (d : Nat) => decide (least ≤ cnt a b (d : Int))).map fun (d : Nat) => (d : Int)
  | 0 => by simp [outL]
  | k + 1 => by
    rw [outL_succ, List.map_append, outL_fst least a b k, List.range_succ, List.filter_append, List.map_append]
    congr 1
    unfold jl
    by_cases h : least ≤ cnt a b (k : Int)
    · rw [if_pos h]; simp [List.filter, h]
    · rw [if_neg h]; simp [List.filter, h]
theorem outN_fst (a : List Fo) (n : Nat) : (outN a n).map Prod.fst = ((List.range n).filter fun (d : Nat) => !hasF a (d : Int)).map fun (d : Nat) => (d : Int) := by
  unfold outN; rw [List.map_map]; rfl
theorem hasF_fst {l : List Fo} {d : Int} : hasF l d = (l.map Prod.fst).contains d := by
  rw [Bool.eq_iff_iff, List.contains_iff_mem, List.mem_map, hasF_iff]
  constructor
  · rintro ⟨t, p, ht, hp⟩; exact ⟨p, List.mem_of_getElem? ht, hp⟩
  · rintro ⟨p, hp, h⟩
    obtain ⟨t, ht⟩ := List.mem_iff_getElem?.1 hp
    exact ⟨t, p, ht, h⟩
theorem filter_has {q : Nat → Bool} {k d : Nat} (hd : d < k) : (((List.range k).filter q).map fun (d : Nat) => (d : Int)).contains (d : Int) = q d := by
  rw [Bool.eq_iff_iff, List.contains_iff_mem, List.mem_map]
  constructor
  · rintro ⟨e, he, h⟩
    rw [List.mem_filter] at he
    rw [← Int.ofNat.inj h]; exact he.2
  · intro h
    exact ⟨d, List.mem_filter.2 ⟨List.mem_range.2 hd, h⟩, rfl⟩
theorem outN_rise (a : List Fo) (n : Nat) : Rise (outN a n) 0 n := by
  induction n with
  | zero => exact Rise.nil _ _
  | succ n ih =>
    rw [outN_succ]
    split
    · rw [List.append_nil]; exact ih.wide (by omega)
    · exact ih.snoc (by omega) (by omega)
theorem logic_fst {x y : List Fo} (hx : Rise x 0 250) (hy : Rise y 0 250) : (ofP 2 x y).map Prod.fst = (outN (ofP 1 (outN x 250) (outN y 250)) 250).map Prod.fst := by
  rw [ofP_outL (by decide) 250 0 x y (by decide) hx hy, ofP_outL (by decide) 250 0 _ _ (by decide) (outN_rise x 250) (outN_rise y 250), outL_fst, outN_fst]
  congr 1
  apply List.filter_congr
  intro d hd
  have hd2 := List.mem_range.1 hd
  rw [hasF_fst (l := outL 1 _ _ 0 250), outL_fst, filter_has hd2]
  have e1 : hasF (outN x 250) (d : Int) = !hasF x (d : Int) := by rw [hasF_fst (l := outN x 250), outN_fst, filter_has hd2]
  have e2 : hasF (outN y 250) (d : Int) = !hasF y (d : Int) := by rw [hasF_fst (l := outN y 250), outN_fst, filter_has hd2]
  unfold cnt
  rw [e1, e2]
  cases hasF x (d : Int) <;> cases hasF y (d : Int) <;> simp
theorem outN_zero {a : List Fo} {n : Nat} : ∀ z ∈ outN a n, z.2 = 0 := fun z hz => by
  unfold outN at hz
  obtain ⟨d, _, rfl⟩ := List.mem_map.1 hz
  rfl
theorem logic_at {p q : List Fo} (h : p.map Prod.fst = q.map Prod.fst) (hz : ∀ z ∈ q, z.2 = 0) {i : Nat} {d s : Int} (hx : p[i]? = some (d, s)) : q[i]? = some (d, 0) := by
  have h1 : (p.map Prod.fst)[i]? = some d := by rw [List.getElem?_map, hx]; rfl
  rw [h, List.getElem?_map] at h1
  cases hq : q[i]? with
  | none => rw [hq] at h1; cases h1
  | some z =>
    rw [hq] at h1
    have h2 := hz z (List.mem_of_getElem? hq)
    have h3 : z.1 = d := by simpa using h1
    rw [← h3, ← h2]
theorem join_eq {least : Int} (hl : 1 ≤ least) {x y : List Fo} (hx : Rise x 0 1000) (hy : Rise y 0 1000) {mo : Nat} (ha : ∀ p ∈ x, p.1 < mo) (hb : ∀ p ∈ y, p.1 < mo) (hm : mo ≤ 1000) : ofP least x y = outL least x y 0 mo := by
  rw [ofP_outL hl 1000 0 x y (by decide) hx hy]
  exact outL_more hl ha hb 1000 hm
end Go.K

/- Numbers as bytes: plain Lean, without Go and memory. -/
namespace Go.K
set_option linter.unusedVariables false
set_option linter.unusedSimpArgs false

/-- a number's bytes -/
def put (n : Nat) : List UInt8 := if n < 128 then [UInt8.ofNat n] else UInt8.ofNat (128 + n % 128) :: put (n / 128)
termination_by n
decreasing_by omega

theorem put_lt {n : Nat} (h : n < 128) : put n = [UInt8.ofNat n] := by rw [put, if_pos h]
theorem put_ge {n : Nat} (h : 128 ≤ n) : put n = UInt8.ofNat (128 + n % 128) :: put (n / 128) := by rw [put, if_neg (by omega)]
theorem put_pos (n : Nat) : 0 < (put n).length := by rw [put]; split <;> simp
theorem put_len {k : Nat} : ∀ {n : Nat}, n < 128 ^ (k + 1) → (put n).length ≤ k + 1 := by
  induction k with
  | zero => intro n h; rw [put_lt (by simpa using h)]; simp
  | succ k ih =>
    intro n h
    by_cases h1 : n < 128
    · rw [put_lt h1]; simp
    · rw [put_ge (by omega)]
      have := ih (n := n / 128) (by rw [Nat.pow_succ] at h; omega)
      simp; omega
theorem put_len9 {n : Nat} (h : n ≤ 9223372036854775807) : (put n).length ≤ 9 := put_len (k := 8) (by omega)

/-- the number that bytes begin with, and how many they are: from the place i on, n having come -/
def getL : List UInt8 → Nat → Nat → Option (Nat × Nat)
  | [], _, _ => none
  | c :: cs, i, n => if c.toNat < 128 then (if c.toNat = 0 ∧ 0 < i then none else some (n + c.toNat % 128 * 128 ^ i, i + 1)) else getL cs (i + 1) (n + c.toNat % 128 * 128 ^ i)

/-- the number at a place, the place behind it, the error -/
def get (b : List UInt8) (at_ : Int) : Int × Int × Int :=
  if at_ < 0 ∨ (b.length : Int) < at_ then (0, 0, 1)
  else match getL ((b.drop at_.toNat).take 9) 0 0 with
    | some (n, k) => (n, at_ + k, 0)
    | none => (0, 0, 2)

theorem getL_drop {bs : List UInt8} {k : Nat} {c : UInt8} (h : bs[k]? = some c) (n : Nat) : getL (bs.drop k) k n =
    if c.toNat < 128 then (if c.toNat = 0 ∧ 0 < k then none else some (n + c.toNat % 128 * 128 ^ k, k + 1)) else getL (bs.drop (k + 1)) (k + 1) (n + c.toNat % 128 * 128 ^ k) := by
  obtain ⟨hlt, he⟩ := List.getElem?_eq_some_iff.1 h
  rw [List.drop_eq_getElem_cons hlt, getL, he]

theorem window (b : List UInt8) (i : Nat) : (b.take (min b.length (i + 9))).drop i = (b.drop i).take 9 := by
  rw [List.drop_take, List.take_eq_take_iff]; simp; omega

/-- the number of bytes, the least digit first -/
def val : List UInt8 → Nat
  | [] => 0
  | c :: cs => c.toNat % 128 + 128 * val cs

theorem val_snoc (l : List UInt8) (c : UInt8) : val (l ++ [c]) = val l + c.toNat % 128 * 128 ^ l.length := by
  induction l with
  | nil => simp [val]
  | cons d l ih => simp only [List.cons_append, val, ih, List.length_cons, Nat.pow_succ, Nat.mul_add, Nat.add_assoc]; congr 2; rw [← Nat.mul_assoc, Nat.mul_comm 128, Nat.mul_assoc, Nat.mul_comm 128]

/-- written again, bytes are the same just if they have no needless 0 -/
theorem put_val : ∀ (l : List UInt8) (c : UInt8), (∀ d ∈ l, 128 ≤ d.toNat) → c.toNat < 128 → (put (val (l ++ [c])) = l ++ [c] ↔ (l = [] ∨ c.toNat ≠ 0))
  | [], c, _, hc => by
    have h1 : val ([] ++ [c]) = c.toNat := by simp [val]; omega
    rw [h1, put_lt hc]; simp
  | d :: l, c, hl, hc => by
    have hd := hl d (List.mem_cons_self ..)
    have hd2 := d.toNat_lt
    have ih := put_val l c (fun x hx => hl x (List.mem_cons_of_mem _ hx)) hc
    simp only [List.cons_append, val]
    by_cases h0 : val (l ++ [c]) = 0
    · rw [h0, put_lt (by omega)]
      constructor
      · intro h
        have := congrArg List.length h
        simp at this
      · rintro (h | h)
        · cases h
        · exfalso
          have hz : ∀ (l : List UInt8), val (l ++ [c]) = 0 → c.toNat % 128 = 0 := by
            intro l
            induction l with
            | nil => intro h; simpa [val] using h
            | cons e l ih => intro h; simp only [List.cons_append, val] at h; exact ih (by omega)
          have := hz l h0
          omega
    · rw [put_ge (by omega)]
      have e1 : (d.toNat % 128 + 128 * val (l ++ [c])) / 128 = val (l ++ [c]) := by omega
      have e2 : UInt8.ofNat (128 + (d.toNat % 128 + 128 * val (l ++ [c])) % 128) = d := by
        apply UInt8.toNat_inj.1; rw [UInt8.toNat_ofNat']; omega
      rw [e1, e2]
      constructor
      · intro h
        rcases ih.1 (List.cons.inj h).2 with h1 | h1
        · subst h1
          right; intro h2; simp [val, h2] at h0
        · exact .inr h1
      · rintro (h | h)
        · cases h
        · rw [ih.2 (.inr h)]
theorem put_ne {l : List UInt8} {c : UInt8} (hl : ∀ d ∈ l, 128 ≤ d.toNat) (hc : c.toNat < 128) : put (val (l ++ [c])) ≠ l ++ [c] ↔ (c.toNat = 0 ∧ 0 < l.length) := by
  rw [Ne, put_val l c hl hc]
  cases l <;> simp

/-- do numbers rise, from 0 on? -/
def rises : Int → List Int → Bool
  | _, [] => true
  | last, x :: l => decide (last < x) && rises x l
/-- rising numbers' bytes, behind a last one -/
def putR : Int → List Int → List UInt8
  | _, [] => []
  | last, x :: l => put (x - last - 1).toNat ++ putR x l
def putRising (l : List Int) : List UInt8 := put l.length ++ putR (-1) l

/-- numbers that rise, made of any -/
def goodL : Int → List Int → List Int
  | _, [] => []
  | last, x :: l => let m := if x < 0 then -(x + 1) else x; (last + 1 + m % 1000) :: goodL (last + 1 + m % 1000) l
def good (l : List Int) (most : Nat) : List Int := goodL (-1) (l.take most)

theorem get_ok {b : List UInt8} {at_ : Int} (h : (get b at_).2.2 = 0) : 0 ≤ at_ ∧ at_ < (get b at_).2.1 ∧ (get b at_).2.1 ≤ b.length ∧ 0 ≤ (get b at_).1 ∧ (get b at_).1 < 9223372036854775808 := by
  unfold get at h ⊢
  split at h
  · simp at h
  rename_i hr
  rw [if_neg hr] at *
  have key : ∀ (bs : List UInt8) (i n m k : Nat), getL bs i n = some (m, k) → bs.length + i ≤ 9 → n < 128 ^ i → i < k ∧ k ≤ i + bs.length ∧ m < 128 ^ k := by
    intro bs
    induction bs with
    | nil => intro i n m k h; simp [getL] at h
    | cons c cs ih =>
      intro i n m k h hl hn
      have hd : n + c.toNat % 128 * 128 ^ i < 128 ^ (i + 1) := by
        have := Nat.mul_le_mul_right (128 ^ i) (show c.toNat % 128 ≤ 127 from by omega)
        rw [Nat.pow_succ]; omega
      simp only [getL] at h
      split at h
      · split at h
        · cases h
        · cases h; exact ⟨by omega, by simp, hd⟩
      · obtain ⟨h1, h2, h3⟩ := ih (i + 1) _ m k h (by simp at hl; omega) hd
        exact ⟨by omega, by simp; omega, h3⟩
  cases hg : getL ((b.drop at_.toNat).take 9) 0 0 with
  | none => simp [hg] at h
  | some p =>
    obtain ⟨m, k⟩ := p
    have hlen : ((b.drop at_.toNat).take 9).length ≤ 9 ∧ ((b.drop at_.toNat).take 9).length ≤ b.length - at_.toNat := by rw [List.length_take, List.length_drop]; omega
    obtain ⟨h1, h2, h3⟩ := key _ 0 0 m k hg (by omega) (by decide)
    have hp : 128 ^ k ≤ 128 ^ 9 := Nat.pow_le_pow_right (by decide) (by omega)
    simp only
    omega

/-- rising numbers that bytes begin with: the error, the numbers, the place behind them -/
def getRL (b : List UInt8) : Nat → Int → Int → Int × List Int × Int
  | 0, at_, _ => (0, [], at_)
  | k + 1, at_, last =>
    if (get b at_).2.2 ≠ 0 then ((get b at_).2.2, [], 0)
    else if 4611686018427387904 - last - 1 < (get b at_).1 then (2, [], 0)
    else if (getRL b k (get b at_).2.1 (last + 1 + (get b at_).1)).1 ≠ 0 then ((getRL b k (get b at_).2.1 (last + 1 + (get b at_).1)).1, [], 0)
    else (0, (last + 1 + (get b at_).1) :: (getRL b k (get b at_).2.1 (last + 1 + (get b at_).1)).2.1, (getRL b k (get b at_).2.1 (last + 1 + (get b at_).1)).2.2)
def getRising (b : List UInt8) (at_ : Int) : Int × List Int × Int :=
  if (get b at_).2.2 ≠ 0 then ((get b at_).2.2, [], 0) else getRL b (get b at_).1.toNat (get b at_).2.1 (-1)

theorem rises_drop {l : List Int} {k : Nat} {x : Int} (h : l[k]? = some x) (last : Int) : rises last (l.drop k) = (decide (last < x) && rises x (l.drop (k + 1))) := by
  obtain ⟨hlt, he⟩ := List.getElem?_eq_some_iff.1 h
  rw [List.drop_eq_getElem_cons hlt, rises, he]
theorem putR_drop {l : List Int} {k : Nat} {x : Int} (h : l[k]? = some x) (last : Int) : putR last (l.drop k) = put (x - last - 1).toNat ++ putR x (l.drop (k + 1)) := by
  obtain ⟨hlt, he⟩ := List.getElem?_eq_some_iff.1 h
  rw [List.drop_eq_getElem_cons hlt, putR, he]
theorem goodL_drop {l : List Int} {k : Nat} {x : Int} (h : l[k]? = some x) (last : Int) : goodL last (l.drop k) = (last + 1 + (if x < 0 then -(x + 1) else x) % 1000) :: goodL (last + 1 + (if x < 0 then -(x + 1) else x) % 1000) (l.drop (k + 1)) := by
  obtain ⟨hlt, he⟩ := List.getElem?_eq_some_iff.1 h
  rw [List.drop_eq_getElem_cons hlt, goodL, he]

theorem putR_len : ∀ (l : List Int) (last : Int), -1 ≤ last → (∀ x ∈ l, x ≤ 9223372036854775807) → rises last l = true → (putR last l).length ≤ 9 * l.length
  | [], _, _, _, _ => by simp [putR]
  | x :: l, last, h1, h2, h3 => by
    simp only [rises, Bool.and_eq_true, decide_eq_true_eq] at h3
    have hx := h2 x (List.mem_cons_self ..)
    have h4 := putR_len l x (by omega) (fun y hy => h2 y (List.mem_cons_of_mem _ hy)) h3.2
    have h5 := put_len9 (n := (x - last - 1).toNat) (by omega)
    simp only [putR, List.length_append, List.length_cons]; omega
theorem rises_suffix {l : List Int} {k : Nat} {x last : Int} (h : l[k]? = some x) (hr : rises last (l.drop k) = true) : last < x ∧ rises x (l.drop (k + 1)) = true := by
  rw [rises_drop h] at hr; simpa using hr
theorem getRL_zero (b : List UInt8) (a last : Int) : getRL b 0 a last = (0, [], a) := rfl
theorem getRL_fail {b : List UInt8} {k : Nat} {a last : Int} (h : (get b a).2.2 ≠ 0) : getRL b (k + 1) a last = ((get b a).2.2, [], 0) := by rw [getRL, if_pos h]
theorem getRL_big {b : List UInt8} {k : Nat} {a last : Int} (h : (get b a).2.2 = 0) (h2 : 4611686018427387904 - last - 1 < (get b a).1) : getRL b (k + 1) a last = (2, [], 0) := by
  rw [getRL, if_neg (by simpa using h), if_pos h2]
theorem getRL_next {b : List UInt8} {k : Nat} {a last : Int} (h : (get b a).2.2 = 0) (h2 : ¬ 4611686018427387904 - last - 1 < (get b a).1) : getRL b (k + 1) a last =
    if (getRL b k (get b a).2.1 (last + 1 + (get b a).1)).1 ≠ 0 then ((getRL b k (get b a).2.1 (last + 1 + (get b a).1)).1, [], 0)
    else (0, (last + 1 + (get b a).1) :: (getRL b k (get b a).2.1 (last + 1 + (get b a).1)).2.1, (getRL b k (get b a).2.1 (last + 1 + (get b a).1)).2.2) := by
  rw [getRL, if_neg (by simpa using h), if_neg h2]
/-- what is told in the end, so many having come -/
def andThen (acc : List Int) (r : Int × List Int × Int) : Int × List Int × Int := if r.1 ≠ 0 then (r.1, [], 0) else (0, acc ++ r.2.1, r.2.2)
theorem andThen_next {b : List UInt8} {k : Nat} {a last : Int} (acc : List Int) (h : (get b a).2.2 = 0) (h2 : ¬ 4611686018427387904 - last - 1 < (get b a).1) :
    andThen acc (getRL b (k + 1) a last) = andThen (acc ++ [last + 1 + (get b a).1]) (getRL b k (get b a).2.1 (last + 1 + (get b a).1)) := by
  rw [getRL_next h h2]; unfold andThen
  by_cases h3 : (getRL b k (get b a).2.1 (last + 1 + (get b a).1)).1 = 0 <;> simp [h3]
theorem andThen_nil (r : Int × List Int × Int) (h : r.1 ≠ 0 → r.2 = ([], 0)) : andThen [] r = r := by
  unfold andThen
  by_cases h3 : r.1 = 0
  · rw [if_neg (by simpa using h3)]; ext <;> simp [h3]
  · rw [if_pos h3, ← h h3]
theorem getRL_err (b : List UInt8) : ∀ (k : Nat) (a last : Int), (getRL b k a last).1 ≠ 0 → (getRL b k a last).2 = ([], 0)
  | 0, a, last, h => by simp [getRL] at h
  | k + 1, a, last, h => by
    rw [getRL] at h ⊢
    split
    · rfl
    · rename_i h1; rw [if_neg h1] at h
      split
      · rfl
      · rename_i h2; rw [if_neg h2] at h
        split
        · rfl
        · rename_i h3; rw [if_neg h3] at h; simp at h

theorem get_nonneg (b : List UInt8) (a : Int) : 0 ≤ (get b a).1 ∧ 0 ≤ (get b a).2.2 ∧ (get b a).2.2 ≤ 2 ∧ ((get b a).2.2 ≠ 0 → (get b a).1 = 0 ∧ (get b a).2.1 = 0) := by
  unfold get
  split
  · simp
  · split <;> simp <;> omega

theorem get_range (b : List UInt8) (a : Int) : (get b a).1 ≤ 9223372036854775807 := by
  by_cases h : (get b a).2.2 = 0
  · have := get_ok h; omega
  · have := (get_nonneg b a).2.2.2 h; omega

theorem put_ne_zero {n : Nat} (h : n ≠ 0) : n / 128 = 0 → n < 128 := by omega
/-- a number's bytes, read: whatever stands behind -/
theorem getL_put : ∀ (k m i acc : Nat) (post : List UInt8), m < 128 ^ (k + 1) → (0 < i → m ≠ 0) → getL ((put m ++ post).take (k + 1)) i acc = some (acc + m * 128 ^ i, i + (put m).length) := by
  intro k
  induction k with
  | zero =>
    intro m i acc post h h0
    have hm : m < 128 := by simpa using h
    have e : (UInt8.ofNat m).toNat = m := by rw [UInt8.toNat_ofNat']; omega
    rw [put_lt hm]
    simp only [List.cons_append, List.nil_append, List.take_succ_cons, getL, e]
    rw [if_pos hm, if_neg (by omega), Nat.mod_eq_of_lt hm]; rfl
  | succ k ih =>
    intro m i acc post h h0
    by_cases hm : m < 128
    · have e : (UInt8.ofNat m).toNat = m := by rw [UInt8.toNat_ofNat']; omega
      rw [put_lt hm]
      simp only [List.cons_append, List.nil_append, List.take_succ_cons, getL, e]
      rw [if_pos hm, if_neg (by omega), Nat.mod_eq_of_lt hm]; rfl
    · have e : (UInt8.ofNat (128 + m % 128)).toNat = 128 + m % 128 := by rw [UInt8.toNat_ofNat']; omega
      rw [put_ge (by omega)]
      simp only [List.cons_append, List.take_succ_cons, getL, e]
      rw [if_neg (by omega), ih (m / 128) (i + 1) _ post (by rw [Nat.pow_succ] at h; omega) (by omega)]
      have h2 : (128 + m % 128) % 128 = m % 128 := by omega
      rw [h2, Nat.pow_succ]
      congr 2
      · have h3 : m = m % 128 + 128 * (m / 128) := by omega
        have h4 : m * 128 ^ i = (m % 128) * 128 ^ i + (m / 128) * (128 ^ i * 128) := by
          conv => lhs; rw [h3]
          rw [Nat.add_mul, Nat.mul_comm 128 (m / 128), Nat.mul_assoc, Nat.mul_comm 128 (128 ^ i)]
        omega
      · simp; omega
theorem get_put (pre post : List UInt8) {n : Nat} (hn : n ≤ 9223372036854775807) : get (pre ++ put n ++ post) pre.length = ((n : Int), ((pre.length + (put n).length : Nat) : Int), 0) := by
  unfold get
  rw [if_neg (by simp; omega)]
  have h1 : ((pre ++ put n ++ post).drop (pre.length : Int).toNat).take 9 = (put n ++ post).take (8 + 1) := by
    rw [Int.toNat_natCast, List.append_assoc, List.drop_left]
  rw [h1, getL_put 8 n 0 0 post (by omega) (by omega)]
  simp

theorem getL_short : ∀ (m j i acc : Nat), j < (put m).length → getL ((put m).take j) i acc = none := by
  intro m
  induction m using Nat.strongRecOn with
  | _ m ih =>
    intro j i acc hj
    cases j with
    | zero => simp [getL]
    | succ j =>
      by_cases hm : m < 128
      · rw [put_lt hm] at hj; simp at hj
      · have e : (UInt8.ofNat (128 + m % 128)).toNat = 128 + m % 128 := by rw [UInt8.toNat_ofNat']; omega
        rw [put_ge (by omega)] at hj ⊢
        simp only [List.take_succ_cons, getL, e]
        rw [if_neg (by omega)]
        exact ih (m / 128) (by omega) j _ _ (by simpa using hj)
theorem get_short {m j : Nat} (hj : j < (put m).length) : get ((put m).take j) 0 = (0, 0, 2) := by
  unfold get
  rw [if_neg (by omega)]
  have h1 : (((put m).take j).drop (0 : Int).toNat).take 9 = (put m).take (min 9 j) := by simp [List.take_take]
  rw [h1, getL_short m _ 0 0 (by omega)]
theorem get_end (b : List UInt8) : get b b.length = (0, 0, 2) := by
  unfold get
  rw [if_neg (by omega)]
  simp [getL]

theorem put_mono : ∀ {m n : Nat}, n ≤ m → (put n).length ≤ (put m).length := by
  intro m
  induction m using Nat.strongRecOn with
  | _ m ih =>
    intro n h
    by_cases hn : n < 128
    · rw [put_lt hn]; have := put_pos m; simp only [List.length_cons, List.length_nil]; omega
    · rw [put_ge (by omega), put_ge (n := m) (by omega)]
      have := ih (m / 128) (by omega) (n := n / 128) (by omega)
      simpa using this

theorem getRL_put : ∀ (l : List Int) (pre post : List UInt8) (last : Int), -1 ≤ last → rises last l = true → (∀ x ∈ l, x ≤ 4611686018427387904) →
    getRL (pre ++ putR last l ++ post) l.length pre.length last = (0, l, ((pre.length + (putR last l).length : Nat) : Int))
  | [], pre, post, last, _, _, _ => by simp [putR, getRL]
  | x :: l, pre, post, last, h1, h2, h3 => by
    simp only [rises, Bool.and_eq_true, decide_eq_true_eq] at h2
    have hx := h3 x (List.mem_cons_self ..)
    have e0 : pre ++ putR last (x :: l) ++ post = pre ++ put (x - last - 1).toNat ++ (putR x l ++ post) := by simp [putR]
    have e1 := get_put pre (putR x l ++ post) (n := (x - last - 1).toNat) (by omega)
    have e2 : pre ++ put (x - last - 1).toNat ++ (putR x l ++ post) = (pre ++ put (x - last - 1).toNat) ++ putR x l ++ post := by simp
    have ih := getRL_put l (pre ++ put (x - last - 1).toNat) post x (by omega) h2.2 (fun y hy => h3 y (List.mem_cons_of_mem _ hy))
    rw [e0, List.length_cons, getRL_next (by rw [e1]) (by rw [e1]; simp only; omega), e1]
    simp only
    have e3 : last + 1 + (((x - last - 1).toNat : Nat) : Int) = x := by omega
    rw [e3, e2, show ((pre.length + (put (x - last - 1).toNat).length : Nat) : Int) = ((pre ++ put (x - last - 1).toNat).length : Int) from by simp, ih]
    simp [putR]; omega
theorem getRising_put (pre post : List UInt8) {l : List Int} (hr : rises (-1) l = true) (h3 : ∀ x ∈ l, x ≤ 4611686018427387904) (hl : l.length ≤ 9223372036854775807) :
    getRising (pre ++ putRising l ++ post) pre.length = (0, l, ((pre.length + (putRising l).length : Nat) : Int)) := by
  have e0 : pre ++ putRising l ++ post = pre ++ put l.length ++ (putR (-1) l ++ post) := by simp [putRising]
  have e1 := get_put pre (putR (-1) l ++ post) (n := l.length) hl
  have e2 : pre ++ put l.length ++ (putR (-1) l ++ post) = (pre ++ put l.length) ++ putR (-1) l ++ post := by simp
  unfold getRising
  rw [e0, e1, if_neg (by simp)]
  simp only
  have := getRL_put l (pre ++ put l.length) post (-1) (by omega) hr h3
  rw [e2, show ((pre.length + (put l.length).length : Nat) : Int) = ((pre ++ put l.length).length : Int) from by simp, Int.toNat_natCast, this]
  simp [putRising]; omega

theorem goodL_rises : ∀ (l : List Int) (last : Int), rises last (goodL last l) = true
  | [], _ => rfl
  | x :: l, last => by
    have h := Int.emod_nonneg (if x < 0 then -(x + 1) else x) (show (1000 : Int) ≠ 0 by decide)
    simp only [goodL, rises, Bool.and_eq_true, decide_eq_true_eq]
    exact ⟨by omega, goodL_rises l _⟩
theorem goodL_le : ∀ (l : List Int) (last : Int), ∀ x ∈ goodL last l, last < x ∧ x ≤ last + 1000 * l.length
  | [], _, x, h => by simp [goodL] at h
  | y :: l, last, x, h => by
    have h1 := Int.emod_nonneg (if y < 0 then -(y + 1) else y) (show (1000 : Int) ≠ 0 by decide)
    have h2 := Int.emod_lt_of_pos (if y < 0 then -(y + 1) else y) (show (0 : Int) < 1000 by decide)
    simp only [goodL, List.mem_cons] at h
    simp only [List.length_cons]
    rcases h with rfl | h
    · omega
    · have := goodL_le l _ x h; omega
theorem goodL_len : ∀ (l : List Int) (last : Int), (goodL last l).length = l.length
  | [], _ => rfl
  | x :: l, last => by simp [goodL, goodL_len l]
theorem good_rises (l : List Int) (most : Nat) : rises (-1) (good l most) = true := goodL_rises _ _
theorem good_len (l : List Int) (most : Nat) : (good l most).length = min most l.length := by rw [good, goodL_len, List.length_take]
theorem good_le (l : List Int) (most : Nat) : ∀ x ∈ good l most, 0 ≤ x ∧ x < 1000 * most := fun x hx => by
  have := goodL_le _ _ x hx
  rw [List.length_take] at this; omega

end Go.K

/- Documents with scores, side by side: their layout in memory, and in plain Lean. No program is named here. -/
import Derived.Test.YtohfoenhmkfjkaaGreatDoorKFun
namespace Go.K
set_option linter.unusedVariables false
set_option linter.unusedSimpArgs false
abbrev Fo := Int × Int
abbrev Tw := Int × Int × Int
abbrev RT.fo : RT Fo := RT.pair (RT.int .i64) (RT.int .i64)
theorem fo0 : Part RT.fo (RT.int .i64) (fun p => p.1) 0 := Part.fst _ _
theorem fo1 : Part RT.fo (RT.int .i64) (fun p => p.2) 1 := Part.snd _ _
/-- an address of a whole block -/
def RT.adr : RT Nat where
  n := 1
  agg := false
  R := fun _ _ b vs => vs = [.pointer (some ⟨b, 0, none⟩)]
  len := by rintro _ _ x vs rfl; rfl
  one := by rintro _ _ x vs rfl v hv; simp at hv; subst hv; rfl
  le := fun _ h => h
theorem V_adr {M : PSet} {w : World} {b : Nat} {v : Value} : RT.adr.V M w b v ↔ v = .pointer (some ⟨b, 0, none⟩) := ⟨fun ⟨_, h1, h2⟩ => by cases h1; exact h2, fun h => ⟨_, rfl, h⟩⟩

def mn (l : List Fo) (x : Int) : Int := match l with | [] => x | p :: _ => min x p.1
def hit (l : List Fo) (x : Int) : Bool := match l with | [] => false | p :: _ => decide (p.1 = x)
def restF (l : List Fo) (x : Int) : List Fo := if hit l x then l.tail else l
def addS (l : List Fo) (x s : Int) : Int := if hit l x then IntKind.i64.wrap (s + (l.headD (0, 0)).2) else s
def addM (l : List Fo) (x m : Int) : Int := if hit l x then m + 1 else m
def mnX (a b : List Fo) : Int := mn b (mn a 2147483648)
def mnK (a b : List Fo) (k : Nat) : Int := if k = 0 then 2147483648 else if k = 1 then mn a 2147483648 else mnX a b
def mny (a b : List Fo) (k : Nat) : Int := if k = 0 then 0 else if k = 1 then addM a (mnX a b) 0 else addM b (mnX a b) (addM a (mnX a b) 0)
def scr (a b : List Fo) (k : Nat) : Int := if k = 0 then 0 else if k = 1 then addS a (mnX a b) 0 else addS b (mnX a b) (addS a (mnX a b) 0)
def lK (l : List Fo) (x : Int) (c : Bool) : List Fo := if c then restF l x else l
def twP (a b : List Fo) : Tw := (mnX a b, mny a b 2, scr a b 2)
def okD (l : List Fo) : Prop := ∀ p ∈ l, -9223372036854775808 ≤ p.1 ∧ p.1 < 2147483648
theorem mnK_succ {a b lk : List Fo} {k : Nat} (h : [a, b][k]? = some lk) : mnK a b (k + 1) = mn lk (mnK a b k) := by
  match k with
  | 0 => simp at h; subst h; simp [mnK]
  | 1 => simp at h; subst h; simp [mnK, mnX]
  | k + 2 => simp at h
theorem mny_succ {a b lk : List Fo} {k : Nat} (h : [a, b][k]? = some lk) : mny a b (k + 1) = addM lk (mnX a b) (mny a b k) := by
  match k with
  | 0 => simp at h; subst h; simp [mny]
  | 1 => simp at h; subst h; simp [mny]
  | k + 2 => simp at h
theorem scr_succ {a b lk : List Fo} {k : Nat} (h : [a, b][k]? = some lk) : scr a b (k + 1) = addS lk (mnX a b) (scr a b k) := by
  match k with
  | 0 => simp at h; subst h; simp [scr]
  | 1 => simp at h; subst h; simp [scr]
  | k + 2 => simp at h
theorem mny_rng (a b : List Fo) (k : Nat) : 0 ≤ mny a b k ∧ mny a b k ≤ 2 := by
  unfold mny addM
  repeat' split
  all_goals omega
theorem mnX_rng {a b : List Fo} (ha : okD a) (hb : okD b) : -9223372036854775808 ≤ mnX a b ∧ mnX a b ≤ 2147483648 := by
  unfold mnX mn
  split
  · split
    · omega
    · have := ha _ (List.mem_cons_self ..); omega
  · have := hb _ (List.mem_cons_self ..)
    split
    · omega
    · have := ha _ (List.mem_cons_self ..); omega
theorem scr_rng (a b : List Fo) (k : Nat) : -9223372036854775808 ≤ scr a b k ∧ scr a b k ≤ 9223372036854775807 := by
  have hw := fun x => wrap_rng (x := x)
  unfold scr addS
  repeat' split
  all_goals first | exact hw _ | omega
theorem hit_cons {d s x : Int} {l : List Fo} : hit ((d, s) :: l) x = decide (d = x) := rfl
theorem restF_le (l : List Fo) (x : Int) : (restF l x).length ≤ l.length := by
  unfold restF; split
  · simp
  · exact Nat.le_refl _
theorem restF_lt {l : List Fo} {x : Int} (h : hit l x = true) : (restF l x).length < l.length := by
  unfold restF
  rw [if_pos h]
  cases l with
  | nil => simp [hit] at h
  | cons p l => simp
theorem okD.rest {l : List Fo} (h : okD l) (x : Int) : okD (restF l x) := by
  unfold restF; split
  · exact fun p hp => h p (List.mem_of_mem_tail hp)
  · exact h
theorem hit_of {p : Fo} {l : List Fo} {x : Int} (h : p.1 = x) : hit (p :: l) x = true := decide_eq_true h
theorem some_hit {a b : List Fo} (ha : okD a) (hb : okD b) (h : a ≠ [] ∨ b ≠ []) : hit a (mnX a b) = true ∨ hit b (mnX a b) = true := by
  cases a with
  | nil =>
    cases b with
    | nil => simp at h
    | cons q b =>
      have := hb q (List.mem_cons_self ..)
      exact .inr (hit_of (show q.1 = min 2147483648 q.1 by omega))
  | cons p a =>
    have h1 := ha p (List.mem_cons_self ..)
    cases b with
    | nil => exact .inl (hit_of (show p.1 = min 2147483648 p.1 by omega))
    | cons q b =>
      have h2 := hb q (List.mem_cons_self ..)
      rcases Int.lt_or_le q.1 p.1 with h3 | h3
      · exact .inr (hit_of (show q.1 = min (min 2147483648 p.1) q.1 by omega))
      · exact .inl (hit_of (show p.1 = min (min 2147483648 p.1) q.1 by omega))
theorem side_less {a b : List Fo} (ha : okD a) (hb : okD b) (h : a ≠ [] ∨ b ≠ []) : (restF a (mnX a b)).length + (restF b (mnX a b)).length < a.length + b.length := by
  have h1 := restF_le a (mnX a b)
  have h2 := restF_le b (mnX a b)
  rcases some_hit ha hb h with h3 | h3
  · have := restF_lt h3; omega
  · have := restF_lt h3; omega
/-- the documents that are in so many of both at least -/
def ofN (least : Int) : Nat → List Fo → List Fo → List Fo
  | 0, _, _ => []
  | n + 1, a, b => if a = [] ∧ b = [] then [] else (if least ≤ mny a b 2 then [(mnX a b, scr a b 2)] else []) ++ ofN least n (restF a (mnX a b)) (restF b (mnX a b))
theorem ofN_more (least : Int) : ∀ (n m : Nat) (a b : List Fo), okD a → okD b → a.length + b.length ≤ n → n ≤ m → ofN least m a b = ofN least n a b
  | 0, m, a, b, _, _, h, _ => by
    have ha : a = [] := List.length_eq_zero_iff.1 (by omega)
    have hb : b = [] := List.length_eq_zero_iff.1 (by omega)
    cases m with
    | zero => rfl
    | succ m => subst ha; subst hb; simp [ofN]
  | n + 1, 0, a, b, _, _, _, h => by omega
  | n + 1, m + 1, a, b, ha, hb, h1, h2 => by
    rw [ofN, ofN]
    split
    · rfl
    · rename_i h3
      rw [ofN_more least n m _ _ (ha.rest _) (hb.rest _) (by have := side_less ha hb (by by_cases h : a = []; right; exact fun h' => h3 ⟨h, h'⟩; left; exact h); omega) (by omega)]
def ofP (least : Int) (a b : List Fo) : List Fo := ofN least (a.length + b.length) a b
theorem ofP_nil (least : Int) : ofP least [] [] = [] := rfl
theorem ofP_step {least : Int} {a b : List Fo} (ha : okD a) (hb : okD b) (h : a ≠ [] ∨ b ≠ []) : ofP least a b = (if least ≤ mny a b 2 then [(mnX a b, scr a b 2)] else []) ++ ofP least (restF a (mnX a b)) (restF b (mnX a b)) := by
  have h1 := side_less ha hb h
  unfold ofP
  obtain ⟨n, hn⟩ : ∃ n, a.length + b.length = n + 1 := ⟨a.length + b.length - 1, by omega⟩
  rw [hn, ofN, if_neg (by rintro ⟨h2, h3⟩; rcases h with h | h; exact h h2; exact h h3), ofN_more least _ n _ _ (ha.rest _) (hb.rest _) (Nat.le_refl _) (by omega)]
theorem ofP_len : ∀ (least : Int) (n : Nat) (a b : List Fo), (ofN least n a b).length ≤ n
  | _, 0, _, _ => by simp [ofN]
  | least, n + 1, a, b => by
    rw [ofN]
    split
    · simp
    · have := ofP_len least n (restF a (mnX a b)) (restF b (mnX a b))
      rw [List.length_append]
      split <;> simp <;> omega
theorem fo_rng {M : PSet} {w : World} {l : List Fo} {v : Value} (h : ((RT.fo).sl).V M w l v) {i : Nat} {d s : Int} (hx : l[i]? = some (d, s)) : (-9223372036854775808 ≤ d ∧ d ≤ 9223372036854775807) ∧ (-9223372036854775808 ≤ s ∧ s ≤ 9223372036854775807) := by
  obtain ⟨a, cap, _, _, _, hs⟩ := V_sl.1 h
  rcases hs with rfl | ⟨b, o, _, _, hs⟩
  · simp at hx
  · obtain ⟨vs, ⟨va, vb, _, ⟨_, h2⟩, ⟨_, h3⟩⟩, _⟩ := hs i _ hx
    exact ⟨h2, h3⟩
theorem V_fo {M : PSet} {w : World} {a b : Int} (ha : -9223372036854775808 ≤ a ∧ a ≤ 9223372036854775807) (hb : -9223372036854775808 ≤ b ∧ b ≤ 9223372036854775807) : RT.fo.V M w (a, b) (.agg [.int .i64 a, .int .i64 b].toArray) :=
  V_pair_mk (V_i64 ha) (V_i64 hb) rfl rfl rfl rfl
end Go.K

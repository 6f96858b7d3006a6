/- What the law 'ErasePlays' needs of walks and plain Lean, part 3: nothing is assumed beyond the texts that it imports. -/
import Derived.Ground.GgzProg
import Derived.Ground.SlgmProg
import Derived.KernelRfl
import Derived.Shelf.SlGeneric
import Derived.Shelf.SlIter.Nil
import Derived.Shelf.SlIterI.Nil
import Derived.Shelf.SortM.Plain
import Derived.Shelf.SortM.SortNone
import Derived.Sort.KeysCollected
import Derived.Sort.Walk0
import Derived.Test.YtohfoenhmkfjkaaGreatDoorProg
import Derived.Test.YtohfoenhmkfjkaaGreatDoorZErasePlays1
import Derived.Test.YtohfoenhmkfjkaaGreatDoorZErasePlays2
namespace Go.K
open Go.Proofs
set_option linter.unusedVariables false
set_option linter.unusedSimpArgs false
set_option maxRecDepth 10000
def posOf (ts : List (Fd × Nat)) (t : Fd) : List Int := (ts.filter fun p => decide (p.1 = t)).map fun p => (p.2 : Int)
def seen (ts : List (Fd × Nat)) : List Fd := ts.foldl (fun l p => if p.1 ∈ l then l else l ++ [p.1]) []
theorem seen_snoc (ts : List (Fd × Nat)) (t : Fd) (i : Nat) : seen (ts ++ [(t, i)]) = if t ∈ seen ts then seen ts else seen ts ++ [t] := by unfold seen; rw [List.foldl_append]; rfl
theorem posOf_snoc (ts : List (Fd × Nat)) (t t' : Fd) (i : Nat) : posOf (ts ++ [(t, i)]) t' = if t = t' then posOf ts t' ++ [(i : Int)] else posOf ts t' := by
 unfold posOf
 rw [List.filter_append]
 by_cases h : t = t' <;> simp [h]
theorem posOf_len (ts : List (Fd × Nat)) (t : Fd) : (posOf ts t).length ≤ ts.length := by
 unfold posOf; rw [List.length_map]; exact List.length_filter_le _ _
abbrev nilS : Value := .slice none 0 0
structure InvS (M : PSet) (w : World) (B : Nat) (ts : List (Fd × Nat)) (es : List MapEntry) : Prop where
 o : ∀ t v, ValAt nilS es (kv t) v → Own (RT.int .i64) 3 M w B v (posOf ts t)
 a : ∀ t t' v v', t ≠ t' → ValAt nilS es (kv t) v → ValAt nilS es (kv t') v' → Apart v v'
 k : es.map (·.key) = (seen ts).map kv
theorem InvS.step0 {M M' : PSet} {w w' : World} {B : Nat} {ts : List (Fd × Nat)} {es : List MapEntry} (h : InvS M w B ts es) (s : Step M w M' w' none') : InvS M' w' B ts es := ⟨fun t v hv => (h.o t v hv).step0 s, h.a, h.k⟩
def IJ (bt mb B : Nat) (ts : List (Fd × Nat)) (M : PSet) (w : World) : Prop := w.heap[bt]? = some (.cells #[.map (some mb)] 227 (0, 0)) ∧ M bt ∧ M mb ∧ B ≤ bt ∧ B ≤ mb ∧ ∃ es clock, MapW Tryz.prog 47 w mb es clock ∧ InvS M w B ts es
theorem Own.notMap {α : Type} {A : RT α} {e : TypeId} {M : PSet} {w : World} {base b c : Nat} {a : Array MapEntry} {v : Value} {xs : List α} (h : Own A e M w base v xs) (hb : w.heap[b]? = some (.map a c)) : v.ownBlock ≠ some b := fun hv => by
 obtain ⟨⟨C, h1, _⟩, _⟩ := h
 rcases h1.2 with ⟨h2, _⟩ | ⟨g, cap, cur, h2, _, h3, _⟩
 ·rw [h2] at hv; cases hv
 ·rw [h2] at hv; cases hv; rw [h3] at hb; cases hb
theorem seen_has {ts : List (Fd × Nat)} {es : List MapEntry} {t : Fd} (hk : es.map (·.key) = (seen ts).map kv) : (∃ e ∈ es, e.key = kv t) ↔ t ∈ seen ts := by
 constructor
 ·rintro ⟨e, he, h⟩
  have : kv t ∈ (seen ts).map kv := by rw [← hk, ← h]; exact List.mem_map_of_mem he
  obtain ⟨t', h1, h2⟩ := List.mem_map.1 this
  rw [← kv_inj h2]; exact h1
 ·intro h
  have : kv t ∈ es.map (·.key) := by rw [hk]; exact List.mem_map_of_mem h
  obtain ⟨e, h1, h2⟩ := List.mem_map.1 this
  exact ⟨e, h1, h2⟩
theorem inv1_spec {M : PSet} {bt mb B : Nat} {ts : List (Fd × Nat)} {t : Fd} {i : Nat} (w0 : World) (hM : Lt M w0) (h1 : t.1.length ≤ 900000) (h2 : t.2.length ≤ 140737488355328) (hi : i ≤ 1000000) (hts : ts.length ≤ 10000000) (hJ : IJ bt mb B ts M w0) :
  Spec Tryz.prog 155 #[kv t, .int .i64 (i : Int), .pointer (some ⟨bt, 0, none⟩)] w0 (fun v w => ∃ M', Lt M' w ∧ IJ bt mb B (ts ++ [(t, i)]) M' w ∧ Step M w0 M' w (mine M B)) := by
 obtain ⟨gb, m_gb, m_mb, hB, hBm, es, clock, hW, hI⟩ := hJ
 refine spec_of (args := [_, _, _]) (fn := Tryz.f155) Tryz.func155 rfl (n := 13) Tryz.ntmps155 ?_
 have S : Step M w0 M w0 (mine M B) := (Step.refl _ _).widen (fun _ h => h.elim) (fun _ h => h.2)
 refine T.seq ?_
 refine T.region ?_
 refine Rg.boxp (A := RT.fd) rfl rfl hM (kv_V (by omega) h2) rfl (fun u0 w1 hu0 s0 _ => ?_) --@step s0
 --@vf hu0*
 have := lt_of_get gb
 replace m_gb := (s0.mem _ this).2 m_gb
 replace gb := s0.same0 gb
 replace m_mb := (s0.mem _ (lt_of_get hW.at_)).2 m_mb
 replace hW := hW.step0 s0
 replace hI := hI.step0 s0
 replace hM := s0.lt hM
 have := S.size
 replace S := S.trans0 s0
 refine Rg.nil ?_
 refine T.region ?_
 refine Rg.loadc Tryz.underlying227 rfl rfl rfl (by assumption) rfl ?_
 refine Rg.loadagg (M := M) (A := RT.fd) Tryz.underlying47 rfl I47 (by decide) rfl rfl rfl hu0 (Le.refl _ _) (fun v1 hv1 => ?_)
 obtain rfl := fd_val hv1
 refine Rg.move rfl rfl ?_
 refine Rg.sl1 (A := RT.int .i64) (hn := by decide) (M := M) Tryz.underlying32 I3 (by decide) rfl rfl hM (V_i64 (by omega)) (.inr ⟨rfl, rfl⟩) (fun u1_3 w1_3 hu1_3 s1_3 => ?_)
 have := lt_of_get gb
 replace m_gb := (s1_3.mem _ this).2 m_gb
 replace gb := s1_3.same0 gb
 replace hu0 := hu0.le (by decide) s1_3.le
 replace m_mb := (s1_3.mem _ (lt_of_get hW.at_)).2 m_mb
 replace hW := hW.step0 s1_3
 replace hI := hI.step0 s1_3
 replace hM := s1_3.lt hM
 have := S.size
 replace S := S.trans0 s1_3
 obtain ⟨kl, hkl⟩ := kv_key t (by omega) h2
 refine Rg.mapEntry (M := M) (zv := nilS) Tryz.underlying227 termKeyed I32 rfl rfl rfl hkl hW m_mb (fun w4 es4 cl4 v s hW4 hv hin hval hkk s4 => ?_)
 have hmo : ∀ t v, ValAt nilS es (kv t) v → v.ownBlock ≠ some mb := fun t v h => (hI.o t v h).notMap hW.at_
 have nbm : bt ≠ mb := fun e => by subst e; have := hW.at_; rw [gb] at this; cases this
 replace hI : InvS M w4 B ts es := ⟨fun t v hv => (hI.o t v hv).step s4 (fun b hb hk => hmo t v hv (by have hk : b = mb := hk; rw [← hk]; exact hb)), hI.a, hI.k⟩
 have m_mb4 := (s4.mem _ (lt_of_get hW.at_)).2 m_mb
 replace m_gb := (s4.mem _ (lt_of_get gb)).2 m_gb
 replace gb := s4.keep gb nbm
 replace hu1_3 := hu1_3.le s4.le
 replace hM := s4.lt hM
 have hmM : ∀ b, b < w0.heap.size → M b → M b := fun b hb h => (S.mem b hb).1 h
 have hz0 := S.size
 replace S := S.trans s4 (fun k hk h => by have h : k = mb := h; subst h; exact ⟨hBm, hmM k hk m_mb⟩)
 have hov := hI.o t v hv
 have hpl := posOf_len ts t
 refine Rg.extract rfl rfl rfl ?_
 refine Rg.appendF (M := M) (base := B) Tryz.underlying32 I3 rfl rfl rfl rfl hov hu1_3 (Le.refl _ _) (by simp; omega) (by simp; omega) (by have := lt_of_get gb; omega) (fun v6 w6 ho6 s6 hF => ?_)
 have hblk : ∀ b, blk v b → B ≤ b ∧ M b := fun b h => ⟨(hov.base b h).1, hov.mut_ b h⟩
 have hap : ∀ t' v', t' ≠ t → ValAt nilS es (kv t') v' → Apart v' v := fun t' v' hne hv' => hI.a t' t v' v hne hv' hv
 have hoth : ∀ t' v', t' ≠ t → ValAt nilS es (kv t') v' → Own (RT.int .i64) 3 (insV M v6) w6 B v' (posOf ts t') := fun t' v' hne hv' => (hI.o t' v' hv').step s6 (fun b hb hk => hap t' v' hne hv' b hb hk)
 have hsz : ∀ t' v', ValAt nilS es (kv t') v' → ∀ b, v'.ownBlock = some b → b < w4.heap.size := fun t' v' hv' b hb => ((hI.o t' v' hv').base b hb).2
 have hap6 : ∀ t' v', t' ≠ t → ValAt nilS es (kv t') v' → Apart v6 v' := fun t' v' hne hv' => (hap t' v' hne hv').symm.grown hF (hsz t' v' hv')
 have hmo6 : v.ownBlock ≠ some mb := hov.notMap hW4.at_
 have m_mb6 := (s6.mem _ (lt_of_get hW4.at_)).2 m_mb4
 replace hW4 := hW4.step s6 hmo6
 replace m_gb := (s6.mem _ (lt_of_get gb)).2 m_gb
 replace gb := s6.keep gb (fun h => hov.neT gb (by decide) h)
 replace hM := s6.lt hM
 have hmM4 : ∀ b, b < w0.heap.size → M b → M b := fun b hb h => (S.mem b hb).1 h
 replace S := S.trans s6 (fun k hk h => ⟨(hblk k h).1, hmM4 k hk (hblk k h).2⟩)
 refine Rg.extract rfl rfl rfl ?_
 have hat6 := hW4.at_
 refine Rg.entryStore rfl rfl rfl hW4 m_mb6 hin (fun w8 es8 hW8 hkeys hval8 s8 => ?_)
 have hm8 : v6.ownBlock ≠ some mb := ho6.notMap hat6
 replace ho6 := ho6.step s8 (fun b hb hk => hm8 (by have hk : b = mb := hk; rw [← hk]; exact hb))
 have hoth8 : ∀ t' v', t' ≠ t → ValAt nilS es (kv t') v' → Own (RT.int .i64) 3 _ w8 B v' (posOf ts t') := fun t' v' hne hv' => (hoth t' v' hne hv').step s8 (fun b hb hk => hmo t' v' hv' (by have hk : b = mb := hk; rw [← hk]; exact hb))
 have m_mb8 := (s8.mem _ (lt_of_get hat6)).2 m_mb6
 refine Rg.nil ?_
 first | refine EndP.nil ?_ | simp +decide only [Kseq, Kblock, if_true, if_false] | skip
 replace m_gb := (s8.mem _ (lt_of_get gb)).2 m_gb
 replace gb := s8.keep gb nbm
 replace hM := s8.lt hM
 replace S := S.trans s8 (fun k hk h => by have h : k = mb := h; subst h; exact ⟨hBm, (S.mem k hk).1 m_mb6⟩)
 have hcase : ∀ t1 v1, ValAt nilS es8 (kv t1) v1 → (t1 = t ∧ v1 = v6) ∨ (t1 ≠ t ∧ ValAt nilS es (kv t1) v1) := fun t1 v1 hv1 => by
  rcases (hval8 nilS (kv t1) v1).1 hv1 with ⟨h3, h4⟩ | ⟨h3, h4⟩
  ·exact .inl ⟨kv_inj h3, h4⟩
  ·exact .inr ⟨fun e => h3 (by rw [e]; rfl), (hval (kv t1) v1).1 h4⟩
 refine Kret0n rfl ⟨_, hM, ⟨gb, m_gb, m_mb8, hB, hBm, es8, _, hW8, ⟨fun t1 v1 hv1 => ?_, fun t1 t2 v1 v2 hne hv1 hv2 => ?_, ?_⟩⟩, S⟩
 ·rcases hcase t1 v1 hv1 with ⟨rfl, rfl⟩ | ⟨h3, h4⟩
  ·rw [posOf_snoc, if_pos rfl]; exact ho6
  ·rw [posOf_snoc, if_neg (fun e => h3 e.symm)]; exact hoth8 t1 v1 h3 h4
 ·rcases hcase t1 v1 hv1 with ⟨rfl, rfl⟩ | ⟨h3, h4⟩
  ·rcases hcase t2 v2 hv2 with ⟨rfl, _⟩ | ⟨h5, h6⟩
   ·exact absurd rfl hne
   ·exact hap6 t2 v2 h5 h6
  ·rcases hcase t2 v2 hv2 with ⟨rfl, rfl⟩ | ⟨h5, h6⟩
   ·exact (hap6 t1 v1 h3 h4).symm
   ·exact hI.a t1 t2 v1 v2 hne h4 h6
 ·rw [hkeys, seen_snoc]
  rcases hkk with ⟨h3, h4⟩ | ⟨h3, h4⟩
  ·rw [h3, hI.k, if_pos ((seen_has hI.k).1 h4)]
  ·rw [h3, hI.k, if_neg (fun h => by obtain ⟨e, he, hk⟩ := (seen_has hI.k).2 h; exact h4 e he hk)]
   simp [kv]
end Go.K
namespace Go.K
set_option linter.unusedVariables false
set_option linter.unusedSimpArgs false
open Go.Maps (Keyed)
open Go.Lib (compareBytes)
theorem less_cmp : ∀ a b : List UInt8, Op.bytesLess a b = decide (compareBytes a b < 0)
 |[], [] => by simp [Op.bytesLess, compareBytes]
 |_ :: _, [] => by simp [Op.bytesLess, compareBytes]
 |[], _ :: _ => by simp [Op.bytesLess, compareBytes]
 |a :: x, b :: y => by
  rw [Op.bytesLess, less_cmp x y, cmp_cons]
  by_cases h1 : a.toNat < b.toNat
  ·simp [UInt8.lt_iff_toNat_lt, h1]
  ·by_cases h2 : b.toNat < a.toNat
   ·have : ¬ a = b := fun e => by subst e; omega
    simp [UInt8.lt_iff_toNat_lt, h1, h2, this]
   ·have : a = b := UInt8.toNat_inj.1 (by omega)
    simp [UInt8.lt_iff_toNat_lt, h1, h2, this]
theorem cmp_lt (a b : List UInt8) : compareBytes a b < 0 ↔ a < b := by
 have h := less_cmp a b
 rw [Go.Proofs.bytesLess_eq] at h
 exact (decide_eq_decide.1 h).symm
theorem txt_irr (a : List UInt8) : ¬ a < a := fun h => by have := (cmp_lt a a).2 h; rw [cmp_self] at this; omega
theorem txt_trans {a b c : List UInt8} (h : a < b) (h' : b < c) : a < c := (cmp_lt _ _).1 (cmp_trans ((cmp_lt _ _).2 h) ((cmp_lt _ _).2 h'))
theorem txt_tri (a b : List UInt8) : a < b ∨ a = b ∨ b < a := by
 rcases Int.lt_trichotomy (compareBytes a b) 0 with h | h | h
 ·exact .inl ((cmp_lt _ _).1 h)
 ·exact .inr (.inl (cmp_zero h))
 ·exact .inr (.inr ((cmp_lt _ _).1 (by rw [cmp_neg]; omega)))
theorem txt_asym {a b : List UInt8} (h : a < b) : ¬ b < a := fun h' => txt_irr a (txt_trans h h')
theorem txt_le {a b : List UInt8} : a ≤ b ↔ ¬ b < a := Iff.rfl
section
variable {P : Program} {r : Option Nat} {n : Nat} {L : Sl} {ds : List Deferred} {w : World} {K : Kt} {ops : Array Oper} {rest : List Oper} {d : Nat} {x y : Operand} {ty : TypeId} {pos : String} {af : Array Edge}
theorem Rg.strgtr {t t' : TypeId} {p q : List UInt8} (hx : ev L x = some (.string ⟨p.toArray⟩)) (hy : ev L y = some (.string ⟨q.toArray⟩)) (hd : Nat.blt d n = true)
  (k : Rg P r n ops rest ((d, .bool (decide (q < p))) :: L) ds w K) :
  Rg P r n ops ({ dst := some d, op := .binOp .gtr t x y t', type := ty, pos, after := af, guard := none } :: rest) L ds w K :=
 .op (fun _ h => by cases h) rfl rfl hd _ w (fun ρ h => by
  have e : (!(decide (p < q) || p == q)) = decide (q < p) := by
   rcases txt_tri p q with h | h | h
   ·simp [h, txt_asym h]
   ·subst h; simp [txt_irr]
   ·have : ¬ p = q := fun e => by subst e; exact txt_irr p h
    simp [h, txt_asym h, this]
  simp only [execOp]; rw [h x _ hx, h y _ hy]; simp only [binOp, Op.stringOp, bytes_toList, Go.Proofs.bytesLess_eq, e]; simp [eqGuard]) k
theorem Rg.strgeq {t t' : TypeId} {p q : List UInt8} (hx : ev L x = some (.string ⟨p.toArray⟩)) (hy : ev L y = some (.string ⟨q.toArray⟩)) (hd : Nat.blt d n = true)
  (k : Rg P r n ops rest ((d, .bool (decide (¬ p < q))) :: L) ds w K) :
  Rg P r n ops ({ dst := some d, op := .binOp .geq t x y t', type := ty, pos, after := af, guard := none } :: rest) L ds w K :=
 .op (fun _ h => by cases h) rfl rfl hd _ w (fun ρ h => by
  have e : (!decide (p < q)) = decide (¬ p < q) := by by_cases h : p < q <;> simp [h]
  simp only [execOp]; rw [h x _ hx, h y _ hy]; simp only [binOp, Op.stringOp, bytes_toList, Go.Proofs.bytesLess_eq, e]; simp [eqGuard]) k
theorem Rg.strleq {t t' : TypeId} {p q : List UInt8} (hx : ev L x = some (.string ⟨p.toArray⟩)) (hy : ev L y = some (.string ⟨q.toArray⟩)) (hd : Nat.blt d n = true)
  (k : Rg P r n ops rest ((d, .bool (decide (¬ q < p))) :: L) ds w K) :
  Rg P r n ops ({ dst := some d, op := .binOp .leq t x y t', type := ty, pos, after := af, guard := none } :: rest) L ds w K :=
 .op (fun _ h => by cases h) rfl rfl hd _ w (fun ρ h => by
  have e : (decide (p < q) || p == q) = decide (¬ q < p) := by
   rcases txt_tri p q with h | h | h
   ·simp [h, txt_asym h]
   ·subst h; simp [txt_irr]
   ·have : ¬ p = q := fun e => by subst e; exact txt_irr p h
    simp [h, txt_asym h, this]
  simp only [execOp]; rw [h x _ hx, h y _ hy]; simp only [binOp, Op.stringOp, bytes_toList, Go.Proofs.bytesLess_eq, e]; simp [eqGuard]) k
end
abbrev UpT (l : List (List UInt8)) : Prop := l.Pairwise (· < ·)
theorem up_sorted {ss : List (List UInt8)} (h : ss.Nodup) : UpT (ss.mergeSort fun x y => decide (x ≤ y)) := by
 have h1 : (ss.mergeSort fun x y => decide (x ≤ y)).Pairwise (fun x y => decide (x ≤ y) = true) := List.pairwise_mergeSort (fun a b c h1 h2 => by
  simp only [decide_eq_true_eq, txt_le] at h1 h2 ⊢
  intro h3
  rcases txt_tri a b with h | h | h
  ·exact h2 (txt_trans h3 h)
  ·subst h; exact h2 h3
  ·exact h1 h) (fun a b => by
  simp only [Bool.or_eq_true, decide_eq_true_eq, txt_le]
  rcases txt_tri a b with h | h | h
  ·exact .inl (txt_asym h)
  ·subst h; exact .inl (txt_irr a)
  ·exact .inr (txt_asym h)) ss
 have h2 : (ss.mergeSort fun x y => decide (x ≤ y)).Nodup := (List.mergeSort_perm ss _).nodup_iff.2 h
 refine (h1.and h2).imp ?_
 rintro a b ⟨h3, h4⟩
 simp only [decide_eq_true_eq, txt_le] at h3
 rcases txt_tri a b with h | h | h
 ·exact h
 ·exact absurd h h4
 ·exact absurd h h3
theorem UpT.nodup {l : List (List UInt8)} (h : UpT l) : l.Nodup := h.imp fun {a b} h e => by subst e; exact txt_irr a h
theorem perm_one {α : Type} {R : α → α → Prop} (hR : ∀ a b, R a b → R b a → a = b) {l l' : List α} (h : l.Pairwise R) (h' : l'.Pairwise R) (hn : l.Nodup) (hn' : l'.Nodup) (hm : ∀ x, x ∈ l ↔ x ∈ l') : l = l' :=
 List.Perm.eq_of_pairwise (fun a b _ _ h1 h2 => hR a b h1 h2) h h' ((List.perm_ext_iff_of_nodup hn hn').2 hm)
theorem up_one {l l' : List (List UInt8)} (h : UpT l) (h' : UpT l') (hm : ∀ x, x ∈ l ↔ x ∈ l') : l = l' :=
 perm_one (fun a b h1 h2 => absurd h2 (txt_asym h1)) h h' h.nodup h'.nodup hm
abbrev sv (k : List UInt8) : Value := .string ⟨k.toArray⟩
theorem sv_inj {a b : List UInt8} (h : sv a = sv b) : a = b := by simpa [sv] using h
def anyR : Value → Option (DU × List MemPlace) := fun _ => some (.nil, [])
theorem MapW.mapO {P : Program} {kt : TypeId} {M : PSet} {w : World} {b : Nat} {es : List MapEntry} {clock : Nat} (hk : P.underlying kt = some .string) (h : MapW P kt w b es clock) (hm : M b) (hl : es.length ≤ maxLen) (ks : List (List UInt8)) (hks : es.map (·.key) = ks.map sv) :
  ∃ m : List (Lit × DU), MapO P kt anyR M w b m ∧ (strKeys (DataW.map m)).Perm ks ∧ m.length = ks.length := by
 have hF : Go.WideElems.Fit P kt anyR es.toArray clock := by
  refine ⟨by simpa using hl, ⟨fun x hx => h.lt x (by simpa using hx), ?_, ?_⟩, fun x hx => ?_⟩
  ·simpa [List.Nodup, List.pairwise_map] using h.born
  ·simpa [List.Nodup, List.pairwise_map] using h.keys
  ·obtain ⟨l, hl⟩ := h.ok x (by simpa using hx)
   exact ⟨(l, .nil), by simp [Go.WideElems.rd, hl, anyR]⟩
 have hp := Go.WideShapes.sorted_perm (es.toArray.toList.map (Go.WideElems.rg P kt anyR))
 have hlen : (List.foldr DataW.insert [] (es.toArray.toList.map (Go.WideElems.rg P kt anyR))).length = es.length := by rw [hp.length_eq]; simp
 refine ⟨_, ⟨hm, es.toArray, clock, h.at_, hF, by rw [hlen]; simp, rfl⟩, ?_, ?_⟩
 ·refine (hp.map fun p => strOf p.1).trans ?_
  rw [List.map_map]
  have e : es.toArray.toList.map ((fun p => strOf p.1) ∘ Go.WideElems.rg (H := Unit) P kt anyR) = ks := by
   refine List.ext_getElem? fun i => ?_
   have hi := congrArg (·[i]?) hks
   simp only [List.getElem?_map] at hi ⊢
   cases he : es[i]? with
   |none =>
    rw [he] at hi
    cases hks' : ks[i]? with
    |none => simp [he]
    |some a => rw [hks'] at hi; cases hi
   |some e =>
    rw [he] at hi
    obtain ⟨l, hl⟩ := h.ok e (List.mem_of_getElem? he)
    obtain ⟨s, hs, h1⟩ := Option.map_eq_some_iff.1 hi.symm
    obtain ⟨z, hz1, hz2, _⟩ := Maps.keyOf_str hk hl
    have : z = s := sv_inj (hz1.symm.trans (by simpa using h1.symm))
    subst this
    simp [he, hs, Go.WideElems.rg, Go.WideElems.rd, hl, anyR, hz2, strOf]
  rw [e]
 ·rw [hlen]; have := congrArg List.length hks; simpa using this
end Go.K
namespace Go.K
set_option linter.unusedVariables false
set_option linter.unusedSimpArgs false
open Go.Lib (compareBytes)
def putBy {α : Type} [DecidableEq α] (key : α → List UInt8) (t : α) : List α → List α
 |[] => [t]
 |u :: l => if key t < key u then t :: u :: l else if u = t then u :: l else u :: putBy key t l
theorem putBy_mem {α : Type} [DecidableEq α] {key : α → List UInt8} {t x : α} : ∀ {l : List α}, x ∈ putBy key t l ↔ x = t ∨ x ∈ l
 |[] => by simp [putBy]
 |u :: l => by
  unfold putBy
  split
  ·simp
  ·split
   ·rename_i h; subst h; simp
   ·rw [List.mem_cons, putBy_mem (l := l), List.mem_cons]
    constructor
    ·rintro (h | h | h)
     ·exact .inr (.inl h)
     ·exact .inl h
     ·exact .inr (.inr h)
    ·rintro (h | h | h)
     ·exact .inr (.inl h)
     ·exact .inl h
     ·exact .inr (.inr h)
abbrev UpBy {α : Type} (key : α → List UInt8) (l : List α) : Prop := l.Pairwise fun a b => key a < key b
theorem putBy_up {α : Type} [DecidableEq α] {key : α → List UInt8} {t : α} : ∀ {l : List α}, (∀ u ∈ l, key u = key t → u = t) → UpBy key l → UpBy key (putBy key t l)
 |[], _, _ => by simp [putBy]
 |u :: l, hi, h => by
  have h' := List.pairwise_cons.1 h
  unfold putBy
  split
  ·rename_i hlt
   refine List.pairwise_cons.2 ⟨fun x hx => ?_, h⟩
   rcases List.mem_cons.1 hx with rfl | hx
   ·exact hlt
   ·exact txt_trans hlt (h'.1 x hx)
  ·rename_i hlt
   split
   ·exact h
   ·rename_i hne
    have hut : key u < key t := by
     rcases txt_tri (key u) (key t) with h1 | h1 | h1
     ·exact h1
     ·exact absurd (hi u (List.mem_cons_self ..) h1) hne
     ·exact absurd h1 hlt
    refine List.pairwise_cons.2 ⟨fun x hx => ?_, putBy_up (fun v hv => hi v (List.mem_cons_of_mem _ hv)) h'.2⟩
    rcases putBy_mem.1 hx with rfl | hx
    ·exact hut
    ·exact h'.1 x hx
def allBy {α : Type} [DecidableEq α] (key : α → List UInt8) (l : List α) : List α := l.foldl (fun a t => putBy key t a) []
theorem fold_by {α : Type} [DecidableEq α] {key : α → List UInt8} {S : α → Prop} (hS : ∀ a b, S a → S b → key a = key b → a = b) : ∀ (l a : List α), (∀ x ∈ l, S x) → (∀ x ∈ a, S x) → UpBy key a →
  UpBy key (l.foldl (fun a t => putBy key t a) a) ∧ ∀ x, x ∈ l.foldl (fun a t => putBy key t a) a ↔ x ∈ a ∨ x ∈ l
 |[], a, _, _, h => ⟨h, fun x => by simp⟩
 |t :: l, a, hl, ha, h => by
  have ht := hl t (List.mem_cons_self ..)
  obtain ⟨h1, h2⟩ := fold_by hS l (putBy key t a) (fun x hx => hl x (List.mem_cons_of_mem _ hx)) (fun x hx => by
   rcases putBy_mem.1 hx with rfl | hx
   ·exact ht
   ·exact ha x hx) (putBy_up (fun u hu e => hS _ _ (ha u hu) ht e) h)
  refine ⟨h1, fun x => ?_⟩
  rw [List.foldl_cons, h2, putBy_mem, List.mem_cons]
  constructor
  ·rintro ((h | h) | h)
   ·exact .inr (.inl h)
   ·exact .inl h
   ·exact .inr (.inr h)
  ·rintro (h | h | h)
   ·exact .inl (.inr h)
   ·exact .inl (.inl h)
   ·exact .inr h
theorem UpBy.nodup {α : Type} {key : α → List UInt8} {l : List α} (h : UpBy key l) : l.Nodup := h.imp fun {a b} h e => by subst e; exact txt_irr _ h
abbrev NoZ (t : Fd) : Prop := (0 : UInt8) ∉ t.1
theorem keyE_one {a b : Fd} (ha : NoZ a) (hb : NoZ b) (h : keyE a = keyE b) : a = b := by
 obtain ⟨h1, h2⟩ := keyE_inj ha hb h
 exact Prod.ext h1 h2
def termsOf (tl : List (Fd × Nat)) : List Fd := allBy keyE (tl.map (·.1))
theorem terms_up {tl : List (Fd × Nat)} (hz : ∀ p ∈ tl, NoZ p.1) : UpBy keyE (termsOf tl) :=
 (fold_by (S := NoZ) (fun _ _ => keyE_one) _ [] (fun x hx => by obtain ⟨p, hp, rfl⟩ := List.mem_map.1 hx; exact hz p hp) (fun x h => by cases h) List.Pairwise.nil).1
theorem terms_mem {tl : List (Fd × Nat)} (hz : ∀ p ∈ tl, NoZ p.1) {t : Fd} : t ∈ termsOf tl ↔ t ∈ tl.map (·.1) := by
 have := (fold_by (S := NoZ) (key := keyE) (fun _ _ => keyE_one) (tl.map (·.1)) [] (fun x hx => by obtain ⟨p, hp, rfl⟩ := List.mem_map.1 hx; exact hz p hp) (fun x h => by cases h) List.Pairwise.nil).2 t
 simpa [termsOf, allBy] using this
theorem seen_go (t : Fd) : ∀ (ts : List (Fd × Nat)) (l : List Fd), t ∈ ts.foldl (fun l p => if p.1 ∈ l then l else l ++ [p.1]) l ↔ t ∈ l ∨ t ∈ ts.map (·.1)
 |[], l => by simp
 |p :: ts, l => by
  rw [List.foldl_cons, seen_go t ts, List.map_cons, List.mem_cons]
  split
  ·rename_i h
   constructor
   ·rintro (h1 | h1)
    ·exact .inl h1
    ·exact .inr (.inr h1)
   ·rintro (h1 | h1 | h1)
    ·exact .inl h1
    ·exact .inl (by rw [h1]; exact h)
    ·exact .inr h1
  ·rw [List.mem_append, List.mem_singleton]
   constructor
   ·rintro ((h1 | h1) | h1)
    ·exact .inl h1
    ·exact .inr (.inl h1)
    ·exact .inr (.inr h1)
   ·rintro (h1 | h1 | h1)
    ·exact .inl (.inl h1)
    ·exact .inl (.inr h1)
    ·exact .inr h1
theorem seen_mem {tl : List (Fd × Nat)} {t : Fd} : t ∈ seen tl ↔ t ∈ tl.map (·.1) := by unfold seen; rw [seen_go]; simp
theorem byKey_terms {tl : List (Fd × Nat)} {us : List Fd} (hz : ∀ p ∈ tl, NoZ p.1) (hnd : us.Nodup) (hin : ∀ t, t ∈ us ↔ t ∈ seen tl) (hby : ByKey us) : us = termsOf tl := by
 have hm : ∀ t, t ∈ us ↔ t ∈ termsOf tl := fun t => by rw [hin, seen_mem, terms_mem hz]
 have hno : ∀ t ∈ termsOf tl, NoZ t := fun t ht => by obtain ⟨p, hp, rfl⟩ := List.mem_map.1 ((terms_mem hz).1 ht); exact hz p hp
 refine List.Perm.eq_of_pairwise (le := fun a b => ¬ compareBytes (keyE b) (keyE a) < 0) (fun a b ha hb h1 h2 => ?_) hby ((terms_up hz).imp fun {a b} h h' => txt_asym h ((cmp_lt _ _).1 h')) ((List.perm_ext_iff_of_nodup hnd (terms_up hz).nodup).2 hm)
 rw [cmp_lt] at h1 h2
 rcases txt_tri (keyE a) (keyE b) with h | h | h
 ·exact absurd h h2
 ·exact keyE_one (hno a ((hm a).1 ha)) (hno b hb) h
 ·exact absurd h h1
theorem posOf_append (a b : List (Fd × Nat)) (t : Fd) : posOf (a ++ b) t = posOf a t ++ posOf b t := by simp [posOf]
theorem posOf_ne {tl : List (Fd × Nat)} {t : Fd} (h : t ∈ tl.map (·.1)) : posOf tl t ≠ [] := by
 obtain ⟨p, hp, rfl⟩ := List.mem_map.1 h
 intro e
 have : p ∈ tl.filter fun q => decide (q.1 = p.1) := List.mem_filter.2 ⟨hp, by simp⟩
 rw [List.map_eq_nil_iff.1 e] at this; cases this
theorem posOf_nil {tl : List (Fd × Nat)} {t : Fd} (h : t ∉ tl.map (·.1)) : posOf tl t = [] := by
 unfold posOf
 rw [List.filter_eq_nil_iff.2 fun p hp => by simp; intro e; exact h (List.mem_map.2 ⟨p, hp, e⟩)]; rfl
theorem posF_sub (x : Fd) (t : Fd) : (posOf (tellF x) t).Sublist ((List.range' 0 (words x.2).length).map fun (i : Nat) => (i : Int)) := by
 have e : (tellF x).map (fun p => (p.2 : Int)) = (List.range' 0 (words x.2).length).map fun (i : Nat) => (i : Int) := by
  rw [← List.zipIdx_map_snd 0 (words x.2), List.map_map]; unfold tellF; rw [List.map_map]; rfl
 rw [← e]
 exact List.filter_sublist.map _
theorem posF_rise (x : Fd) (t : Fd) : (posOf (tellF x) t).Pairwise (· < ·) ∧ ∀ i ∈ posOf (tellF x) t, 0 ≤ i ∧ i < (words x.2).length := by
 refine ⟨List.Pairwise.sublist (posF_sub x t) (List.pairwise_map.2 ((List.pairwise_lt_range' (s := 0) (n := (words x.2).length)).imp fun h => by omega)), fun i hi => ?_⟩
 have := (posF_sub x t).subset hi
 obtain ⟨k, hk, rfl⟩ := List.mem_map.1 this
 have := List.mem_range'_1.1 hk; omega
theorem tellF_mem {x : Fd} {p : Fd × Nat} (h : p ∈ tellF x) : p.1.1 = x.1 ∧ p.1.2 ∈ words x.2 := by
 obtain ⟨q, hq, rfl⟩ := List.mem_map.1 h
 have := List.mem_zipIdx hq
 exact ⟨rfl, by simp only; rw [this.2.2]; exact List.getElem_mem _⟩
theorem tells_mem {fs : List Fd} {p : Fd × Nat} (h : p ∈ tellsL fs) : ∃ x ∈ fs, p.1.1 = x.1 ∧ p.1.2 ∈ words x.2 := by
 obtain ⟨x, hx, hp⟩ := List.mem_flatMap.1 h
 exact ⟨x, hx, tellF_mem hp⟩
theorem posF_other {x t : Fd} (h : x.1 ≠ t.1) : posOf (tellF x) t = [] := posOf_nil fun hm => by
 obtain ⟨p, hp, rfl⟩ := List.mem_map.1 hm
 exact h (tellF_mem hp).1.symm
theorem posL_none {t : Fd} : ∀ {fs : List Fd}, (∀ x ∈ fs, x.1 ≠ t.1) → posOf (tellsL fs) t = []
 |[], _ => rfl
 |x :: fs, h => by
  show posOf (tellF x ++ tellsL fs) t = []
  rw [posOf_append, posF_other (h x (List.mem_cons_self ..)), posL_none fun y hy => h y (List.mem_cons_of_mem _ hy)]; rfl
theorem posL_one {t : Fd} : ∀ {fs : List Fd}, (fs.map (·.1)).Nodup → posOf (tellsL fs) t = [] ∨ ∃ x ∈ fs, posOf (tellsL fs) t = posOf (tellF x) t
 |[], _ => .inl rfl
 |x :: fs, h => by
  have h' := List.nodup_cons.1 h
  have e : posOf (tellsL (x :: fs)) t = posOf (tellF x) t ++ posOf (tellsL fs) t := by show posOf (tellF x ++ tellsL fs) t = _; rw [posOf_append]
  by_cases hx : x.1 = t.1
  ·refine .inr ⟨x, List.mem_cons_self .., ?_⟩
   rw [e, posL_none fun y hy e => h'.1 (by have h9 : y.1 ∈ fs.map (·.1) := List.mem_map_of_mem hy; rw [e, ← hx] at h9; exact h9), List.append_nil]
  ·rw [e, posF_other hx, List.nil_append]
   rcases posL_one (t := t) h'.2 with h1 | ⟨y, hy, h1⟩
   ·exact .inl h1
   ·exact .inr ⟨y, List.mem_cons_of_mem _ hy, h1⟩
theorem rises_of : ∀ {l : List Int} {last : Int}, (∀ x ∈ l, last < x) → l.Pairwise (· < ·) → rises last l = true
 |[], _, _, _ => rfl
 |x :: l, last, h1, h2 => by
  have h2' := List.pairwise_cons.1 h2
  simp only [rises, Bool.and_eq_true, decide_eq_true_eq]
  exact ⟨h1 x (List.mem_cons_self ..), rises_of h2'.1 h2'.2⟩
structure Fine (d : Dc) : Prop where
 names : ∀ f ∈ d.2, nameB f.1 = true
 once : (d.2.map (·.1)).Nodup
 toks : ∀ f ∈ d.2, tokE 0 (words f.2) = 0
 many : (tellsL d.2).length ≤ 500
 few : d.2.length ≤ 8
theorem mayL_fine : ∀ {fs sn : List Fd} {n : Nat}, mayL sn fs n = 0 → (∀ f ∈ fs, nameB f.1 = true ∧ tokE 0 (words f.2) = 0 ∧ ∀ g ∈ sn, g.1 ≠ f.1) ∧ (fs.map (·.1)).Nodup ∧ n + (tellsL fs).length ≤ 500
 |[], sn, n, h => by
  refine ⟨(fun f hf => by cases hf), List.nodup_nil, ?_⟩
  simp only [mayL] at h
  split at h
  ·cases h
  ·simp [tellsL]; omega
 |f :: fs, sn, n, h => by
  simp only [mayL] at h
  split at h
  ·cases h
  ·rename_i h1
   split at h
   ·cases h
   ·rename_i h2
    split at h
    ·exact absurd h (by assumption)
    ·rename_i h3
     obtain ⟨h4, h5, h6⟩ := mayL_fine h
     have h7 : ∀ g ∈ sn, g.1 ≠ f.1 := fun g hg e => h2 (List.any_eq_true.2 ⟨g, hg, by simp [e]⟩)
     refine ⟨fun x hx => ?_, List.nodup_cons.2 ⟨fun hm => ?_, h5⟩, ?_⟩
     ·rcases List.mem_cons.1 hx with rfl | hx
      ·exact ⟨by simpa using h1, by simpa using h3, h7⟩
      ·obtain ⟨a, b, c⟩ := h4 x hx
       exact ⟨a, b, fun g hg => c g (List.mem_append_left _ hg)⟩
     ·obtain ⟨y, hy, e⟩ := List.mem_map.1 hm
      exact (h4 y hy).2.2 f (List.mem_append_right _ (List.mem_singleton.2 rfl)) e.symm
     ·have : (tellsL (f :: fs)).length = (tellF f).length + (tellsL fs).length := by show (tellF f ++ tellsL fs).length = _; rw [List.length_append]
      rw [this, tellF_len]; omega
theorem fine_of {d : Dc} (h : mayD d = 0) : Fine d := by
 unfold mayD at h
 split at h
 ·cases h
 ·obtain ⟨h1, h2, h3⟩ := mayL_fine h
  exact ⟨fun f hf => (h1 f hf).1, h2, fun f hf => (h1 f hf).2.1, by omega, by omega⟩
theorem tok_small : ∀ {ws : List (List UInt8)} {i : Nat}, tokE i ws = 0 → ∀ x ∈ ws, x.length ≤ 30
 |[], _, _, x, hx => by cases hx
 |a :: ws, i, h, x, hx => by
  simp only [tokE] at h
  split at h
  ·cases h
  ·split at h
   ·cases h
   ·rcases List.mem_cons.1 hx with rfl | hx
    ·omega
    ·exact tok_small h x hx
theorem name_noz {s : List UInt8} (h : nameB s = true) : (0 : UInt8) ∉ s := fun h0 => by
 simp only [nameB, Bool.and_eq_true, List.all_eq_true] at h
 have := h.2 0 h0
 revert this; decide
theorem Fine.noz {d : Dc} (h : Fine d) : ∀ p ∈ tellsL d.2, NoZ p.1 := fun p hp => by
 obtain ⟨x, hx, h1, _⟩ := tells_mem hp
 show (0 : UInt8) ∉ p.1.1
 rw [h1]; exact name_noz (h.names x hx)
theorem Fine.small {d : Dc} (h : Fine d) : ∀ p ∈ tellsL d.2, p.1.1.length ≤ 12 ∧ p.1.2.length ≤ 30 := fun p hp => by
 obtain ⟨x, hx, h1, h2⟩ := tells_mem hp
 exact ⟨by rw [h1]; exact name_len (h.names x hx), tok_small (h.toks x hx) _ h2⟩
theorem Fine.pos {d : Dc} (h : Fine d) (t : Fd) : (posOf (tellsL d.2) t).Pairwise (· < ·) ∧ (∀ i ∈ posOf (tellsL d.2) t, 0 ≤ i ∧ i < 500) ∧ (posOf (tellsL d.2) t).length ≤ 500 := by
 have hl := posOf_len (tellsL d.2) t
 have hm := h.many
 rcases posL_one (t := t) h.once with h1 | ⟨x, hx, h1⟩
 ·rw [h1]; exact ⟨List.Pairwise.nil, (fun i hi => by cases hi), by simp⟩
 ·obtain ⟨h2, h3⟩ := posF_rise x t
  have hxl : (words x.2).length ≤ 500 := by
   have : (tellF x).length ≤ (tellsL d.2).length := by
    obtain ⟨i, hi⟩ := List.mem_iff_getElem?.1 hx
    have := tells_take hi
    have h5 : (tellsL (d.2.take (i + 1))).length ≤ (tellsL d.2).length := by
     have : tellsL d.2 = tellsL (d.2.take (i + 1)) ++ tellsL (d.2.drop (i + 1)) := by unfold tellsL; rw [← List.flatMap_append, List.take_append_drop]
     rw [this, List.length_append]; omega
    rw [this, List.length_append] at h5; omega
   rw [tellF_len] at this; omega
  rw [h1] at hl ⊢
  exact ⟨h2, fun i hi => ⟨(h3 i hi).1, by have := (h3 i hi).2; omega⟩, by omega⟩
theorem Fine.rises {d : Dc} (h : Fine d) (t : Fd) : risesB (posOf (tellsL d.2) t) = true := by
 obtain ⟨h1, h2, _⟩ := h.pos t
 exact risesB_iff.2 ⟨rises_of (fun x hx => by have := (h2 x hx).1; omega) h1, fun x hx => by have := (h2 x hx).2; omega⟩
abbrev tlE (e : En) : List (Fd × Nat) := tellsL e.1.2
def pkE (i : Nat) (tl : List (Fd × Nat)) (k : List UInt8) : List Po := ((termsOf tl).filter fun t => decide (keyE t = k)).map fun t => ((i : Int), posOf tl t)
def pkF (k : List UInt8) : Nat → List En → List Po
 |_, [] => []
 |i, e :: L => pkE i (tlE e) k ++ pkF k (i + 1) L
def pk (L : List En) (k : List UInt8) : List Po := pkF k 0 L
theorem pkF_snoc (k : List UInt8) (e : En) : ∀ (L : List En) (i : Nat), pkF k i (L ++ [e]) = pkF k i L ++ pkE (i + L.length) (tlE e) k
 |[], i => by simp [pkF]
 |x :: L, i => by
  simp only [List.cons_append, pkF, pkF_snoc k e L (i + 1), List.append_assoc, List.length_cons]
  rw [show i + 1 + L.length = i + (L.length + 1) by omega]
theorem pk_snoc (L : List En) (e : En) (k : List UInt8) : pk (L ++ [e]) k = pk L k ++ pkE L.length (tlE e) k := by
 unfold pk; rw [pkF_snoc]; simp
def keysL (L : List En) : List (List UInt8) := L.flatMap fun e => (termsOf (tlE e)).map keyE
theorem keysL_snoc (L : List En) (e : En) : keysL (L ++ [e]) = keysL L ++ (termsOf (tlE e)).map keyE := by simp [keysL]
def keysOf (L : List En) : List (List UInt8) := allBy id (keysL L)
theorem keys_up (L : List En) : UpT (keysOf L) := (fold_by (key := id) (S := fun _ => True) (fun a b _ _ h => h) _ [] (fun _ _ => trivial) (fun _ _ => trivial) List.Pairwise.nil).1
theorem keys_mem {L : List En} {k : List UInt8} : k ∈ keysOf L ↔ k ∈ keysL L := by
 have := (fold_by (key := id) (S := fun _ => True) (fun a b _ _ h => h) (keysL L) [] (fun _ _ => trivial) (fun _ _ => trivial) List.Pairwise.nil).2 k
 simpa [keysOf, allBy] using this
theorem filter_one {α : Type} {key : α → List UInt8} {l : List α} (h : UpBy key l) (k : List UInt8) : l.filter (fun t => decide (key t = k)) = [] ∨ ∃ t ∈ l, key t = k ∧ l.filter (fun t => decide (key t = k)) = [t] := by
 have h1 : UpBy key (l.filter fun t => decide (key t = k)) := List.Pairwise.sublist List.filter_sublist h
 have h2 : ∀ x ∈ l.filter (fun t => decide (key t = k)), x ∈ l ∧ key x = k := fun x hx => by simpa using List.mem_filter.1 hx
 revert h1 h2
 generalize l.filter (fun t => decide (key t = k)) = m
 intro h1 h2
 match m, h1, h2 with
 |[], _, _ => exact .inl rfl
 |[t], _, h2 => exact .inr ⟨t, (h2 t (List.mem_cons_self ..)).1, (h2 t (List.mem_cons_self ..)).2, rfl⟩
 |t :: u :: m, h1, h2 =>
  have := (List.pairwise_cons.1 h1).1 u (List.mem_cons_self ..)
  rw [(h2 t (List.mem_cons_self ..)).2, (h2 u (by simp)).2] at this
  exact absurd this (txt_irr k)
theorem pkE_one {d : Dc} (h : Fine d) (i : Nat) (k : List UInt8) : pkE i (tellsL d.2) k = [] ∨ ∃ t ∈ termsOf (tellsL d.2), keyE t = k ∧ pkE i (tellsL d.2) k = [((i : Int), posOf (tellsL d.2) t)] := by
 rcases filter_one (terms_up h.noz) k with h1 | ⟨t, ht, hk, h1⟩
 ·exact .inl (by unfold pkE; rw [h1]; rfl)
 ·exact .inr ⟨t, ht, hk, by unfold pkE; rw [h1]; rfl⟩
theorem pkE_ne {tl : List (Fd × Nat)} {i : Nat} {t : Fd} (h : t ∈ termsOf tl) : pkE i tl (keyE t) ≠ [] := fun e => by
 have : t ∈ (termsOf tl).filter fun u => decide (keyE u = keyE t) := List.mem_filter.2 ⟨h, by simp⟩
 rw [List.map_eq_nil_iff.1 e] at this; cases this
theorem pkF_may (k : List UInt8) : ∀ (L : List En) (i : Nat) (last : Int), (∀ e ∈ L, Fine e.1) → last < i → i + L.length ≤ 2147483648 → mayPo last (pkF k i L) = true
 |[], _, _, _, _, _ => rfl
 |e :: L, i, last, hF, h1, h2 => by
  have hf := hF e (List.mem_cons_self ..)
  have hr := fun last h => pkF_may k L (i + 1) last (fun x hx => hF x (List.mem_cons_of_mem _ hx)) h (by simp at h2; omega)
  simp only [pkF]
  rcases pkE_one hf i k with h3 | ⟨t, ht, hk, h3⟩
  ·rw [show pkE i (tlE e) k = [] from h3]; exact hr last (by omega)
  ·rw [show pkE i (tlE e) k = _ from h3]
   have hne : (posOf (tellsL e.1.2) t).isEmpty = false := by
    have := posOf_ne ((terms_mem hf.noz).1 ht)
    cases h : posOf (tellsL e.1.2) t with
    |nil => exact absurd h this
    |cons a b => rfl
   simp only [List.cons_append, List.nil_append, mayPo, hne, hf.rises t, hr i (by omega), Bool.and_true, Bool.not_false, Bool.and_eq_true, decide_eq_true_eq]
   simp at h2; omega
theorem pkF_at (k : List UInt8) : ∀ (L : List En) (i : Nat), (∀ e ∈ L, Fine e.1) → (pkF k i L).length ≤ L.length ∧ ∀ p ∈ pkF k i L, (i : Int) ≤ p.1 ∧ p.1 < i + L.length ∧ p.2.length ≤ 500
 |[], _, _ => ⟨Nat.le_refl _, fun p h => by cases h⟩
 |e :: L, i, hF => by
  have hf := hF e (List.mem_cons_self ..)
  obtain ⟨h1, h2⟩ := pkF_at k L (i + 1) (fun x hx => hF x (List.mem_cons_of_mem _ hx))
  simp only [pkF, List.length_cons]
  rcases pkE_one hf i k with h3 | ⟨t, ht, hk, h3⟩
  ·rw [show pkE i (tlE e) k = [] from h3]
   exact ⟨by simpa using Nat.le_succ_of_le h1, fun p hp => by have := h2 p (by simpa using hp); exact ⟨by omega, by omega, this.2.2⟩⟩
  ·rw [show pkE i (tlE e) k = _ from h3]
   refine ⟨by simp; omega, fun p hp => ?_⟩
   rcases List.mem_cons.1 hp with rfl | hp
   ·exact ⟨Int.le_refl _, by simp only; omega, (hf.pos t).2.2⟩
   ·have := h2 p (by simpa using hp); exact ⟨by omega, by omega, this.2.2⟩
theorem putPo_len : ∀ (l : List Po) (last : Int) (m : Nat), -1 ≤ last → mayPo last l = true → (∀ p ∈ l, p.2.length ≤ m) → m ≤ 1000000 → (putPo last l).length ≤ (18 + 9 * m) * l.length ∧ totPo l ≤ m * l.length
 |[], _, _, _, _, _, _ => ⟨by simp [putPo], by simp [totPo]⟩
 |(d, ps) :: l, last, m, h0, hm, hs, hmm => by
  simp only [mayPo, Bool.and_eq_true, decide_eq_true_eq] at hm
  obtain ⟨⟨⟨⟨h1, h2⟩, h3⟩, h4⟩, h5⟩ := hm
  obtain ⟨h6, h7⟩ := risesB_iff.1 h4
  have hps := hs _ (List.mem_cons_self ..)
  simp only at hps
  obtain ⟨i1, i2⟩ := putPo_len l d m (by omega) h5 (fun p hp => hs p (List.mem_cons_of_mem _ hp)) hmm
  have a1 := putR_len ps (-1) (by omega) (fun x hx => by have := h7 x hx; omega) h6
  have a3 := put_len9 (n := (d - last - 1).toNat) (by omega)
  have a4 := put_len9 (n := ps.length) (by omega)
  have e1 : 9 * ps.length ≤ 9 * m := by omega
  constructor
  ·simp only [putPo, putRising, List.length_append, List.length_cons, Nat.mul_add, Nat.mul_one]; omega
  ·simp only [totPo, List.map_cons, List.sum_cons, List.length_cons] at i2 ⊢
   rw [Int.natCast_add, Int.mul_add]; omega
theorem pkF_ne {k : List UInt8} : ∀ {L : List En} (i : Nat), k ∈ keysL L → pkF k i L ≠ []
 |[], _, h => by cases h
 |e :: L, i, h => by
  simp only [pkF]
  intro hn
  obtain ⟨h1, h2⟩ := List.append_eq_nil_iff.1 hn
  have h : k ∈ (termsOf (tlE e)).map keyE ++ keysL L := h
  rcases List.mem_append.1 h with h | h
  ·obtain ⟨t, ht, rfl⟩ := List.mem_map.1 h
   exact pkE_ne ht h1
  ·exact pkF_ne (i + 1) h h2
theorem pkF_nil {k : List UInt8} : ∀ {L : List En} (i : Nat), k ∉ keysL L → pkF k i L = []
 |[], _, _ => rfl
 |e :: L, i, h => by
  have h : k ∉ (termsOf (tlE e)).map keyE ++ keysL L := h
  rw [List.mem_append, not_or] at h
  simp only [pkF]
  rw [pkF_nil (i + 1) h.2, List.append_nil]
  unfold pkE
  rw [List.filter_eq_nil_iff.2 fun t ht => by simp; intro e'; exact h.1 (List.mem_map.2 ⟨t, ht, e'⟩)]; rfl
end Go.K
namespace Go.K
set_option linter.unusedVariables false
set_option linter.unusedSimpArgs false
def RT.ptr {α : Type} (A : RT α) (hn : 0 < A.n := by decide) : RT α where
 n := 1
 agg := false
 R := fun M w x vs => ∃ b o us, vs = [.pointer (some ⟨b, o, none⟩)] ∧ ¬ M b ∧ A.R M w x us ∧ w.rangeAt b o us
 len := by rintro _ _ x vs ⟨b, o, us, rfl, _⟩; rfl
 one := by rintro _ _ x vs ⟨b, o, us, rfl, _⟩ v hv; simp at hv; subst hv; rfl
 le := by
  rintro M w M' w' x vs hl ⟨b, o, us, h1, h2, h3, h4⟩
  have hp : 0 < us.length := by rw [A.len h3]; exact hn
  have hc := h4 0 (us[0]'hp) (List.getElem?_eq_getElem hp)
  exact ⟨b, o, us, h1, (hl b (World.block_lt_of_cell? w _ hc) h2).1, A.le hl h3, rangeAt_le hl h2 h4⟩
theorem V_ptr {α : Type} {A : RT α} {hn : 0 < A.n} {M : PSet} {w : World} {x : α} {v : Value} : (A.ptr hn).V M w x v ↔ PtrTo A M w v x :=
 ⟨fun ⟨vs, ⟨b, o, us, h1, h2, h3, h4⟩, h5⟩ => ⟨b, o, us, by subst h1; exact h5, h2, h3, h4⟩, fun ⟨b, o, us, h1, h2, h3, h4⟩ => ⟨[v], ⟨b, o, us, by rw [h1], h2, h3, h4⟩, rfl⟩⟩
abbrev Di := List (List UInt8) × List Li
abbrev Se := List Int × List Int × Di
abbrev RT.di : RT Di := RT.pair (RT.str.sl) (((RT.li).ptr).sl)
abbrev RT.se : RT Se := RT.pair ((RT.int .i64).sl) (RT.pair ((RT.int .i64).sl) ((RT.di).ptr))
theorem di0 : Part RT.di (RT.str.sl) (fun p => p.1) 0 := Part.fst _ _
theorem di1 : Part RT.di (((RT.li).ptr).sl) (fun p => p.2) 1 := Part.snd _ _
theorem se1 : Part RT.se ((RT.int .i64).sl) (fun p => p.2.1) 1 := (Part.snd ((RT.int .i64).sl) (RT.pair ((RT.int .i64).sl) ((RT.di).ptr))).trans (Part.fst _ _)
theorem se2 : Part RT.se ((RT.di).ptr) (fun p => p.2.2) 2 := (Part.snd ((RT.int .i64).sl) (RT.pair ((RT.int .i64).sl) ((RT.di).ptr))).trans (Part.snd ((RT.int .i64).sl) ((RT.di).ptr))
abbrev Pa := List Int × List Int × List (List UInt8) × List (List Po)
abbrev RT.pa : RT Pa := RT.pair ((RT.int .i64).sl) (RT.pair ((RT.int .i64).sl) (RT.pair (RT.str.sl) (((RT.po).sl).sl)))
theorem pa0 : Part RT.pa ((RT.int .i64).sl) (fun p => p.1) 0 := Part.fst _ _
theorem pa1 : Part RT.pa ((RT.int .i64).sl) (fun p => p.2.1) 1 := (Part.snd ((RT.int .i64).sl) (RT.pair ((RT.int .i64).sl) (RT.pair (RT.str.sl) (((RT.po).sl).sl)))).trans (Part.fst _ _)
theorem pa2 : Part RT.pa (RT.str.sl) (fun p => p.2.2.1) 2 := ((Part.snd ((RT.int .i64).sl) (RT.pair ((RT.int .i64).sl) (RT.pair (RT.str.sl) (((RT.po).sl).sl)))).trans (Part.snd ((RT.int .i64).sl) (RT.pair (RT.str.sl) (((RT.po).sl).sl)))).trans (Part.fst _ _)
theorem pa3 : Part RT.pa (((RT.po).sl).sl) (fun p => p.2.2.2) 3 := ((Part.snd ((RT.int .i64).sl) (RT.pair ((RT.int .i64).sl) (RT.pair (RT.str.sl) (((RT.po).sl).sl)))).trans (Part.snd ((RT.int .i64).sl) (RT.pair (RT.str.sl) (((RT.po).sl).sl)))).trans (Part.snd _ _)
theorem V_se {M : PSet} {w : World} {x : Se} {a b c : Value} (h0 : ((RT.int .i64).sl).V M w x.1 a) (h1 : ((RT.int .i64).sl).V M w x.2.1 b) (h2 : PtrTo RT.di M w c x.2.2) : RT.se.V M w x (.agg [a, b, c].toArray) :=
 ⟨[a, b, c], ⟨[a], [b, c], rfl, V_cell h0 rfl rfl, [b], [c], rfl, V_cell h1 rfl rfl, V_cell (V_ptr.2 h2) rfl rfl⟩, rfl⟩
theorem V_pa {M : PSet} {w : World} {x : Pa} {a b c d : Value} (h0 : ((RT.int .i64).sl).V M w x.1 a) (h1 : ((RT.int .i64).sl).V M w x.2.1 b) (h2 : (RT.str.sl).V M w x.2.2.1 c) (h3 : (((RT.po).sl).sl).V M w x.2.2.2 d) : RT.pa.V M w x (.agg [a, b, c, d].toArray) :=
 ⟨[a, b, c, d], ⟨[a], [b, c, d], rfl, V_cell h0 rfl rfl, [b], [c, d], rfl, V_cell h1 rfl rfl, [c], [d], rfl, V_cell h2 rfl rfl, V_cell h3 rfl rfl⟩, rfl⟩
theorem V_ones {α : Type} {A : RT α} (hg : A.agg = true) {M : PSet} {w : World} {x : α} {vs : List Value} (h : A.V M w x (.agg vs.toArray)) : ∀ u ∈ vs, u.oneCell' = true := by
 obtain ⟨us, h1, h2⟩ := h
 have : vs = us := by
  unfold RT.val at h2; rw [if_pos hg] at h2
  injection h2 with h2
  simpa using congrArg Array.toList h2
 subst this; exact A.one h1
theorem AllR.free {α : Type} {A : RT α} (hA : ∀ M w M' w' x vs, A.R M w x vs → A.R M' w' x vs) {M M' : PSet} {w w' : World} : ∀ {xs : List α} {C : List Value}, AllR A M w xs C → AllR A M' w' xs C
 |[], _, h => h
 |x :: xs, C, h => by
  obtain ⟨vs, r, h1, h2, h3⟩ := h
  exact ⟨vs, r, h1, hA _ _ _ _ _ _ h2, AllR.free hA h3⟩
theorem Own.tell {α : Type} {A : RT α} {hn : 0 < A.n} (hA : ∀ M w M' w' x vs, A.R M w x vs → A.R M' w' x vs) {e : TypeId} {M M0 : PSet} {w : World} {base : Nat} {v : Value} {xs : List α} (h : Own A e M w base v xs) (hb : ∀ b, v.ownBlock = some b → ¬ M0 b) (hlen : xs.length ≤ 140737488355328) : (A.sl hn).V M0 w xs v := by
 obtain ⟨⟨C, hr, ha⟩, hm⟩ := h
 have h' : Own A e (fun b => v.ownBlock = some b ∨ M0 b) w base v xs := ⟨⟨C, hr, AllR.free hA ha⟩, fun b hb => .inl hb⟩
 exact h'.sl (fun b _ hn => ⟨fun h => hn (.inr h), rfl⟩) hb hlen
end Go.K
namespace Go.K
set_option linter.unusedVariables false
set_option linter.unusedSimpArgs false
open Go.Maps (Keyed)
section
variable {P : Program} {r : Option Nat} {n : Nat} {L : Sl} {ds : List Deferred} {w : World} {K : Kt} {ops : Array Oper} {rest : List Oper} {d : Nat} {x y z : Operand} {ty : TypeId} {pos : String} {af : Array Edge}
variable {kt : TypeId} {M : PSet} {b clock : Nat} {es : List MapEntry}
theorem MapW.setVal (h : MapW P kt w b es clock) {i s : Nat} {key v0 val : Value} (hi : es[i]? = some ⟨key, v0, s⟩) {w' : World} (hw : w'.heap[b]? = some (.map (es.set i ⟨key, val, s⟩).toArray clock)) :
  MapW P kt w' b (es.set i ⟨key, val, s⟩) clock ∧ (es.set i ⟨key, val, s⟩).map (·.key) = es.map (·.key) ∧ ∀ zv key' v', ValAt zv (es.set i ⟨key, val, s⟩) key' v' ↔ (key' = key ∧ v' = val) ∨ (key' ≠ key ∧ ValAt zv es key' v') := by
 have hil := (List.getElem?_eq_some_iff.1 hi).1
 have hin : (⟨key, v0, s⟩ : MapEntry) ∈ es := List.mem_of_getElem? hi
 obtain ⟨es', hes'⟩ : ∃ es', es' = es.set i ⟨key, val, s⟩ := ⟨_, rfl⟩
 rw [← hes'] at hw ⊢
 have hget : ∀ j e', es'[j]? = some e' → (j = i ∧ e' = ⟨key, val, s⟩) ∨ (j ≠ i ∧ es[j]? = some e') := fun j e' hj => by
  rw [hes', List.getElem?_set] at hj
  split at hj
  ·rename_i hij
   left; exact ⟨hij.symm, by simpa [hil] using hj.symm⟩
  ·rename_i hij
   exact .inr ⟨fun e => hij e.symm, hj⟩
 have hkeys : es'.map (·.key) = es.map (·.key) := by
  rw [hes', List.map_set]
  apply List.ext_getElem?
  intro j
  rw [List.getElem?_set]
  split
  ·rename_i hij
   subst hij
   have e := (List.getElem?_eq_some_iff.1 hi).2
   simp [hil, e]
  ·rfl
 have hborn : es'.map (·.born) = es.map (·.born) := by
  rw [hes', List.map_set]
  apply List.ext_getElem?
  intro j
  rw [List.getElem?_set]
  split
  ·rename_i hij
   subst hij
   have e := (List.getElem?_eq_some_iff.1 hi).2
   simp [hil, e]
  ·rfl
 have hmem : ∀ e' ∈ es', (e' = ⟨key, val, s⟩) ∨ (e' ∈ es ∧ e'.key ≠ key) := fun e' he' => by
  obtain ⟨j, hj⟩ := List.mem_iff_getElem?.1 he'
  rcases hget j e' hj with ⟨_, e⟩ | ⟨hne, hj2⟩
  ·exact .inl e
  ·refine .inr ⟨List.mem_of_getElem? hj2, fun e => hne ?_⟩
   rcases Nat.lt_trichotomy j i with h1 | h1 | h1
   ·exact absurd e (pair_idx h.keys hj2 hi h1)
   ·exact h1
   ·exact absurd e.symm (pair_idx h.keys hi hj2 h1)
 have hnew : (⟨key, val, s⟩ : MapEntry) ∈ es' := List.mem_of_getElem? (i := i) (by rw [hes', List.getElem?_set]; simp [hil])
 have hold : ∀ e' ∈ es, e'.key ≠ key → e' ∈ es' := fun e' he' hne => by
  obtain ⟨j, hj⟩ := List.mem_iff_getElem?.1 he'
  refine List.mem_of_getElem? (i := j) ?_
  rw [hes', List.getElem?_set, if_neg]
  ·exact hj
  ·rintro rfl
   rw [hi] at hj; cases hj; exact hne rfl
 refine ⟨⟨hw, ?_, fun e' he' => ?_, ?_, fun e' he' => ?_⟩, hkeys, fun zv key' v' => ?_⟩
 ·have := List.pairwise_map.2 h.born
  rw [← hborn] at this; exact List.pairwise_map.1 this
 ·rcases hmem e' he' with e | ⟨h1, _⟩
  ·rw [e]; exact (h.lt _ hin : s < clock)
  ·exact h.lt _ h1
 ·have := List.pairwise_map.2 h.keys
  rw [← hkeys] at this; exact List.pairwise_map.1 this
 ·rcases hmem e' he' with e | ⟨h1, _⟩
  ·rw [e]; exact (h.ok _ hin : ∃ l, keyOf P kt key = some l)
  ·exact h.ok _ h1
 ·constructor
  ·rintro (⟨e', he', hk, hv⟩ | ⟨h1, h2⟩)
   ·rcases hmem e' he' with e | ⟨h3, h4⟩
    ·subst e; exact .inl ⟨hk.symm, hv⟩
    ·exact .inr ⟨by rw [← hk]; exact h4, .inl ⟨e', h3, hk, hv⟩⟩
   ·have hne : key' ≠ key := fun e => h1 _ hnew e.symm
    exact .inr ⟨hne, .inr ⟨fun e' he' => fun e => by
     by_cases h5 : e'.key = key
     ·exact hne (e.symm.trans h5)
     ·exact h1 e' (hold e' he' h5) e, h2⟩⟩
  ·rintro (⟨rfl, rfl⟩ | ⟨hne, ⟨e', he', hk, hv⟩ | ⟨h1, h2⟩⟩)
   ·exact .inl ⟨_, hnew, rfl, rfl⟩
   ·exact .inl ⟨e', hold e' he' (by rw [hk]; exact hne), hk, hv⟩
   ·exact .inr ⟨fun e' he' => by
     rcases hmem e' he' with e | ⟨h3, _⟩
     ·rw [e]; exact fun e => hne e.symm
     ·exact h1 e' h3, h2⟩
theorem ValAt.put {key val : Value} {s : Nat} (hn : ∀ e ∈ es, e.key ≠ key) (zv key' v' : Value) : ValAt zv (es ++ [⟨key, val, s⟩]) key' v' ↔ (key' = key ∧ v' = val) ∨ (key' ≠ key ∧ ValAt zv es key' v') := by
 constructor
 ·rintro (⟨e, he, hk, hv⟩ | ⟨h1, h2⟩)
  ·rcases List.mem_append.1 he with he | he
   ·exact .inr ⟨by rw [← hk]; exact hn e he, .inl ⟨e, he, hk, hv⟩⟩
   ·obtain rfl := List.mem_singleton.1 he
    exact .inl ⟨hk.symm, hv⟩
  ·exact .inr ⟨fun e => h1 ⟨key, val, s⟩ (by simp) e.symm, .inr ⟨fun e he => h1 e (List.mem_append_left _ he), h2⟩⟩
 ·rintro (⟨rfl, rfl⟩ | ⟨hne, ⟨e, he, hk, hv⟩ | ⟨h1, h2⟩⟩)
  ·exact .inl ⟨⟨_, _, s⟩, by simp, rfl, rfl⟩
  ·exact .inl ⟨e, List.mem_append_left _ he, hk, hv⟩
  ·refine .inr ⟨fun e he => ?_, h2⟩
   rcases List.mem_append.1 he with he | he
   ·exact h1 e he
   ·obtain rfl := List.mem_singleton.1 he
    exact fun e => hne e.symm
theorem Rg.updateW {t e : TypeId} {key val : Value} {kl : Lit} (ht : P.underlying t = some (.map kt e)) (Kk : Keyed P kt) (hx : ev L x = some (.map (some b))) (hy : ev L y = some key) (hz : ev L z = some val) (hkey : keyOf P kt key = some kl) (h : MapW P kt w b es clock) (hm : M b)
  (k : ∀ w' es' clock', MapW P kt w' b es' clock' → ((es'.map (·.key) = es.map (·.key) ∧ ∃ e ∈ es, e.key = key) ∨ (es'.map (·.key) = es.map (·.key) ++ [key] ∧ ∀ e ∈ es, e.key ≠ key)) → (∀ zv key' v', ValAt zv es' key' v' ↔ (key' = key ∧ v' = val) ∨ (key' ≠ key ∧ ValAt zv es key' v')) → Step M w M w' (fun k => k = b) → Rg P r n ops rest L ds w' K) :
  Rg P r n ops ({ dst := none, op := .mapUpdate t x y z, type := ty, pos, after := af, guard := none } :: rest) L ds w K := by
 have hlt := lt_of_get h.at_
 rcases Kk.find w hkey es h.ok with ⟨h1, h2⟩ | ⟨j, e0, h1, h2, h3⟩
 ·have hw : ({ w with heap := w.heap.setIfInBounds b (.map (es.toArray.push ⟨key, val, clock⟩) (clock + 1)) } : World).heap[b]? = some (.map (es ++ ([⟨key, val, clock⟩] : List MapEntry)).toArray (clock + 1)) := by
   simp [Array.getElem?_setIfInBounds, hlt]
  refine .opu (fun _ h => by cases h) rfl rfl _ (fun ρ hρ => ?_) (k _ _ _ (h.push hkey h2 hw) (Or.inr ⟨by simp, h2⟩) (ValAt.put h2) (step_setObj M hm))
  simp only [execOp, hρ x _ hx, hρ y _ hy, hρ z _ hz, Instr.mapUpdate, Sem.run_bind, run_underlying ht, Result.andThen_ok, run_getObj_map' h.at_, Kk.check w false hkey, h1, run_setObj_map h.at_]
  simp
 ·have he : e0 ∈ es := List.mem_of_getElem? h2
  obtain ⟨k0, v0, s0⟩ := e0
  simp only at h3
  subst h3
  have hj : es.toArray[j]? = some ⟨k0, v0, s0⟩ := by simpa using h2
  have hmod : es.toArray.modify j (fun e => { e with key := k0, val := val }) = (es.set j ⟨k0, val, s0⟩).toArray := by
   apply Array.ext_getElem?
   intro i
   rw [Array.getElem?_modify]
   simp only [List.getElem?_toArray, List.getElem?_set]
   split
   ·rename_i hji
    subst hji
    have := (List.getElem?_eq_some_iff.1 h2).1
    rw [h2]; simp [this]
   ·rfl
  have hw : ({ w with heap := w.heap.setIfInBounds b (.map (es.set j ⟨k0, val, s0⟩).toArray clock) } : World).heap[b]? = some (.map (es.set j ⟨k0, val, s0⟩).toArray clock) := by simp [Array.getElem?_setIfInBounds, hlt]
  obtain ⟨hW, hk1, hv1⟩ := h.setVal h2 hw
  have hst : (Instr.keyThatStays ((Option.map (fun (e : MapEntry) => e.key) es.toArray[j]?).getD k0) k0).run P w = .ok k0 w := by
   rw [hj]; simp only [Option.map_some, Option.getD_some]; exact Kk.stays w hkey
  refine .opu (fun _ h => by cases h) rfl rfl _ (fun ρ hρ => ?_) (k _ _ clock hW (Or.inl ⟨hk1, _, he, rfl⟩) hv1 (step_setObj M hm))
  simp only [execOp, hρ x _ hx, hρ y _ hy, hρ z _ hz, Instr.mapUpdate, Sem.run_bind, run_underlying ht, Result.andThen_ok, run_getObj_map' h.at_, Kk.check w false hkey, h1, hst, hmod, run_setObj_map h.at_]
  simp
theorem run_lookupW {t e : TypeId} {zv key : Value} {size bytes : Nat} {kl : Lit} (ht : P.underlying t = some (.map kt e)) (Kk : Keyed P kt) (hi : TI P e zv size bytes) (hkey : keyOf P kt key = some kl) (h : MapW P kt w b es clock) :
  ∃ v, ValAt zv es key v ∧ ∀ (w : World) (ρ : Operand → Value) (dst : Option Tmp) (gd : Option (Nat × Bool)), ρ x = .map (some b) → ρ y = key → MapW P kt w b es clock → (execOp ρ { dst, op := .lookup t x y false, type := ty, pos, after := af, guard := gd }).run P w = .ok (.value v) w := by
 rcases Kk.find w hkey es h.ok with ⟨h1, h2⟩ | ⟨j, e0, h1, h2, h3⟩
 ·refine ⟨zv, Or.inr ⟨h2, rfl⟩, fun w ρ dst gd hx hy h => ?_⟩
  obtain ⟨inf, i1, i2, _, _⟩ := hi.get
  have hz : (zeroValue e).run P w = .ok zv w := by simp [zeroValue, typeInfo, i1, i2]
  rcases Kk.find w hkey es h.ok with ⟨h1, _⟩ | ⟨j, e0, _, g2, g3⟩
  ·simp only [execOp, hx, hy, Instr.lookup, Sem.run_bind, run_underlying ht, Result.andThen_ok, run_getObj_map' h.at_, Sem.run_pure, Kk.check w _ hkey, h1, hz]
   simp
  ·exact absurd g3 (h2 e0 (List.mem_of_getElem? g2))
 ·refine ⟨e0.val, Or.inl ⟨e0, List.mem_of_getElem? h2, h3, rfl⟩, fun w ρ dst gd hx hy h => ?_⟩
  rcases Kk.find w hkey es h.ok with ⟨_, g2⟩ | ⟨j', e1, g1, g2, g3⟩
  ·exact absurd h3 (g2 e0 (List.mem_of_getElem? h2))
  ·have : e1 = e0 := h.key_one (List.mem_of_getElem? g2) (List.mem_of_getElem? h2) (g3.trans h3.symm)
   subst this
   simp only [execOp, hx, hy, Instr.lookup, Sem.run_bind, run_underlying ht, Result.andThen_ok, run_getObj_map' h.at_, Sem.run_pure, Kk.check w _ hkey, g1]
   simp
theorem FloatOk.lookupW {N : PSet} {t e : TypeId} {zv key : Value} {size bytes : Nat} {kl : Lit} {dst : Option Tmp} {gd : Option (Nat × Bool)} (ht : P.underlying t = some (.map kt e)) (Kk : Keyed P kt) (hi : TI P e zv size bytes) (hx : ev L x = some (.map (some b))) (hy : ev L y = some key) (hkey : keyOf P kt key = some kl) (h : MapW P kt w b es clock) (hn : ¬ N b) :
  FloatOk P N w L { dst, op := .lookup t x y false, type := ty, pos, after := af, guard := gd } := fun ρ hρ v w' hk hr => by
 obtain ⟨v0, _, hrun⟩ := run_lookupW (x := x) (y := y) (ty := ty) (pos := pos) (af := af) ht Kk hi hkey h
 have h' : MapW P kt w' b es clock := ⟨(hk.2 b (lt_of_get h.at_) hn).trans h.at_, h.born, h.lt, h.keys, h.ok⟩
 rw [hrun w ρ dst gd (hρ x _ hx) (hρ y _ hy) h] at hr
 rw [hrun w' ρ dst gd (hρ x _ hx) (hρ y _ hy) h']
 injection hr with h1 h2
 rw [h1]
end
end Go.K
namespace Go.Proofs
open Go.Shelf
def Tryz.keysI_ren : Go.Shelf.Ren := ⟨fun | 7 => 62 | 10 => 114 | n => n, fun | 23 => 100 | 26 => 3 | 3 => 109 | 28 => 116 | 0 => 0 | 27 => 115 | 33 => 158 | 4 => 4 | n => n, fun | n => n⟩
theorem Tryz.keysI : Go.Proofs.SlLaysZI.n7 Tryz.prog Tryz.keysI_ren := {
 mixed := by kernel_rfl
 f7 := ⟨Tryz.f62.name, by decide, Tryz.func62.trans (congrArg some (by kernel_rfl))⟩
 f10 := ⟨Tryz.f114.name, by decide, Tryz.func114.trans (congrArg some (by kernel_rfl))⟩
 t0 := Tryz.underlying0
 a0 := Tryz.isAgg0
 z0 := Tryz.sizeOf0
 v0 := Tryz.zeroValue0
 t4 := Tryz.underlying4
 a4 := Tryz.isAgg4
 z4 := Tryz.sizeOf4
 v4 := Tryz.zeroValue4
 t23 := Tryz.underlying100
 a23 := Tryz.isAgg100
 z23 := Tryz.sizeOf100
 v23 := Tryz.zeroValue100
 t26 := Tryz.underlying3
 a26 := Tryz.isAgg3
 z26 := Tryz.sizeOf3
 v26 := Tryz.zeroValue3
 t27 := Tryz.underlying115
 a27 := Tryz.isAgg115
 z27 := Tryz.sizeOf115
 v27 := Tryz.zeroValue115
 t28 := Tryz.underlying116
 a28 := Tryz.isAgg116
 z28 := Tryz.sizeOf116
 v28 := Tryz.zeroValue116
 t33 := Tryz.underlying158
 a33 := Tryz.isAgg158
 z33 := Tryz.sizeOf158
 v33 := Tryz.zeroValue158 }
def Tryz.sortedI_ren : Go.Shelf.Ren := ⟨fun | 6 => 61 | 8 => 71 | 9 => 113 | 11 => 121 | 13 => 166 | 12 => 165 | 23 => 210 | 24 => 211 | 14 => 202 | 15 => 203 | 16 => 204 | 17 => 205 | 18 => 206 | 19 => 207 | 20 => 118 | 21 => 208 | 22 => 209 | 25 => 245 | 26 => 246 | 27 => 247 | 28 => 248 | 29 => 249 | 30 => 168 | 31 => 273 | n => n, fun | 26 => 3 | 28 => 116 | 24 => 32 | 0 => 0 | 3 => 3 | 37 => 183 | 48 => 273 | 50 => 165 | 4 => 4 | 40 => 267 | 39 => 266 | 45 => 121 | 5 => 5 | 9 => 9 | 51 => 295 | 55 => 299 | 57 => 327 | 58 => 305 | 33 => 158 | n => n, fun | n => n⟩
theorem Tryz.sortedI : Go.Proofs.SlLaysZI.n6 Tryz.prog Tryz.sortedI_ren := {
 mixed := by kernel_rfl
 f6 := ⟨Tryz.f61.name, by decide, Tryz.func61.trans (congrArg some (by kernel_rfl))⟩
 f8 := ⟨Tryz.f71.name, by decide, Tryz.func71.trans (congrArg some (by kernel_rfl))⟩
 f11 := ⟨Tryz.f121.name, by decide, Tryz.func121.trans (congrArg some (by kernel_rfl))⟩
 t0 := Tryz.underlying0
 a0 := Tryz.isAgg0
 z0 := Tryz.sizeOf0
 v0 := Tryz.zeroValue0
 t24 := Tryz.underlying32
 a24 := Tryz.isAgg32
 z24 := Tryz.sizeOf32
 v24 := Tryz.zeroValue32
 t26 := Tryz.underlying3
 a26 := Tryz.isAgg3
 z26 := Tryz.sizeOf3
 v26 := Tryz.zeroValue3
 t28 := Tryz.underlying116
 a28 := Tryz.isAgg116
 z28 := Tryz.sizeOf116
 v28 := Tryz.zeroValue116
 i26 := by kernel_rfl }
def Tryz.sortI_ren : Go.Shelf.Ren := ⟨fun | 5 => 113 | 8 => 166 | 7 => 165 | 19 => 210 | 20 => 211 | 10 => 202 | 11 => 203 | 12 => 204 | 13 => 205 | 14 => 206 | 15 => 207 | 16 => 118 | 17 => 208 | 18 => 209 | 30 => 245 | 31 => 246 | 32 => 247 | 33 => 248 | 34 => 249 | 35 => 168 | 40 => 273 | n => n, fun | 23 => 32 | 25 => 3 | 3 => 3 | 32 => 183 | 22 => 32 | 0 => 0 | 44 => 273 | 46 => 165 | 4 => 4 | 36 => 267 | 35 => 266 | 41 => 121 | 5 => 5 | 9 => 9 | 53 => 295 | 57 => 299 | 63 => 327 | 64 => 305 | n => n, fun | n => n⟩
theorem Tryz.sortI : Go.Proofs.SlLaysM.n5 Tryz.prog Tryz.sortI_ren := {
 mixed := by kernel_rfl
 f5 := ⟨Tryz.f113.name, by decide, Tryz.func113.trans (congrArg some (by kernel_rfl))⟩
 f7 := ⟨Tryz.f165.name, by decide, Tryz.func165.trans (congrArg some (by kernel_rfl))⟩
 f8 := Tryz.func166.trans (congrArg some (by kernel_rfl))
 f10 := ⟨Tryz.f202.name, by decide, Tryz.func202.trans (congrArg some (by kernel_rfl))⟩
 f11 := ⟨Tryz.f203.name, by decide, Tryz.func203.trans (congrArg some (by kernel_rfl))⟩
 f12 := ⟨Tryz.f204.name, by decide, Tryz.func204.trans (congrArg some (by kernel_rfl))⟩
 f13 := ⟨Tryz.f205.name, by decide, Tryz.func205.trans (congrArg some (by kernel_rfl))⟩
 f14 := ⟨Tryz.f206.name, by decide, Tryz.func206.trans (congrArg some (by kernel_rfl))⟩
 f15 := ⟨Tryz.f207.name, by decide, Tryz.func207.trans (congrArg some (by kernel_rfl))⟩
 f16 := ⟨Tryz.f118.name, by decide, Tryz.func118.trans (congrArg some (by kernel_rfl))⟩
 f17 := ⟨Tryz.f208.name, by decide, Tryz.func208.trans (congrArg some (by kernel_rfl))⟩
 f18 := ⟨Tryz.f209.name, by decide, Tryz.func209.trans (congrArg some (by kernel_rfl))⟩
 f19 := Tryz.func210.trans (congrArg some (by kernel_rfl))
 f20 := Tryz.func211.trans (congrArg some (by kernel_rfl))
 f30 := ⟨Tryz.f245.name, by decide, Tryz.func245.trans (congrArg some (by kernel_rfl))⟩
 f31 := Tryz.func246.trans (congrArg some (by kernel_rfl))
 f32 := Tryz.func247.trans (congrArg some (by kernel_rfl))
 f33 := ⟨Tryz.f248.name, by decide, Tryz.func248.trans (congrArg some (by kernel_rfl))⟩
 f34 := ⟨Tryz.f249.name, by decide, Tryz.func249.trans (congrArg some (by kernel_rfl))⟩
 f35 := ⟨Tryz.f168.name, by decide, Tryz.func168.trans (congrArg some (by kernel_rfl))⟩
 f40 := ⟨Tryz.f273.name, by decide, Tryz.func273.trans (congrArg some (by kernel_rfl))⟩
 t0 := Tryz.underlying0
 a0 := Tryz.isAgg0
 z0 := Tryz.sizeOf0
 v0 := Tryz.zeroValue0
 t3 := Tryz.underlying3
 a3 := Tryz.isAgg3
 z3 := Tryz.sizeOf3
 v3 := Tryz.zeroValue3
 t4 := Tryz.underlying4
 a4 := Tryz.isAgg4
 z4 := Tryz.sizeOf4
 v4 := Tryz.zeroValue4
 t5 := Tryz.underlying5
 a5 := Tryz.isAgg5
 z5 := Tryz.sizeOf5
 v5 := Tryz.zeroValue5
 t9 := Tryz.underlying9
 a9 := Tryz.isAgg9
 z9 := Tryz.sizeOf9
 v9 := Tryz.zeroValue9
 t22 := Tryz.underlying32
 a22 := Tryz.isAgg32
 z22 := Tryz.sizeOf32
 v22 := Tryz.zeroValue32
 t23 := Tryz.underlying32
 a23 := Tryz.isAgg32
 z23 := Tryz.sizeOf32
 v23 := Tryz.zeroValue32
 t25 := Tryz.underlying3
 a25 := Tryz.isAgg3
 z25 := Tryz.sizeOf3
 v25 := Tryz.zeroValue3
 t32 := Tryz.underlying183
 a32 := Tryz.isAgg183
 z32 := Tryz.sizeOf183
 v32 := Tryz.zeroValue183
 t35 := Tryz.underlying266
 a35 := Tryz.isAgg266
 z35 := Tryz.sizeOf266
 v35 := Tryz.zeroValue266
 t36 := Tryz.underlying267
 a36 := Tryz.isAgg267
 z36 := Tryz.sizeOf267
 v36 := Tryz.zeroValue267
 t41 := Tryz.underlying121
 a41 := Tryz.isAgg121
 z41 := Tryz.sizeOf121
 v41 := Tryz.zeroValue121
 t44 := Tryz.underlying273
 a44 := Tryz.isAgg273
 z44 := Tryz.sizeOf273
 v44 := Tryz.zeroValue273
 t46 := Tryz.underlying165
 a46 := Tryz.isAgg165
 z46 := Tryz.sizeOf165
 v46 := Tryz.zeroValue165
 t53 := Tryz.underlying295
 a53 := Tryz.isAgg295
 z53 := Tryz.sizeOf295
 v53 := Tryz.zeroValue295
 t57 := Tryz.underlying299
 a57 := Tryz.isAgg299
 z57 := Tryz.sizeOf299
 v57 := Tryz.zeroValue299
 t63 := Tryz.underlying327
 a63 := Tryz.isAgg327
 z63 := Tryz.sizeOf327
 v63 := Tryz.zeroValue327
 t64 := Tryz.underlying305
 a64 := Tryz.isAgg305
 z64 := Tryz.sizeOf305
 v64 := Tryz.zeroValue305 }
def Tryz.keysS_ren : Go.Shelf.Ren := ⟨fun | 7 => 112 | 10 => 164 | n => n, fun | 23 => 167 | 26 => 9 | 3 => 107 | 28 => 178 | 0 => 0 | 27 => 177 | 33 => 182 | 4 => 4 | n => n, fun | n => n⟩
theorem Tryz.keysS : Go.Proofs.SlLaysZ.n7 Tryz.prog Tryz.keysS_ren := {
 mixed := by kernel_rfl
 f7 := ⟨Tryz.f112.name, by decide, Tryz.func112.trans (congrArg some (by kernel_rfl))⟩
 f10 := ⟨Tryz.f164.name, by decide, Tryz.func164.trans (congrArg some (by kernel_rfl))⟩
 t0 := Tryz.underlying0
 a0 := Tryz.isAgg0
 z0 := Tryz.sizeOf0
 v0 := Tryz.zeroValue0
 t4 := Tryz.underlying4
 a4 := Tryz.isAgg4
 z4 := Tryz.sizeOf4
 v4 := Tryz.zeroValue4
 t23 := Tryz.underlying167
 a23 := Tryz.isAgg167
 z23 := Tryz.sizeOf167
 v23 := Tryz.zeroValue167
 t26 := Tryz.underlying9
 a26 := Tryz.isAgg9
 z26 := Tryz.sizeOf9
 v26 := Tryz.zeroValue9
 t27 := Tryz.underlying177
 a27 := Tryz.isAgg177
 z27 := Tryz.sizeOf177
 v27 := Tryz.zeroValue177
 t28 := Tryz.underlying178
 a28 := Tryz.isAgg178
 z28 := Tryz.sizeOf178
 v28 := Tryz.zeroValue178
 t33 := Tryz.underlying182
 a33 := Tryz.isAgg182
 z33 := Tryz.sizeOf182
 v33 := Tryz.zeroValue182 }
def Tryz.sortedS_ren : Go.Shelf.Ren := ⟨fun | 6 => 111 | 8 => 162 | 9 => 163 | 11 => 200 | 13 => 166 | 12 => 201 | 23 => 210 | 24 => 211 | 14 => 236 | 15 => 237 | 16 => 238 | 17 => 239 | 18 => 240 | 19 => 241 | 20 => 242 | 21 => 243 | 22 => 244 | 25 => 269 | 26 => 246 | 27 => 247 | 28 => 270 | 29 => 271 | 30 => 272 | 31 => 284 | n => n, fun | 26 => 9 | 28 => 178 | 24 => 55 | 0 => 0 | 3 => 3 | 37 => 183 | 48 => 273 | 50 => 165 | 4 => 4 | 40 => 267 | 39 => 266 | 45 => 121 | 5 => 5 | 9 => 9 | 51 => 295 | 55 => 299 | 57 => 327 | 58 => 305 | 33 => 182 | n => n, fun | n => n⟩
theorem Tryz.sortedS : Go.Proofs.SlLaysZ.n6 Tryz.prog Tryz.sortedS_ren := {
 mixed := by kernel_rfl
 f6 := ⟨Tryz.f111.name, by decide, Tryz.func111.trans (congrArg some (by kernel_rfl))⟩
 f8 := ⟨Tryz.f162.name, by decide, Tryz.func162.trans (congrArg some (by kernel_rfl))⟩
 f11 := ⟨Tryz.f200.name, by decide, Tryz.func200.trans (congrArg some (by kernel_rfl))⟩
 t0 := Tryz.underlying0
 a0 := Tryz.isAgg0
 z0 := Tryz.sizeOf0
 v0 := Tryz.zeroValue0
 t24 := Tryz.underlying55
 a24 := Tryz.isAgg55
 z24 := Tryz.sizeOf55
 v24 := Tryz.zeroValue55
 t26 := Tryz.underlying9
 a26 := Tryz.isAgg9
 z26 := Tryz.sizeOf9
 v26 := Tryz.zeroValue9
 t28 := Tryz.underlying178
 a28 := Tryz.isAgg178
 z28 := Tryz.sizeOf178
 v28 := Tryz.zeroValue178
 i26 := by kernel_rfl }
def Tryz.sortS_ren : Go.Shelf.Ren := ⟨fun | 6 => 163 | 8 => 166 | 9 => 201 | 19 => 210 | 20 => 211 | 21 => 236 | 22 => 237 | 23 => 238 | 24 => 239 | 25 => 240 | 26 => 241 | 27 => 242 | 28 => 243 | 29 => 244 | 36 => 269 | 31 => 246 | 32 => 247 | 37 => 270 | 38 => 271 | 39 => 272 | 41 => 284 | n => n, fun | 27 => 55 | 29 => 9 | 3 => 3 | 32 => 183 | 26 => 55 | 0 => 0 | 44 => 273 | 46 => 165 | 4 => 4 | 36 => 267 | 35 => 266 | 41 => 121 | 5 => 5 | 9 => 9 | 53 => 295 | 57 => 299 | 63 => 327 | 64 => 305 | n => n, fun | n => n⟩
theorem Tryz.sortS : Go.Proofs.SlLaysM.n6 Tryz.prog Tryz.sortS_ren := {
 mixed := by kernel_rfl
 f6 := ⟨Tryz.f163.name, by decide, Tryz.func163.trans (congrArg some (by kernel_rfl))⟩
 f8 := Tryz.func166.trans (congrArg some (by kernel_rfl))
 f9 := ⟨Tryz.f201.name, by decide, Tryz.func201.trans (congrArg some (by kernel_rfl))⟩
 f19 := Tryz.func210.trans (congrArg some (by kernel_rfl))
 f20 := Tryz.func211.trans (congrArg some (by kernel_rfl))
 f21 := ⟨Tryz.f236.name, by decide, Tryz.func236.trans (congrArg some (by kernel_rfl))⟩
 f22 := ⟨Tryz.f237.name, by decide, Tryz.func237.trans (congrArg some (by kernel_rfl))⟩
 f23 := ⟨Tryz.f238.name, by decide, Tryz.func238.trans (congrArg some (by kernel_rfl))⟩
 f24 := ⟨Tryz.f239.name, by decide, Tryz.func239.trans (congrArg some (by kernel_rfl))⟩
 f25 := ⟨Tryz.f240.name, by decide, Tryz.func240.trans (congrArg some (by kernel_rfl))⟩
 f26 := ⟨Tryz.f241.name, by decide, Tryz.func241.trans (congrArg some (by kernel_rfl))⟩
 f27 := ⟨Tryz.f242.name, by decide, Tryz.func242.trans (congrArg some (by kernel_rfl))⟩
 f28 := ⟨Tryz.f243.name, by decide, Tryz.func243.trans (congrArg some (by kernel_rfl))⟩
 f29 := ⟨Tryz.f244.name, by decide, Tryz.func244.trans (congrArg some (by kernel_rfl))⟩
 f31 := Tryz.func246.trans (congrArg some (by kernel_rfl))
 f32 := Tryz.func247.trans (congrArg some (by kernel_rfl))
 f36 := ⟨Tryz.f269.name, by decide, Tryz.func269.trans (congrArg some (by kernel_rfl))⟩
 f37 := ⟨Tryz.f270.name, by decide, Tryz.func270.trans (congrArg some (by kernel_rfl))⟩
 f38 := ⟨Tryz.f271.name, by decide, Tryz.func271.trans (congrArg some (by kernel_rfl))⟩
 f39 := ⟨Tryz.f272.name, by decide, Tryz.func272.trans (congrArg some (by kernel_rfl))⟩
 f41 := ⟨Tryz.f284.name, by decide, Tryz.func284.trans (congrArg some (by kernel_rfl))⟩
 t0 := Tryz.underlying0
 a0 := Tryz.isAgg0
 z0 := Tryz.sizeOf0
 v0 := Tryz.zeroValue0
 t3 := Tryz.underlying3
 a3 := Tryz.isAgg3
 z3 := Tryz.sizeOf3
 v3 := Tryz.zeroValue3
 t4 := Tryz.underlying4
 a4 := Tryz.isAgg4
 z4 := Tryz.sizeOf4
 v4 := Tryz.zeroValue4
 t5 := Tryz.underlying5
 a5 := Tryz.isAgg5
 z5 := Tryz.sizeOf5
 v5 := Tryz.zeroValue5
 t9 := Tryz.underlying9
 a9 := Tryz.isAgg9
 z9 := Tryz.sizeOf9
 v9 := Tryz.zeroValue9
 t26 := Tryz.underlying55
 a26 := Tryz.isAgg55
 z26 := Tryz.sizeOf55
 v26 := Tryz.zeroValue55
 t27 := Tryz.underlying55
 a27 := Tryz.isAgg55
 z27 := Tryz.sizeOf55
 v27 := Tryz.zeroValue55
 t29 := Tryz.underlying9
 a29 := Tryz.isAgg9
 z29 := Tryz.sizeOf9
 v29 := Tryz.zeroValue9
 t32 := Tryz.underlying183
 a32 := Tryz.isAgg183
 z32 := Tryz.sizeOf183
 v32 := Tryz.zeroValue183
 t35 := Tryz.underlying266
 a35 := Tryz.isAgg266
 z35 := Tryz.sizeOf266
 v35 := Tryz.zeroValue266
 t36 := Tryz.underlying267
 a36 := Tryz.isAgg267
 z36 := Tryz.sizeOf267
 v36 := Tryz.zeroValue267
 t41 := Tryz.underlying121
 a41 := Tryz.isAgg121
 z41 := Tryz.sizeOf121
 v41 := Tryz.zeroValue121
 t44 := Tryz.underlying273
 a44 := Tryz.isAgg273
 z44 := Tryz.sizeOf273
 v44 := Tryz.zeroValue273
 t46 := Tryz.underlying165
 a46 := Tryz.isAgg165
 z46 := Tryz.sizeOf165
 v46 := Tryz.zeroValue165
 t53 := Tryz.underlying295
 a53 := Tryz.isAgg295
 z53 := Tryz.sizeOf295
 v53 := Tryz.zeroValue295
 t57 := Tryz.underlying299
 a57 := Tryz.isAgg299
 z57 := Tryz.sizeOf299
 v57 := Tryz.zeroValue299
 t63 := Tryz.underlying327
 a63 := Tryz.isAgg327
 z63 := Tryz.sizeOf327
 v63 := Tryz.zeroValue327
 t64 := Tryz.underlying305
 a64 := Tryz.isAgg305
 z64 := Tryz.sizeOf305
 v64 := Tryz.zeroValue305 }
end Go.Proofs
namespace Go.K
open Go.Proofs
set_option linter.unusedVariables false
set_option linter.unusedSimpArgs false
set_option maxRecDepth 10000
open Go.RowKit Go.Maps Go.Sort Go.Shelf
theorem sortsI (m : Nat) : AnyZI.SortsIn Tryz.prog Tryz.sortedI_ren Fence.wide m :=
 ⟨fun blk off cap ss W hH hblk hsz => callsIn_wide.2 (AnyM.slices_Sort_int Tryz.sortI blk off cap ss W hH hblk hsz),
  fun p cap W => callsIn_wide.2 (AnyM.slices_Sort_int_none Tryz.sortI p cap W)⟩
theorem sortedI_spec {R : Value → Option (DU × List MemPlace)} {M : PSet} {w : World} {b bb : Nat} {m : List (Lit × DU)} (h : MapO Tryz.prog 3 R M w b m) (hbb : w.cell? ⟨bb, 0, none⟩ = some (.map (some b))) (hl : m.length ≤ 1099511627776) :
  Spec Tryz.prog 61 #[.func (.func 114) #[] #[.pointer (some ⟨bb, 0, none⟩)]] w (fun v w' => (∃ ss : List Int, ss.Perm (intKeys (DataW.map m)) ∧ w'.ownsRow w.heap.size 3 1 v ss.length ((ss.mergeSort (fun x y => decide (x ≤ y))).map encZ) ∧ (v = .slice none 0 0 ↔ ss = [])) ∧ Step M w M w' none') := by
 have hseq : SeqGives Fence.wide 2 Tryz.prog 114 #[.pointer (some ⟨bb, 0, none⟩)] encZ (fun ss => ss.Perm (intKeys (DataW.map m))) (Maps.size (DataW.map m)) w :=
  AnyZI.keys_gives (ρ := Tryz.keysI_ren) { Tryz.keysI with } Fence.wide _ trivial rfl (by omega) bb b m.length (DataW.map m) _ (World.block_lt_of_cell? w _ hbb) hbb h.own
 have hsz : Maps.size (DataW.map m) = m.length := rfl
 have cS := AnyZI.sorted_in Tryz.sortedI Fence.wide 5 trivial trivial trivial trivial rfl (by omega) (sortsI _) (enters_of Tryz.func113 (by kernel_rfl) rfl) 114 #[.pointer (some ⟨bb, 0, none⟩)] trivial (enters_of Tryz.func114 (by kernel_rfl) rfl) _ _ (by rw [hsz]; unfold maxLen; omega) (by rw [hsz]; omega) _ hseq
 exact (callsIn_wide (n := 5)).1 (cS.mono fun e w' ⟨v, ss, h1, h2, h3, h4, h5⟩ => ⟨v, h1, ⟨ss, h2, h3, h4⟩, .below' h5 M⟩)
theorem sortsS (m : Nat) : AnyZ.SortsIn Tryz.prog Tryz.sortedS_ren Fence.wide m :=
 ⟨fun blk off cap ss W hH hblk hsz => callsIn_wide.2 (AnyM.slices_Sort_string Tryz.sortS blk off cap ss W hH hblk hsz),
  fun p cap W => callsIn_wide.2 (AnyM.slices_Sort_string_none Tryz.sortS p cap W)⟩
theorem keysS_spec (mb : Option Nat) (w : World) : Spec Tryz.prog 112 #[.map mb] w (fun v w' => v = .func (.func 164) #[] #[.pointer (some ⟨w.heap.size, 0, none⟩)] ∧ w' = w.alloc (.cells #[.map mb] 167)) :=
 (callsIn_wide (n := 5)).1 ((AnyZ.keys_in Tryz.keysS Fence.wide 5 trivial rfl mb w).mono fun e w' ⟨h1, h2⟩ => ⟨_, h1, rfl, h2⟩)
theorem sortedS_spec {R : Value → Option (DU × List MemPlace)} {M : PSet} {w : World} {b bb : Nat} {m : List (Lit × DU)} (h : MapO Tryz.prog 9 R M w b m) (hbb : w.cell? ⟨bb, 0, none⟩ = some (.map (some b))) (hl : m.length ≤ 1099511627776) :
  Spec Tryz.prog 111 #[.func (.func 164) #[] #[.pointer (some ⟨bb, 0, none⟩)]] w (fun v w' => (∃ ss : List (List UInt8), ss.Perm (strKeys (DataW.map m)) ∧ w'.ownsRow w.heap.size 9 1 v ss.length ((ss.mergeSort (fun x y => decide (x ≤ y))).map encStr) ∧ (v = .slice none 0 0 ↔ ss = [])) ∧ Step M w M w' none') := by
 have hseq : SeqGives Fence.wide 2 Tryz.prog 164 #[.pointer (some ⟨bb, 0, none⟩)] encStr (fun ss => ss.Perm (strKeys (DataW.map m))) (Maps.size (DataW.map m)) w :=
  AnyZ.keys_gives (ρ := Tryz.keysS_ren) { Tryz.keysS with } Fence.wide _ trivial rfl (by omega) bb b m.length (DataW.map m) _ (World.block_lt_of_cell? w _ hbb) hbb h.own
 have hsz : Maps.size (DataW.map m) = m.length := rfl
 have cS := AnyZ.sorted_in Tryz.sortedS Fence.wide 5 trivial trivial trivial trivial rfl (by omega) (sortsS _) (enters_of Tryz.func163 (by kernel_rfl) rfl) 164 #[.pointer (some ⟨bb, 0, none⟩)] trivial (enters_of Tryz.func164 (by kernel_rfl) rfl) _ _ (by rw [hsz]; unfold maxLen; omega) (by rw [hsz]; omega) _ hseq
 exact (callsIn_wide (n := 5)).1 (cS.mono fun e w' ⟨v, ss, h1, h2, h3, h4, h5⟩ => ⟨v, h1, ⟨ss, h2, h3, h4⟩, .below' h5 M⟩)
theorem cell_of_alloc {w w' : World} {v : Value} {t : TypeId} (h : w' = w.alloc (.cells #[v] t)) : w'.cell? ⟨w.heap.size, 0, none⟩ = some v := by
 subst h; exact cell_at (heap_alloc_at w _) rfl
end Go.K
namespace Go.K
open Go.Proofs
namespace TKBldA
theorem E160 : Enters Tryz.prog 160 := enters Tryz.func160 rfl (by decide)
end TKBldA
open TKBldA
set_option linter.unusedVariables false
set_option linter.unusedSimpArgs false
set_option maxRecDepth 10000
theorem cloneFd {M : PSet} {w0 : World} {v : Value} {b : List Fd} (hM : Lt M w0) (hv : (RT.fd.sl).V M w0 b v) (hbl : b.length ≤ 1099511627776) :
  Spec Tryz.prog 199 #[v] w0 (fun v' w' => (RT.fd.sl).V M w' b v' ∧ Step M w0 M w' none') := by
 obtain ⟨a, cap, hva, hc, hl, hs⟩ := V_sl.1 hv
 refine spec_of (args := [_]) (fn := Tryz.f199) Tryz.func199 rfl (n := 8) Tryz.ntmps199 ?_
 refine T.seq ?_
 refine T.region ?_
 refine Rg.assign rfl rfl ?_
 refine Rg.nil ?_
 refine T.seq ?_
 refine T.seq ?_
 refine T.region ?_
 refine Rg.move rfl rfl ?_
 refine Rg.eqv (v' := .slice a b.length cap) hva ?_
 refine Rg.sleqnil Tryz.underlying39 rfl rfl rfl ?_
 refine Rg.nil ?_
 refine T.ifp rfl (fun c1 => ?_) (fun c1 => ?_)
 ·refine T.seq ?_
  refine T.region ?_
  refine Rg.assign rfl rfl ?_
  refine Rg.nil ?_
  refine T.ret ?_
  have hb : b = [] := by
   rcases hs with h | ⟨_, _, h, _⟩
   ·exact h
   ·rw [c1] at h; cases h
  exact Kret1 rfl rfl ⟨by rw [hb]; exact V_nil, Step.refl _ _⟩
 ·refine T.skip ?_
  refine T.seq ?_
  refine T.region ?_
  refine Rg.sl0 Tryz.underlying39 I127 M rfl (fun a0 w1 s1 => ?_)
  refine Rg.move rfl rfl ?_
  refine Rg.appendnew (A := RT.fd) (hn := by decide) (M := M) Tryz.underlying39 I127 rfl rfl rfl rfl hv s1.le (s1.lt hM) (by omega) (fun u2 w2 hu2 s2 => ?_)
  refine Rg.assign rfl rfl ?_
  refine Rg.nil ?_
  refine T.ret ?_
  exact Kret1 rfl rfl ⟨hu2, s1.trans0 s2⟩
theorem cloneInt {M : PSet} {w0 : World} {v : Value} {b : List Int} (hM : Lt M w0) (hv : ((RT.int .i64).sl).V M w0 b v) (hbl : b.length ≤ 1099511627776) :
  Spec Tryz.prog 63 #[v] w0 (fun v' w' => ((RT.int .i64).sl).V M w' b v' ∧ Step M w0 M w' none') := by
 obtain ⟨a, cap, hva, hc, hl, hs⟩ := V_sl.1 hv
 refine spec_of (args := [_]) (fn := Tryz.f63) Tryz.func63 rfl (n := 8) Tryz.ntmps63 ?_
 refine T.seq ?_
 refine T.region ?_
 refine Rg.assign rfl rfl ?_
 refine Rg.nil ?_
 refine T.seq ?_
 refine T.seq ?_
 refine T.region ?_
 refine Rg.move rfl rfl ?_
 refine Rg.eqv (v' := .slice a b.length cap) hva ?_
 refine Rg.sleqnil Tryz.underlying32 rfl rfl rfl ?_
 refine Rg.nil ?_
 refine T.ifp rfl (fun c1 => ?_) (fun c1 => ?_)
 ·refine T.seq ?_
  refine T.region ?_
  refine Rg.assign rfl rfl ?_
  refine Rg.nil ?_
  refine T.ret ?_
  have hb : b = [] := by
   rcases hs with h | ⟨_, _, h, _⟩
   ·exact h
   ·rw [c1] at h; cases h
  exact Kret1 rfl rfl ⟨by rw [hb]; exact V_nil, Step.refl _ _⟩
 ·refine T.skip ?_
  refine T.seq ?_
  refine T.region ?_
  refine Rg.sl0 Tryz.underlying32 I3 M rfl (fun a0 w1 s1 => ?_)
  refine Rg.move rfl rfl ?_
  refine Rg.appendnew (A := (RT.int .i64)) (hn := by decide) (M := M) Tryz.underlying32 I3 rfl rfl rfl rfl hv s1.le (s1.lt hM) (by omega) (fun u2 w2 hu2 s2 => ?_)
  refine Rg.assign rfl rfl ?_
  refine Rg.nil ?_
  refine T.ret ?_
  exact Kret1 rfl rfl ⟨hu2, s1.trans0 s2⟩
theorem cloneStr {M : PSet} {w0 : World} {v : Value} {b : List (List UInt8)} (hM : Lt M w0) (hv : (RT.str.sl).V M w0 b v) (hbl : b.length ≤ 1099511627776) :
  Spec Tryz.prog 177 #[v] w0 (fun v' w' => (RT.str.sl).V M w' b v' ∧ Step M w0 M w' none') := by
 obtain ⟨a, cap, hva, hc, hl, hs⟩ := V_sl.1 hv
 refine spec_of (args := [_]) (fn := Tryz.f177) Tryz.func177 rfl (n := 8) Tryz.ntmps177 ?_
 refine T.seq ?_
 refine T.region ?_
 refine Rg.assign rfl rfl ?_
 refine Rg.nil ?_
 refine T.seq ?_
 refine T.seq ?_
 refine T.region ?_
 refine Rg.move rfl rfl ?_
 refine Rg.eqv (v' := .slice a b.length cap) hva ?_
 refine Rg.sleqnil Tryz.underlying55 rfl rfl rfl ?_
 refine Rg.nil ?_
 refine T.ifp rfl (fun c1 => ?_) (fun c1 => ?_)
 ·refine T.seq ?_
  refine T.region ?_
  refine Rg.assign rfl rfl ?_
  refine Rg.nil ?_
  refine T.ret ?_
  have hb : b = [] := by
   rcases hs with h | ⟨_, _, h, _⟩
   ·exact h
   ·rw [c1] at h; cases h
  exact Kret1 rfl rfl ⟨by rw [hb]; exact V_nil, Step.refl _ _⟩
 ·refine T.skip ?_
  refine T.seq ?_
  refine T.region ?_
  refine Rg.sl0 Tryz.underlying55 I9 M rfl (fun a0 w1 s1 => ?_)
  refine Rg.move rfl rfl ?_
  refine Rg.appendnew (A := RT.str) (hn := by decide) (M := M) Tryz.underlying55 I9 rfl rfl rfl rfl hv s1.le (s1.lt hM) (by omega) (fun u2 w2 hu2 s2 => ?_)
  refine Rg.assign rfl rfl ?_
  refine Rg.nil ?_
  refine T.ret ?_
  exact Kret1 rfl rfl ⟨hu2, s1.trans0 s2⟩
theorem cloneLi {M : PSet} {w0 : World} {v : Value} {b : List Li} (hM : Lt M w0) (hv : (((RT.li).ptr).sl).V M w0 b v) (hbl : b.length ≤ 1099511627776) :
  Spec Tryz.prog 178 #[v] w0 (fun v' w' => (((RT.li).ptr).sl).V M w' b v' ∧ Step M w0 M w' none') := by
 obtain ⟨a, cap, hva, hc, hl, hs⟩ := V_sl.1 hv
 refine spec_of (args := [_]) (fn := Tryz.f178) Tryz.func178 rfl (n := 8) Tryz.ntmps178 ?_
 refine T.seq ?_
 refine T.region ?_
 refine Rg.assign rfl rfl ?_
 refine Rg.nil ?_
 refine T.seq ?_
 refine T.seq ?_
 refine T.region ?_
 refine Rg.move rfl rfl ?_
 refine Rg.eqv (v' := .slice a b.length cap) hva ?_
 refine Rg.sleqnil Tryz.underlying188 rfl rfl rfl ?_
 refine Rg.nil ?_
 refine T.ifp rfl (fun c1 => ?_) (fun c1 => ?_)
 ·refine T.seq ?_
  refine T.region ?_
  refine Rg.assign rfl rfl ?_
  refine Rg.nil ?_
  refine T.ret ?_
  have hb : b = [] := by
   rcases hs with h | ⟨_, _, h, _⟩
   ·exact h
   ·rw [c1] at h; cases h
  exact Kret1 rfl rfl ⟨by rw [hb]; exact V_nil, Step.refl _ _⟩
 ·refine T.skip ?_
  refine T.seq ?_
  refine T.region ?_
  refine Rg.sl0 Tryz.underlying188 I129 M rfl (fun a0 w1 s1 => ?_)
  refine Rg.move rfl rfl ?_
  refine Rg.appendnew (A := ((RT.li).ptr)) (hn := by decide) (M := M) Tryz.underlying188 I129 rfl rfl rfl rfl hv s1.le (s1.lt hM) (by omega) (fun u2 w2 hu2 s2 => ?_)
  refine Rg.assign rfl rfl ?_
  refine Rg.nil ?_
  refine T.ret ?_
  exact Kret1 rfl rfl ⟨hu2, s1.trans0 s2⟩
theorem dclone_spec {M : PSet} {d : Dc} {v0 : Value} (w0 : World) (hM : Lt M w0) (hv : RT.dc.V M w0 d v0) (hl : d.2.length ≤ 1099511627776) :
  Spec Tryz.prog 160 #[v0] w0 (fun v w => RT.dc.V M w d v ∧ Step M w0 M w none') := by
 have hM0 := hM
 refine spec_of (args := [_]) (fn := Tryz.f160) Tryz.func160 rfl (n := 9) Tryz.ntmps160 ?_
 have S : Step M w0 M w0 none' := (Step.refl _ _).widen (fun _ h => h.elim) (fun _ h => h.elim)
 refine T.seq ?_
 refine T.region ?_
 refine Rg.boxp (A := RT.dc) rfl rfl hM hv rfl (fun u0 w1 hu0 s0 _ => ?_) --@step s0
 --@vf hu0*
 --@ptr RT.dc ;; d
 replace hM := s0.lt hM
 have := S.size
 replace S := S.trans0 s0
 refine Rg.alloc M I41 rfl (fun b0_1 w0_1 p0_1 q0_1 g0_1 s0_1 => ?_)
 obtain ⟨M_0_1, eM_0_1⟩ : ∃ M', M' = ins M b0_1 := ⟨_, rfl⟩
 rw [← eM_0_1] at s0_1
 have m_g0_1 : M_0_1 b0_1 := by rw [eM_0_1]; exact .inl rfl
 change w0_1.heap[b0_1]? = some (.cells #[.int .i64 0, .slice none 0 0] _ _) at g0_1
 replace hu0 := hu0.le (by decide) s0_1.le
 replace hM := s0_1.lt hM
 have := S.size
 replace S := S.trans0 s0_1
 refine Rg.nil ?_
 refine T.seq ?_
 apply T.drawF 4 [0, 1] 1 none' mixed rfl rfl rfl rfl
 intro wD1 sA1
 have sD1 := sA1 M_0_1
 have := lt_of_get g0_1
 replace m_g0_1 := (sD1.mem _ this).2 m_g0_1
 replace g0_1 := sD1.same0 g0_1
 replace hu0 := hu0.le (by decide) sD1.le
 replace hM := sD1.lt hM
 have := S.size
 replace S := S.trans0 sD1
 refine Rg.fieldAddr (M := M_0_1) (A := RT.dc) (B := RT.int .i64) Tryz.underlying41 rfl rfl I3 (by decide) (dc0) rfl rfl (by decide) (by assumption) (by repeat (first | exact Le.refl _ _ | refine Le.trans (Step.le (by assumption)) ?_)) (fun u1_0 hu1_0 => ?_)
 refine Rg.nil ⟨rfl, rfl, rfl, ?_⟩
 refine Rg.loadi64 (M := M_0_1) Tryz.underlying3 rfl rfl (by assumption) (by repeat (first | exact Le.refl _ _ | refine Le.trans (Step.le (by assumption)) ?_)) (fun in1_1 => ?_)
 refine Rg.nil ⟨rfl, rfl, rfl, ?_⟩
 refine Rg.fieldAddr (M := M_0_1) (A := RT.dc) (B := (RT.fd).sl) Tryz.underlying41 rfl rfl I39 (by decide) (dc1) rfl rfl (by decide) (by assumption) (by repeat (first | exact Le.refl _ _ | refine Le.trans (Step.le (by assumption)) ?_)) (fun u1_2 hu1_2 => ?_)
 refine Rg.nil ⟨rfl, rfl, rfl, ?_⟩
 refine Rg.load (M := M_0_1) Tryz.underlying39 rfl rfl rfl rfl rfl (by assumption) (by repeat (first | exact Le.refl _ _ | refine Le.trans (Step.le (by assumption)) ?_)) (fun v1_3 hv1_3 => ?_)
 refine Rg.nil ⟨rfl, rfl, rfl, ?_⟩
 refine QRg.nil ?_
 obtain ⟨bb, oo, cs, ee, fr, rfl, hcell, _⟩ := hu1_0.float
 refine ⟨Floats.all ⟨FloatOk.field Tryz.underlying41 rfl I3 (by decide), ⟨FloatOk.load rfl hcell (fun h => h), trivial⟩⟩, ?_⟩
 have kp := Keep.refl none' wD1
 refine Rg.call rfl rfl E199 (cloneFd hM hv1_3 hl) (fun v4 w4 hc => ?_)
 obtain ⟨hv4, s4⟩ := hc --@step s4
 --@vf hv4
 have := lt_of_get g0_1
 replace m_g0_1 := (s4.mem _ this).2 m_g0_1
 replace g0_1 := s4.same0 g0_1
 replace hu0 := hu0.le (by decide) s4.le
 replace hM := s4.lt hM
 have := S.size
 replace S := S.trans0 s4
 refine (fun (kp : Keep _ _ _) => Rg.nil ⟨rfl, rfl, fun _ => kp, ?_⟩) (by first | exact kp | exact kp.go0 (by assumption) | exact kp.goN (by assumption) | exact kp.go (by assumption) (fun _ _ h => by first | exact h | exact h.elim))
 refine Rg.build (places := [(0, 1), (1, 1)]) Tryz.underlying41 I41 B41 rfl ⟨_, _, rfl, rfl, _, _, rfl, rfl, rfl⟩ (out := [_, _]) ⟨0, [_], rfl, rfl, by simp [Value.cells], 1, [_], rfl, V_cells hv4, by simp [Value.cells], rfl⟩ ?_
 refine Rg.nil ⟨rfl, rfl, fun h => absurd rfl h, ?_⟩
 have hd : RT.dc.V M_0_1 w4 d (.agg [.int .i64 d.1, v4].toArray) := V_pair_mk (V_i64 in1_1) hv4 rfl rfl rfl rfl
 refine Rg.storeaggc (M := M_0_1) (vs := [.int .i64 d.1, v4]) I41 rfl rfl (V_ones rfl hd) rfl rfl g0_1 m_g0_1 (fun w6 g6 s6 => ?_) --@vf hd
 --@wrote s6 g0_1 g6
 have := lt_of_get g0_1
 replace m_g0_1 := (s6.mem _ this).2 m_g0_1
 replace hu0 := hu0.le (by decide) s6.le
 replace hv4 := hv4.le s6.le
 replace hd := hd.le s6.le
 replace hM := s6.lt hM
 have := S.size
 replace S := S.trans s6 (fun k hk h => by have h : _ = _ := h; subst h; first | (exfalso; omega) | (show _ ≤ _; omega) | exact ⟨by omega, (S.mem _ hk).1 ((s6.mem _ (lt_of_get g0_1)).1 m_g0_1)⟩ | exact .inl rfl | exact .inr rfl | exact .inr (.inl rfl) | exact .inr (.inr rfl) | exact rfl)
 have g0_1_ := g6
 clear g0_1
 have g0_1 := g0_1_
 clear g0_1_
 refine Rg.nil ⟨rfl, rfl, fun h => absurd rfl h, ?_⟩
 refine TRg.nil ?_
 refine T.ret ?_
 exact KretC1 (vs := [.int .i64 d.1, v4]) rfl rfl Tryz.underlying41 rfl I41 rfl g0_1 ⟨hd.le (Le.close hM0 S), S.back⟩
theorem own_spec {M : PSet} {e : En} {v0 : Value} (w0 : World) (hM : Lt M w0) (hv : RT.en.V M w0 e v0) (hl : e.1.2.length ≤ 1099511627776) :
  Spec Tryz.prog 109 #[v0] w0 (fun v w => RT.en.V M w e v ∧ Step M w0 M w none') := by
 have hM0 := hM
 refine spec_of (args := [_]) (fn := Tryz.f109) Tryz.func109 rfl (n := 9) Tryz.ntmps109 ?_
 have S : Step M w0 M w0 none' := (Step.refl _ _).widen (fun _ h => h.elim) (fun _ h => h.elim)
 refine T.seq ?_
 refine T.region ?_
 refine Rg.boxp (A := RT.en) rfl rfl hM hv rfl (fun u0 w1 hu0 s0 _ => ?_) --@step s0
 --@vf hu0*
 --@ptr RT.en ;; (e.1, e.2)
 replace hM := s0.lt hM
 have := S.size
 replace S := S.trans0 s0
 refine Rg.alloc M I43 rfl (fun b0_1 w0_1 p0_1 q0_1 g0_1 s0_1 => ?_)
 obtain ⟨M_0_1, eM_0_1⟩ : ∃ M', M' = ins M b0_1 := ⟨_, rfl⟩
 rw [← eM_0_1] at s0_1
 have m_g0_1 : M_0_1 b0_1 := by rw [eM_0_1]; exact .inl rfl
 change w0_1.heap[b0_1]? = some (.cells #[.int .i64 0, .slice none 0 0, .int .i64 0] _ _) at g0_1
 replace hu0 := hu0.le (by decide) s0_1.le
 replace hM := s0_1.lt hM
 have := S.size
 replace S := S.trans0 s0_1
 refine Rg.nil ?_
 refine T.seq ?_
 apply T.drawP [0, 1, 3, 4, 2, 5, 6] 4 [2, 3] 1 none' mixed
 ·simp +decide only [ren, renO, List.map_cons, List.map_nil, List.getD_cons_zero, List.getD_cons_succ, List.map_toArray, Option.map_some, Option.map_none, List.idxOf_cons, cond_true, cond_false, Nat.reduceBEq, Nat.reduceAdd, beq_self_eq_true]; rfl
 ·rfl
 ·rfl
 ·rfl
 ·rfl
 ·rfl
 ·rfl
 intro wD1 sA1
 have sD1 := sA1 M_0_1
 have := lt_of_get g0_1
 replace m_g0_1 := (sD1.mem _ this).2 m_g0_1
 replace g0_1 := sD1.same0 g0_1
 replace hu0 := hu0.le (by decide) sD1.le
 replace hM := sD1.lt hM
 have := S.size
 replace S := S.trans0 sD1
 refine Rg.fieldAddr (M := M_0_1) (A := RT.en) (B := RT.dc) Tryz.underlying43 rfl rfl I41 (by decide) en0 rfl rfl (by decide) hu0 (Le.refl _ _) (fun u1_0 hu1_0 => ?_) --@ptr RT.dc ;; e.1
 refine Rg.nil ⟨rfl, rfl, rfl, ?_⟩
 refine Rg.loadagg (M := M_0_1) (A := RT.dc) Tryz.underlying41 rfl I41 (by decide) rfl rfl rfl hu1_0 (Le.refl _ _) (fun v1_1 hv1_1 => ?_)
 refine Rg.nil ⟨rfl, rfl, rfl, ?_⟩
 refine Rg.fieldAddr (M := M_0_1) (A := RT.en) (B := RT.int .i64) Tryz.underlying43 rfl rfl I3 (by decide) en1 rfl rfl (by decide) hu0 (Le.refl _ _) (fun u1_2 hu1_2 => ?_) --@ptr RT.int .i64 ;; e.2
 refine Rg.nil ⟨rfl, rfl, rfl, ?_⟩
 refine Rg.loadi64 (M := M_0_1) Tryz.underlying3 rfl rfl (by assumption) (by repeat (first | exact Le.refl _ _ | refine Le.trans (Step.le (by assumption)) ?_)) (fun in1_3 => ?_)
 refine Rg.eqv (v' := .int .i64 (e.2)) rfl ?_
 replace in1_3 : -9223372036854775808 ≤ (e.2 : Int) ∧ e.2 ≤ 9223372036854775807 := in1_3
 refine Rg.nil ⟨rfl, rfl, rfl, ?_⟩
 refine QRg.nil ?_
 obtain ⟨bb, oo, cs, ee, fr, rfl, hcell, _⟩ := hu1_2.float
 refine ⟨Floats.all ⟨FloatOk.field Tryz.underlying43 rfl I3 (by decide), ⟨FloatOk.load rfl hcell (fun h => h), trivial⟩⟩, ?_⟩
 have kp := Keep.refl none' wD1
 refine Rg.call rfl rfl E160 (dclone_spec _ hM hv1_1 hl) (fun v4 w4 hc => ?_)
 obtain ⟨hv4, s4⟩ := hc
 obtain ⟨uf, rfl⟩ := dc_val hv4
 --@step s4
 --@vf hv4
 have := lt_of_get g0_1
 replace m_g0_1 := (s4.mem _ this).2 m_g0_1
 replace g0_1 := s4.same0 g0_1
 replace hu0 := hu0.le (by decide) s4.le
 replace hM := s4.lt hM
 have := S.size
 replace S := S.trans0 s4
 refine (fun (kp : Keep _ _ _) => Rg.nil ⟨rfl, rfl, fun _ => kp, ?_⟩) (by first | exact kp | exact kp.go0 (by assumption) | exact kp.goN (by assumption) | exact kp.go (by assumption) (fun _ _ h => by first | exact h | exact h.elim))
 refine Rg.build (places := [(0, 2), (2, 1)]) Tryz.underlying43 I43 B43 rfl ⟨_, _, rfl, rfl, _, _, rfl, rfl, rfl⟩ (out := [_, _, _]) ⟨0, [_, _], rfl, rfl, by simp [Value.cells], 2, [_], rfl, rfl, by simp [Value.cells], rfl⟩ ?_
 refine Rg.nil ⟨rfl, rfl, fun h => absurd rfl h, ?_⟩
 have hd : RT.en.V M_0_1 w4 e (.agg [.int .i64 e.1.1, uf, .int .i64 e.2].toArray) := en_mk (p := e.1) hv4 in1_3
 refine Rg.storeaggc (M := M_0_1) (vs := [.int .i64 e.1.1, uf, .int .i64 e.2]) I43 rfl rfl (V_ones rfl hd) rfl rfl g0_1 m_g0_1 (fun w6 g6 s6 => ?_) --@vf hd
 --@wrote s6 g0_1 g6
 have := lt_of_get g0_1
 replace m_g0_1 := (s6.mem _ this).2 m_g0_1
 replace hu0 := hu0.le (by decide) s6.le
 replace hv4 := hv4.le s6.le
 replace hd := hd.le s6.le
 replace hM := s6.lt hM
 have := S.size
 replace S := S.trans s6 (fun k hk h => by have h : _ = _ := h; subst h; first | (exfalso; omega) | (show _ ≤ _; omega) | exact ⟨by omega, (S.mem _ hk).1 ((s6.mem _ (lt_of_get g0_1)).1 m_g0_1)⟩ | exact .inl rfl | exact .inr rfl | exact .inr (.inl rfl) | exact .inr (.inr rfl) | exact rfl)
 have g0_1_ := g6
 clear g0_1
 have g0_1 := g0_1_
 clear g0_1_
 refine Rg.nil ⟨rfl, rfl, fun h => absurd rfl h, ?_⟩
 refine TRg.nil ?_
 refine T.ret ?_
 exact KretC1 (vs := [.int .i64 e.1.1, uf, .int .i64 e.2]) rfl rfl Tryz.underlying43 rfl I43 rfl g0_1 ⟨hd.le (Le.close hM0 S), S.back⟩
end Go.K
namespace Go.K
open Go.Proofs
namespace TKBldB
theorem I227 : TI Tryz.prog 227 (.map none) 1 8 := by unfold TI; kernel_rfl
theorem E155 : Enters Tryz.prog 155 := enters Tryz.func155 rfl (by decide)
theorem E156 : Enters Tryz.prog 156 := enters Tryz.func156 rfl (by decide)
theorem E157 : Enters Tryz.prog 157 := enters Tryz.func157 rfl (by decide)
end TKBldB
open TKBldB
set_option linter.unusedVariables false
set_option linter.unusedSimpArgs false
set_option maxRecDepth 10000
theorem IJ.step0 {bt mb B : Nat} {ts : List (Fd × Nat)} {M M' : PSet} {w w' : World} (h : IJ bt mb B ts M w) (s : Step M w M' w' none') : IJ bt mb B ts M' w' := by
 obtain ⟨gb, m_gb, m_mb, hB, hBm, es, clock, hW, hI⟩ := h
 exact ⟨s.same0 gb, (s.mem _ (lt_of_get gb)).2 m_gb, (s.mem _ (lt_of_get hW.at_)).2 m_mb, hB, hBm, es, clock, hW.step0 s, hI.step0 s⟩
theorem inv_tell {bt mb B : Nat} : Tell Tryz.prog 155 [.pointer (some ⟨bt, 0, none⟩)] B (IJ bt mb B) :=
 ⟨E155, fun ts M w M' w' h s => h.step0 s, fun ts M w t i hJ hM h1 h2 hi h4 => inv1_spec w hM h1 h2 hi h4 hJ⟩
theorem invS_nil (M : PSet) (w : World) (B : Nat) : InvS M w B [] [] where
 o t v hv := by
  rcases hv with ⟨e, he, _⟩ | ⟨_, rfl⟩
  ·cases he
  ·exact Own.nil _ _ _ _ _
 a t t' v v' _ hv _ := by
  rcases hv with ⟨e, he, _⟩ | ⟨_, rfl⟩
  ·cases he
  ·exact (Apart.nil v').symm
 k := rfl
theorem seen_len : ∀ (ts : List (Fd × Nat)) (l : List Fd), (ts.foldl (fun l p => if p.1 ∈ l then l else l ++ [p.1]) l).length ≤ l.length + ts.length
 |[], l => by simp
 |p :: ts, l => by
  rw [List.foldl_cons, List.length_cons]
  refine Nat.le_trans (seen_len ts _) ?_
  split
  ·omega
  ·rw [List.length_append]; simp; omega
theorem fd_free (M : PSet) (w : World) (M' : PSet) (w' : World) (x : Fd) (vs : List Value) (h : RT.fd.R M w x vs) : RT.fd.R M' w' x vs := h
theorem invert_spec {M : PSet} {d : Dc} {v0 : Value} (w0 : World) (hM : Lt M w0) (hv : RT.dc.V M w0 d v0) (hF : Fine d) (hl : ∀ f ∈ d.2, f.1.length ≤ 900000 ∧ f.2.length ≤ 900000) :
  Spec Tryz.prog 108 #[v0] w0 (fun v w => ∃ a b, v = .tuple #[a, b] ∧ (RT.fd.sl).V M w (termsOf (tellsL d.2)) a ∧ (((RT.int .i64).sl).sl).V M w ((termsOf (tellsL d.2)).map (posOf (tellsL d.2))) b ∧ Step M w0 M w none') := by
 have hM0 := hM
 have hmany := hF.many
 refine spec_of (args := [_]) (fn := Tryz.f108) Tryz.func108 rfl (n := 31) Tryz.ntmps108 ?_
 have S : Step M w0 M w0 none' := (Step.refl _ _).widen (fun _ h => h.elim) (fun _ h => h.elim)
 refine T.seq ?_
 refine T.region ?_
 refine Rg.boxp (A := RT.dc) rfl rfl hM hv rfl (fun u0 w1 hu0 s0 _ => ?_) --@step s0
 --@vf hu0*
 --@ptr RT.dc ;; d
 replace hM := s0.lt hM
 have := S.size
 replace S := S.trans0 s0
 refine Rg.assign rfl rfl ?_
 refine Rg.assign rfl rfl ?_
 refine Rg.nil ?_
 refine T.seq ?_
 refine T.region ?_
 refine Rg.makeMapW M Tryz.underlying227 rfl (fun mb w1m p1 q1 gW s1 => ?_)
 --@newM mb s1 gW
 --@step s1
 --@fact2 m_gW ;; (@s.mem _ (lt_of_get gW.at_)).2 m_gW ;; (@s.mem _ (lt_of_get gW.at_)).2 m_gW
 --@fact2 gW ;; gW.step0 @s ;; gW.step @s (by show ¬ (_ = _); omega)
 obtain ⟨M_W, eM_W⟩ : ∃ M', M' = ins M mb := ⟨_, rfl⟩
 rw [← eM_W] at s1
 have m_gW : M_W mb := by rw [eM_W]; exact .inl rfl
 replace hu0 := hu0.le (by decide) s1.le
 replace hM := s1.lt hM
 have := S.size
 replace S := S.trans0 s1
 refine Rg.alloc M_W I227 rfl (fun b1_1 w1_1 p1_1 q1_1 g1_1 s1_1 => ?_)
 obtain ⟨M_1_1, eM_1_1⟩ : ∃ M', M' = ins M_W b1_1 := ⟨_, rfl⟩
 rw [← eM_1_1] at s1_1
 have m_g1_1 : M_1_1 b1_1 := by rw [eM_1_1]; exact .inl rfl
 change w1_1.heap[b1_1]? = some (.cells #[.map none] _ _) at g1_1
 replace hu0 := hu0.le (by decide) s1_1.le
 replace m_gW := (s1_1.mem _ (lt_of_get gW.at_)).2 m_gW
 replace gW := gW.step0 s1_1
 replace hM := s1_1.lt hM
 have := S.size
 replace S := S.trans0 s1_1
 refine Rg.storec (M := M_1_1) I227 rfl rfl g1_1 rfl (rfl) m_g1_1 (fun w1_2 g1_2 s1_2 => ?_)
 try simp only [List.setIfInBounds_toArray, List.set_cons_zero, List.set_cons_succ] at g1_2
 have := lt_of_get g1_1
 replace m_g1_1 := (s1_2.mem _ this).2 m_g1_1
 replace hu0 := hu0.le (by decide) s1_2.le
 replace m_gW := (s1_2.mem _ (lt_of_get gW.at_)).2 m_gW
 replace gW := gW.step s1_2 (by show ¬ (_ = _); omega)
 replace hM := s1_2.lt hM
 have := S.size
 replace S := S.trans s1_2 (fun k hk h => by have h : _ = _ := h; subst h; first | (exfalso; omega) | (show _ ≤ _; omega) | exact ⟨by omega, (S.mem _ hk).1 ((s1_2.mem _ (lt_of_get g1_1)).1 m_g1_1)⟩ | exact .inl rfl | exact .inr rfl | exact .inr (.inl rfl) | exact .inr (.inr rfl) | exact rfl)
 have g1_1_ := g1_2
 clear g1_1
 have g1_1 := g1_1_
 clear g1_1_
 refine Rg.nil ?_
 refine T.seq ?_
 refine T.region ?_
 refine Rg.loadagg (M := M_1_1) (A := RT.dc) Tryz.underlying41 rfl I41 (by decide) rfl rfl rfl (by assumption) (by repeat (first | exact Le.refl _ _ | refine Le.trans (Step.le (by assumption)) ?_)) (fun v2_0 hv2_0 => ?_)
 refine Rg.makeFunc (xs := []) (ys := [.tmp 4]) rfl rfl rfl ?_
 refine Rg.call rfl rfl E154 (each_spec (cap := [.pointer (some ⟨b1_1, 0, none⟩)]) (B := w0.heap.size) _ hM hv2_0 hl hF.few (inv_tell (mb := mb)) ⟨g1_1, m_g1_1, m_gW, by omega, by omega, [], 0, gW, invS_nil _ _ _⟩) (fun r2 w2 hc => ?_)
 obtain ⟨M2, hM2, ⟨gb, _, _, _, _, es, clock, hW, hI⟩, s2⟩ := hc
 replace S := S.transOwn s2 (Nat.le_refl _)
 have hrow : ∀ t v, ValAt nilS es (kv t) v → (((RT.int .i64).sl)).V M w2 (posOf (tellsL d.2) t) v := fun t v h => (hI.o t v h).close hM0 S (by have := posOf_len (tellsL d.2) t; omega)
 replace S := S.back
 replace hM := S.lt hM0
 have hkin : ∀ e ∈ es, ∃ t ∈ seen (tellsL d.2), e.key = kv t := fun e he => by
  have : e.key ∈ (seen (tellsL d.2)).map kv := by rw [← hI.k]; exact List.mem_map_of_mem he
  obtain ⟨t, h1, h2⟩ := List.mem_map.1 this
  exact ⟨t, h1, h2.symm⟩
 have hsm : ∀ t ∈ seen (tellsL d.2), NoZ t ∧ t.1.length ≤ 12 ∧ t.2.length ≤ 30 := fun t ht => by
  obtain ⟨p, hp, rfl⟩ := List.mem_map.1 (seen_mem.1 ht)
  exact ⟨hF.noz p hp, hF.small p hp⟩
 have hsl : (seen (tellsL d.2)).length ≤ 500 := Nat.le_trans (seen_len _ _) (by simp; omega)
 have hel : es.length ≤ 500 := by have := congrArg List.length hI.k; simp at this; omega
 --@M M
 --@drop g1_1 hu0 m_gW gW
 --@fact2 hW ;; hW.step0 @s ;; hW.step @s (fun h => ho.notMap hW.at_ h)
 --@fact2 gb ;; @s.same0 gb ;; @s.keep gb (fun h => ho.neT gb (by decide) h)
 --@fact2 hrow ;; fun t v h => (hrow t v h).le @s.le ;; fun t v h => (hrow t v h).le @s.le
 refine Rg.nil ?_
 refine T.seq ?_
 refine T.region ?_
 refine Rg.loadc Tryz.underlying227 rfl rfl rfl gb rfl ?_
 refine Rg.call rfl rfl E157 (mkeys_spec _) (fun r3 w3 hc => ?_)
 obtain ⟨bs, rfl, gbs, _, s3⟩ := hc
 replace s3 := s3.toAny M --@step s3
 replace hW := hW.step0 s3
 replace gb := s3.same0 gb
 replace hrow := fun t v h => (hrow t v h).le s3.le
 replace hM := s3.lt hM
 have := S.size
 replace S := S.trans0 s3
 refine Rg.call rfl rfl E156 (sorted_spec _ (fun e he => by
  obtain ⟨t, h1, h2⟩ := hkin e he
  exact ⟨t, h2, by have := (hsm t h1).2; omega, by have := (hsm t h1).2; omega⟩) (fun e he t ht => by
  obtain ⟨t', h1, h2⟩ := hkin e he
  obtain rfl := kv_inj (ht.symm.trans h2)
  exact ⟨(hsm _ h1).1, by have := (hsm _ h1).2; omega, by have := (hsm _ h1).2; omega⟩) (by omega) (fun ts hnd hin => by
  have := hnd.length_le_of_subset (l₂ := seen (tellsL d.2)) (fun t ht => (seen_has hI.k).1 (hin t ht))
  omega) gbs hW) (fun r4 w4 hc => ?_)
 obtain ⟨us, hnd, hin, hby, hou, s4⟩ := hc
 obtain rfl := byKey_terms hF.noz hnd (fun t => (hin t).trans (seen_has hI.k)) hby
 have hul : (termsOf (tellsL d.2)).length ≤ 500 := Nat.le_trans (hnd.length_le_of_subset (l₂ := seen (tellsL d.2)) (fun t ht => seen_mem.2 ((terms_mem hF.noz).1 ht))) hsl
 replace s4 := s4.toAny M
 have hus : (RT.fd.sl).V M w4 (termsOf (tellsL d.2)) r4 := hou.tell fd_free (fun b hb h => by have := (hou.base b hb).1; have := hM b h; omega) (by omega)
 clear hou --@step s4
 --@vf hus
 replace hW := hW.step0 s4
 replace gb := s4.same0 gb
 replace hrow := fun t v h => (hrow t v h).le s4.le
 replace hM := s4.lt hM
 have := S.size
 replace S := S.trans0 s4
 refine Rg.assign rfl rfl ?_
 refine Rg.nil ?_
 refine T.seq ?_
 refine T.region ?_
 refine Rg.assign rfl rfl ?_
 refine Rg.nil ?_
 refine T.seq ?_
 refine T.seq ?_
 refine T.region ?_
 refine Rg.move rfl rfl ?_
 refine Rg.lensl Tryz.underlying98 rfl hus rfl ?_
 refine Rg.move rfl rfl ?_
 refine Rg.nil ?_
 refine T.block ?_
 refine T.loop (σ := Nat × Value) (fun q => [(4, .pointer (some ⟨b1_1, 0, none⟩)), (5, r4), (6, q.2), (16, r4), (17, .int .i64 ((termsOf (tellsL d.2)).length : Int)), (18, .int .i64 (q.1 : Int))]) (fun q w => ∃ M', Lt M' w ∧ Step M w0 M' w none' ∧ Own ((RT.int .i64).sl) 32 M' w w0.heap.size q.2 (((termsOf (tellsL d.2)).take q.1).map (posOf (tellsL d.2))) ∧ (RT.fd.sl).V M' w (termsOf (tellsL d.2)) r4 ∧ MapW Tryz.prog 47 w mb es clock ∧ w.heap[b1_1]? = some (.cells #[.map (some mb)] 227 (0, 0)) ∧ (∀ t v, ValAt nilS es (kv t) v → (((RT.int .i64).sl)).V M' w (posOf (tellsL d.2) t) v) ∧ q.1 ≤ (termsOf (tellsL d.2)).length) (fun q => (termsOf (tellsL d.2)).length - q.1) (0, .slice none 0 0) (.cons rfl (.cons rfl (.cons rfl (.cons rfl (.cons rfl (.cons rfl .nil)))))) ?_ ?_
 ·exact ⟨M, hM, S, Own.nil _ _ _ _ _, hus, hW, gb, hrow, Nat.zero_le _⟩
 ·clear hM hus hW gb hrow S
  rintro ⟨i, u⟩ w ⟨M1, hM, S, ho, hus, hW, gb, hrow, hi⟩
  dsimp only at ho hi ⊢
  refine T.seq ?_
  refine T.region ?_
  refine Rg.ilt rfl rfl rfl ?_
  refine Rg.nil ?_
  refine T.seq ?_
  refine T.ifp rfl (fun c6 => ?_) (fun c6 => ?_)
  ·refine T.skip ?_
   refine T.seq ?_
   refine T.block ?_
   refine T.seq ?_
   refine T.region ?_
   refine Rg.idx (M := M1) Tryz.underlying98 I47 rfl rfl rfl hus (Le.refl _ _) (by omega) (fun u7_0 t hg7 hu7_0 => ?_)
   rw [Int.toNat_natCast] at hg7
   have htm := List.mem_of_getElem? hg7
   have hts := hsm t (seen_mem.2 ((terms_mem hF.noz).1 htm)) --@ptr RT.fd ;; t
   refine Rg.loadagg (M := M1) (A := RT.fd) Tryz.underlying47 rfl I47 (by decide) rfl rfl rfl hu7_0 (Le.refl _ _) (fun v7_1 hv7_1 => ?_)
   refine Rg.newagg (A := RT.fd) (M := M1) I47 rfl rfl rfl rfl rfl (by assumption) (Le.refl _ _) hM (fun u7_2 w7_2 hu7_2 s7_2 z7_2 => ?_)
   replace hus := hus.le s7_2.le
   replace ho := ho.step0 s7_2
   replace hW := hW.step0 s7_2
   replace gb := s7_2.same0 gb
   replace hrow := fun t v h => (hrow t v h).le s7_2.le
   replace hM := s7_2.lt hM
   have := S.size
   replace S := S.trans0 s7_2
   refine Rg.nil ?_
   refine T.region ?_
   refine Rg.move rfl rfl ?_
   refine Rg.loadc Tryz.underlying227 rfl rfl rfl gb rfl ?_
   refine Rg.loadagg (M := M1) (A := RT.fd) Tryz.underlying47 rfl I47 (by decide) rfl rfl rfl hu7_2 (Le.refl _ _) (fun v8_2 hv8_2 => ?_)
   obtain rfl := fd_val hv8_2
   obtain ⟨kl, hkl⟩ := kv_key t (by omega) (by omega)
   refine Rg.lookupW Tryz.underlying227 termKeyed I32 rfl rfl rfl hkl hW (fun v8 hva => ?_)
   have hv8 := hrow _ _ hva
   clear hva
   refine Rg.sl1 (A := ((RT.int .i64).sl)) (hn := by decide) (M := M1) Tryz.underlying171 I32 (by decide) rfl rfl hM (hv8) (.inr ⟨rfl, rfl⟩) (fun u8_4 w8_4 hu8_4 s8_4 => ?_)
   replace hus := hus.le s8_4.le
   replace hu7_2 := hu7_2.le (by decide) s8_4.le
   replace ho := ho.step0 s8_4
   replace hW := hW.step0 s8_4
   replace gb := s8_4.same0 gb
   replace hrow := fun t v h => (hrow t v h).le s8_4.le
   replace hM := s8_4.lt hM
   have := S.size
   replace S := S.trans0 s8_4
   refine Rg.append (M := M1) (base := w0.heap.size) Tryz.underlying171 I32 rfl rfl rfl rfl ho hu8_4 (Le.refl _ _) (by simp; omega) (by simp; omega) (S.size) (fun u8_5 M8_5 w8_5 ho8_5 s8_5 => ?_)
   replace hus := hus.le s8_5.le
   replace hu7_2 := hu7_2.le (by decide) s8_5.le
   replace hu8_4 := hu8_4.le s8_5.le
   replace hW := hW.step s8_5 (fun h => ho.notMap hW.at_ h)
   replace gb := s8_5.keep gb (fun h => ho.neT gb (by decide) h)
   replace hrow := fun t v h => (hrow t v h).le s8_5.le
   replace hM := s8_5.lt hM
   have := S.size
   replace S := S.transBlk s8_5 ho (Nat.le_refl _)
   replace ho := ho8_5
   refine Rg.assign rfl rfl ?_
   refine Rg.nil ?_
   refine T.region ?_
   refine Rg.iadd rfl rfl rfl (by omega) ?_
   refine Rg.move rfl rfl ?_
   refine Rg.nil ?_
   refine ⟨rfl, (i + 1, u8_5), (.cons rfl (.cons rfl (.cons rfl (.cons rfl (.cons rfl (.cons rfl .nil)))))), ?_, ?_⟩
   ·exact ⟨M8_5, hM, S, by rw [List.take_add_one, hg7, Option.toList_some, List.map_append]; exact ho, hus, hW, gb, hrow, by dsimp only; omega⟩
   ·dsimp only; omega
  ·refine T.exit ?_
   refine T.seq ?_
   refine T.region ?_
   refine Rg.move rfl rfl ?_
   refine Rg.move rfl rfl ?_
   refine Rg.assign rfl rfl ?_
   refine Rg.assign rfl rfl ?_
   refine Rg.nil ?_
   refine T.ret ?_
   have e : (termsOf (tellsL d.2)).take i = termsOf (tellsL d.2) := List.take_of_length_le (by omega)
   rw [e] at ho
   exact Kret2 rfl rfl rfl ⟨_, _, rfl, hus.le (Le.close hM0 S), ho.close hM0 S (by simp; omega), S.back⟩
end Go.K
namespace Go.K
set_option linter.unusedVariables false
set_option linter.unusedSimpArgs false
def PtrIn {α : Type} (A : RT α) (M : PSet) (w : World) (v : Value) (x : α) : Prop := ∃ b o vs, v = .pointer (some ⟨b, o, none⟩) ∧ A.R M w x vs ∧ w.rangeAt b o vs
theorem Own.elem {α : Type} {A : RT α} {e : TypeId} {M : PSet} {w : World} {base : Nat} {v : Value} {xs : List α} (h : Own A e M w base v xs) (hA : 0 < A.n) {i : Nat} {x : α} (hx : xs[i]? = some x) :
  ∃ g cap vs, v = .slice (some ⟨g, 0, none⟩) xs.length cap ∧ M g ∧ A.R M w x vs ∧ w.rangeAt g (i * A.n) vs := by
 obtain ⟨⟨C, hr, ha⟩, hm⟩ := h
 rcases hr.2 with ⟨h1, h2⟩ | ⟨g, cap, cur, h1, h2, h3, h4, h5, h6, h7⟩
 ·have : xs = [] := List.eq_nil_of_length_eq_zero h2
  subst this; simp at hx
 ·obtain ⟨vs, hv, hj⟩ := ha.at_ i x hx
  refine ⟨g, cap, vs, h1, hm g (by rw [h1]; rfl), hv, fun j u hu => ?_⟩
  have h8 := hj j u hu
  rw [← h7, List.getElem?_take] at h8
  split at h8
  ·simp only [World.cell?, h3]; simpa using h8
  ·cases h8
section
variable {P : Program} {r : Option Nat} {n : Nat} {L : Sl} {ds : List Deferred} {w : World} {K : Kt} {ops : Array Oper} {rest : List Oper} {d : Nat} {x y : Operand} {ty : TypeId} {pos : String} {af : Array Edge} {α : Type} {A : RT α}
theorem Rg.idxO {t e e' : TypeId} {i : Operand} {κ : IntKind} {j : Int} {M : PSet} {base : Nat} {xs : List α} {v zv : Value} {bytes : Nat} (ht : P.underlying t = some (.slice e)) (hi : TI P e zv A.n bytes) (hA : 0 < A.n)
  (hx : ev L x = some v) (hix : ev L i = some (.int κ j)) (hd : Nat.blt d n = true) (ho : Own A e' M w base v xs) (hj : 0 ≤ j ∧ j < xs.length)
  (k : ∀ u a, xs[j.toNat]? = some a → PtrIn A M w u a → Rg P r n ops rest ((d, u) :: L) ds w K) :
  Rg P r n ops ({ dst := some d, op := .indexAddr t x i, type := ty, pos, after := af, guard := none } :: rest) L ds w K := by
 have hlt : j.toNat < xs.length := by omega
 obtain ⟨g, cap, vs, rfl, hm, h1, h2⟩ := ho.elem hA (List.getElem?_eq_getElem hlt)
 refine .op (fun _ h => by cases h) rfl rfl hd (.pointer (some ⟨g, 0 + j.toNat * A.n, none⟩)) w (fun ρ h => ?_) (k _ xs[j.toNat] (List.getElem?_eq_getElem hlt) ⟨g, _, vs, rfl, h1, by rw [Nat.zero_add]; exact h2⟩)
 simp only [execOp, h x _ hx, h i _ hix]
 simp [Instr.indexAt, run_underlying ht, asIntOf, hj, hi.sizeOf, Addr.add_mid]
theorem Rg.loadaggO {t : TypeId} {fs : TypeDesc} {zv : Value} {bytes : Nat} {M : PSet} {p : Value} {a : α} (hu : P.underlying t = some fs) (hf : fs.isRow = true) (hi : TI P t zv A.n bytes) (hg : A.agg = true)
  (hx : ev L x = some p) (hd : Nat.blt d n = true) (hp : PtrIn A M w p a) (k : ∀ v, A.V M w a v → Rg P r n ops rest ((d, v) :: L) ds w K) :
  Rg P r n ops ({ dst := some d, op := .load t x, type := ty, pos, after := af, guard := none } :: rest) L ds w K := by
 obtain ⟨b, o, vs, rfl, h1, h2⟩ := hp
 refine .op (fun _ h => by cases h) rfl rfl hd (.agg vs.toArray) w (fun ρ h => ?_) (k _ ⟨vs, h1, by simp [RT.val, hg]⟩)
 simp only [execOp, h x _ hx]
 obtain ⟨i, hi1, _, hi2, _⟩ := hi.get
 have := run_loadAt_mid (P := P) w b o t vs fs h2 hu hf (by simp [hi1, hi2, A.len h1])
 simp [this]
end
end Go.K
namespace Go.K
open Go.Proofs
namespace TKBldC
theorem I169 : TI Tryz.prog 169 (.agg #[(.slice none 0 0), (.map none), (.int .i64 0), (.int .i64 0)]) 4 48 := by unfold TI; kernel_rfl
theorem B169 : placesOf Tryz.prog 169 = [(0, 1), (1, 1), (2, 1), (3, 1)].map some := by kernel_rfl
end TKBldC
open TKBldC
set_option linter.unusedVariables false
set_option linter.unusedSimpArgs false
set_option maxRecDepth 10000
open Go.Maps (Keyed)
theorem strKeyed : Keyed Tryz.prog 9 := Go.Maps.string_keyed Tryz.underlying9
theorem sv_key (k : List UInt8) (h : k.length ≤ 140737488355328) : ∃ l, keyOf Tryz.prog 9 (sv k) = some l := by
 have e1 : (⟨k.toArray⟩ : ByteArray).size = k.length := by simp [ByteArray.size]
 exact ⟨_, Go.WideMaps.keyOf_string_mk Tryz.underlying9 (by rw [e1]; unfold maxLen; omega)⟩
structure PoS (Z : PSet) (M : PSet) (w : World) (B : Nat) (f : List UInt8 → List Po) (K : List UInt8 → Prop) (es : List MapEntry) : Prop where
 o : ∀ k v, ValAt nilS es (sv k) v → Own RT.po 153 M w B v (f k)
 a : ∀ k k' v v', k ≠ k' → ValAt nilS es (sv k) v → ValAt nilS es (sv k') v' → Apart v v'
 k : ∀ x, (∃ e ∈ es, e.key = sv x) ↔ K x
 z : ∀ k v c, ValAt nilS es (sv k) v → v.ownBlock = some c → Z c
theorem PoS.step {Z M M' N : PSet} {w w' : World} {B : Nat} {f : List UInt8 → List Po} {K : List UInt8 → Prop} {es : List MapEntry} (h : PoS Z M w B f K es) (s : Step M w M' w' N) (hn : ∀ k v b, ValAt nilS es (sv k) v → v.ownBlock = some b → ¬ N b) : PoS Z M' w' B f K es :=
 ⟨fun k v hv => (h.o k v hv).step s fun b hb => hn k v b hv hb, h.a, h.k, h.z⟩
theorem PoS.step0 {Z M M' : PSet} {w w' : World} {B : Nat} {f : List UInt8 → List Po} {K : List UInt8 → Prop} {es : List MapEntry} (h : PoS Z M w B f K es) (s : Step M w M' w' none') : PoS Z M' w' B f K es := h.step s fun _ _ _ _ _ h => h
theorem PoS.congr {Z M : PSet} {w : World} {B : Nat} {f f' : List UInt8 → List Po} {K K' : List UInt8 → Prop} {es : List MapEntry} (h : PoS Z M w B f K es) (hf : ∀ k, f' k = f k) (hK : ∀ k, K' k ↔ K k) : PoS Z M w B f' K' es :=
 ⟨fun k v hv => by rw [hf]; exact h.o k v hv, h.a, fun x => (h.k x).trans (hK x).symm, h.z⟩
theorem PoS.zone {Z Z' M : PSet} {w : World} {B : Nat} {f : List UInt8 → List Po} {K : List UInt8 → Prop} {es : List MapEntry} (h : PoS Z M w B f K es) (hz : ∀ c, Z c → c < w.heap.size → Z' c) : PoS Z' M w B f K es :=
 ⟨h.o, h.a, h.k, fun k v c hv hc => hz c (h.z k v c hv hc) ((h.o k v hv).base c hc).2⟩
theorem PoS.put {Z M M2 : PSet} {w w1 w2 : World} {B mb c : Nat} {mes : Array MapEntry} {f : List UInt8 → List Po} {K : List UInt8 → Prop} {es es2 : List MapEntry} {k0 : List UInt8} {v0 v1 : Value} {ps : List Po} (h : PoS Z M w B f K es) (hZ : ∀ c, w.heap.size ≤ c → Z c) (hv0 : ValAt nilS es (sv k0) v0)
  (ho1 : Own RT.po 153 (insV M v1) w1 B v1 (f k0 ++ ps)) (s1 : Step M w (insV M v1) w1 (blk v0)) (hF : ∀ b, v1.ownBlock = some b → w.heap.size ≤ b ∨ v0.ownBlock = some b) (hmb : w1.heap[mb]? = some (.map mes c)) (s2 : Step (insV M v1) w1 M2 w2 (fun k => k = mb))
  (hval : ∀ zv key' v', ValAt zv es2 key' v' ↔ (key' = sv k0 ∧ v' = v1) ∨ (key' ≠ sv k0 ∧ ValAt zv es key' v')) (hkeys : (es2.map (·.key) = es.map (·.key) ∧ ∃ e ∈ es, e.key = sv k0) ∨ (es2.map (·.key) = es.map (·.key) ++ [sv k0] ∧ ∀ e ∈ es, e.key ≠ sv k0)) :
  PoS Z M2 w2 B (fun k => if k = k0 then f k0 ++ ps else f k) (fun x => K x ∨ x = k0) es2 := by
 have hcase : ∀ k v, ValAt nilS es2 (sv k) v → (k = k0 ∧ v = v1) ∨ (k ≠ k0 ∧ ValAt nilS es (sv k) v) := fun k v hv => by
  rcases (hval nilS (sv k) v).1 hv with ⟨h3, h4⟩ | ⟨h3, h4⟩
  ·exact .inl ⟨sv_inj h3, h4⟩
  ·exact .inr ⟨fun e => h3 (by rw [e]), h4⟩
 have hap : ∀ k v, k ≠ k0 → ValAt nilS es (sv k) v → Apart v1 v := fun k v hne hv => (h.a k k0 v v0 hne hv hv0).symm.grown hF (fun b hb => ((h.o k v hv).base b hb).2)
 have hoth : ∀ k v, k ≠ k0 → ValAt nilS es (sv k) v → Own RT.po 153 (insV M v1) w1 B v (f k) := fun k v hne hv => (h.o k v hv).step s1 (fun b hb hk => h.a k k0 v v0 hne hv hv0 b hb hk)
 have hnm : ∀ {v : Value} {xs : List Po}, Own RT.po 153 (insV M v1) w1 B v xs → ∀ b, v.ownBlock = some b → ¬ b = mb := fun ho b hb e => ho.notMap hmb (by rw [← e]; exact hb)
 refine ⟨fun k v hv => ?_, fun k k' v v' hne hv hv' => ?_, fun x => ?_, fun k v c hv hc => ?_⟩
 ·rcases hcase k v hv with ⟨rfl, rfl⟩ | ⟨h3, h4⟩
  ·rw [if_pos rfl]; exact ho1.step s2 (hnm ho1)
  ·rw [if_neg h3]; exact (hoth k v h3 h4).step s2 (hnm (hoth k v h3 h4))
 ·rcases hcase k v hv with ⟨rfl, rfl⟩ | ⟨h3, h4⟩
  ·rcases hcase k' v' hv' with ⟨rfl, _⟩ | ⟨h5, h6⟩
   ·exact absurd rfl hne
   ·exact hap k' v' h5 h6
  ·rcases hcase k' v' hv' with ⟨rfl, rfl⟩ | ⟨h5, h6⟩
   ·exact (hap k v h3 h4).symm
   ·exact h.a k k' v v' hne h4 h6
 ·have hin : (∃ e ∈ es2, e.key = sv x) ↔ sv x ∈ es2.map (·.key) := by simp
  have hin' : (∃ e ∈ es, e.key = sv x) ↔ sv x ∈ es.map (·.key) := by simp
  rw [hin, ← h.k x, hin']
  rcases hkeys with ⟨h3, e, he, hk⟩ | ⟨h3, _⟩
  ·rw [h3]
   constructor
   ·exact .inl
   ·rintro (h4 | rfl)
    ·exact h4
    ·rw [← hk]; exact List.mem_map_of_mem he
  ·rw [h3, List.mem_append, List.mem_singleton]
   constructor
   ·rintro (h4 | h4)
    ·exact .inl h4
    ·exact .inr (sv_inj h4)
   ·rintro (h4 | rfl)
    ·exact .inl h4
    ·exact .inr rfl
 ·rcases hcase k v hv with ⟨rfl, rfl⟩ | ⟨h3, h4⟩
  ·rcases hF c hc with h5 | h5
   ·exact hZ c h5
   ·exact h.z _ _ c hv0 h5
  ·exact h.z k v c h4 hc
theorem poS_nil (Z M : PSet) (w : World) (B : Nat) : PoS Z M w B (pk []) (fun x => x ∈ keysL []) [] where
 o k v hv := by
  rcases hv with ⟨e, he, _⟩ | ⟨_, rfl⟩
  ·cases he
  ·exact Own.nil _ _ _ _ _
 a k k' v v' _ hv _ := by
  rcases hv with ⟨e, he, _⟩ | ⟨_, rfl⟩
  ·cases he
  ·exact (Apart.nil v').symm
 k x := by simp [keysL]
 z k v c hv hc := by
  rcases hv with ⟨e, he, _⟩ | ⟨_, rfl⟩
  ·cases he
  ·cases hc
structure Buf (Z M : PSet) (w : World) (B b mb : Nat) (vl : Value) (L : List En) (words last : Int) (f : List UInt8 → List Po) (K : List UInt8 → Prop) (es : List MapEntry) (clock : Nat) : Prop where
 at_ : w.heap[b]? = some (.cells #[vl, .map (some mb), .int .i64 words, .int .i64 last] 169 (0, 0))
 m : M b
 mm : M mb
 hb : Z b
 hmb : Z mb
 l : Own RT.en 43 M w B vl L
 map : MapW Tryz.prog 9 w mb es clock
 rows : PoS Z M w B f K es
 zl : ∀ c, vl.ownBlock = some c → Z c
def BufE (Z M : PSet) (w : World) (B b : Nat) (L : List En) (words last : Int) : Prop := ∃ mb vl es clock, Buf Z M w B b mb vl L words last (pk L) (fun x => x ∈ keysL L) es clock
theorem BufE.step0 {Z M M' : PSet} {w w' : World} {B b : Nat} {L : List En} {words last : Int} (h : BufE Z M w B b L words last) (s : Step M w M' w' none') : BufE Z M' w' B b L words last := by
 obtain ⟨mb, vl, es, clock, h1, h2, h3, h4, h5, h6, h7, h8, h9⟩ := h
 exact ⟨mb, vl, es, clock, s.same0 h1, (s.mem _ (lt_of_get h1)).2 h2, (s.mem _ (lt_of_get h7.at_)).2 h3, h4, h5, h6.step0 s, h7.step0 s, h8.step0 s, h9⟩
theorem BufE.zone {Z Z' M : PSet} {w : World} {B b : Nat} {L : List En} {words last : Int} (h : BufE Z M w B b L words last) (hz : ∀ c, Z c → c < w.heap.size → Z' c) : BufE Z' M w B b L words last := by
 obtain ⟨mb, vl, es, clock, h1, h2, h3, h4, h5, h6, h7, h8, h9⟩ := h
 exact ⟨mb, vl, es, clock, h1, h2, h3, hz _ h4 (lt_of_get h1), hz _ h5 (lt_of_get h7.at_), h6, h7, h8.zone hz, fun c hc => hz c (h9 c hc) (h6.base c hc).2⟩
theorem BufE.step {Z M M' N : PSet} {w w' : World} {B b : Nat} {L : List En} {words last : Int} (h : BufE Z M w B b L words last) (s : Step M w M' w' N) (hn : ∀ k, N k → ¬ Z k) : BufE Z M' w' B b L words last := by
 obtain ⟨mb, vl, es, clock, h1, h2, h3, h4, h5, h6, h7, h8, h9⟩ := h
 exact ⟨mb, vl, es, clock, s.keep h1 (fun hk => hn _ hk h4), (s.mem _ (lt_of_get h1)).2 h2, (s.mem _ (lt_of_get h7.at_)).2 h3, h4, h5, h6.step s (fun c hc hk => hn _ hk (h9 c hc)), h7.step s (fun hk => hn _ hk h5), h8.step s (fun k v c hv hc hk => hn _ hk (h8.z k v c hv hc)), h9⟩
theorem BufE.stepT {Z M M' N : PSet} {w w' : World} {B b : Nat} {L : List En} {words last : Int} (h : BufE Z M w B b L words last) (s : Step M w M' w' N) (hn : ∀ k, N k → ∃ cs t, w.heap[k]? = some (.cells cs t (0, 0)) ∧ t ≠ 169 ∧ t ≠ 43 ∧ t ≠ 153) : BufE Z M' w' B b L words last := by
 obtain ⟨mb, vl, es, clock, h1, h2, h3, h4, h5, h6, h7, h8, hz⟩ := h
 refine ⟨mb, vl, es, clock, s.keep h1 (fun hk => ?_), (s.mem _ (lt_of_get h1)).2 h2, (s.mem _ (lt_of_get h7.at_)).2 h3, h4, h5, h6.step s (fun c hc hk => ?_), h7.step s (fun hk => ?_), h8.step s (fun k v c hv hc hk => ?_), hz⟩
 ·obtain ⟨cs, t, h9, h10, _⟩ := hn _ hk
  rw [h1] at h9; simp at h9; exact h10 h9.2.symm
 ·obtain ⟨cs, t, h9, _, h10, _⟩ := hn _ hk
  exact h6.neT h9 h10 hc
 ·obtain ⟨cs, t, h9, _⟩ := hn _ hk
  rw [h7.at_] at h9; cases h9
 ·obtain ⟨cs, t, h9, _, _, h10⟩ := hn _ hk
  exact (h8.o k v hv).neT h9 h10 hc
def mineZ (M Z : PSet) : PSet := fun k => Z k ∧ M k
theorem ValAt.ex (zv : Value) (es : List MapEntry) (key : Value) : ∃ v, ValAt zv es key v := by
 by_cases h : ∃ e ∈ es, e.key = key
 ·obtain ⟨e, he, hk⟩ := h
  exact ⟨e.val, .inl ⟨e, he, hk, rfl⟩⟩
 ·exact ⟨zv, .inr ⟨fun e he hk => h ⟨e, he, hk⟩, rfl⟩⟩
def addE (last : Int) (e : En) : Int := if mayD e.1 ≠ 0 then mayD e.1 else if e.2 ≤ last then 12 else 0
def pkT (L : List En) (tl : List (Fd × Nat)) (i : Nat) (k : List UInt8) : List Po := pk L k ++ (((termsOf tl).take i).filter fun t => decide (keyE t = k)).map fun t => ((L.length : Int), posOf tl t)
theorem pkT_zero (L : List En) (tl : List (Fd × Nat)) (k : List UInt8) : pkT L tl 0 k = pk L k := by simp [pkT]
theorem pkT_succ {L : List En} {tl : List (Fd × Nat)} {i : Nat} {t : Fd} (h : (termsOf tl)[i]? = some t) (k : List UInt8) : pkT L tl (i + 1) k = if k = keyE t then pkT L tl i (keyE t) ++ [((L.length : Int), posOf tl t)] else pkT L tl i k := by
 unfold pkT
 rw [List.take_add_one, h, Option.toList_some, List.filter_append, List.map_append]
 split
 ·rename_i e; subst e; simp
 ·rename_i e
  have : ¬ keyE t = k := fun h => e h.symm
  simp [this]
theorem pkT_all {L : List En} {e : En} {i : Nat} (h : (termsOf (tlE e)).length ≤ i) (k : List UInt8) : pkT L (tlE e) i k = pk (L ++ [e]) k := by
 unfold pkT; rw [pk_snoc, List.take_of_length_le h]; rfl
theorem pkT_len {L : List En} (hF : ∀ x ∈ L, Fine x.1) (tl : List (Fd × Nat)) (i : Nat) (k : List UInt8) : (pkT L tl i k).length ≤ L.length + (termsOf tl).length := by
 unfold pkT
 have h1 := (pkF_at k L 0 hF).1
 have h2 := List.length_filter_le (fun t => decide (keyE t = k)) ((termsOf tl).take i)
 have h3 := List.length_take_le i (termsOf tl)
 have h4 : (pk L k).length ≤ L.length := h1
 simp only [List.length_append, List.length_map, List.length_take] at *; omega
theorem terms_len {d : Dc} (hF : Fine d) : (termsOf (tellsL d.2)).length ≤ 500 := by
 have h1 := (terms_up hF.noz).nodup.length_le_of_subset (l₂ := (tellsL d.2).map (·.1)) (fun t ht => (terms_mem hF.noz).1 ht)
 have := hF.many
 simp at h1; omega
theorem Fine.term {d : Dc} (hF : Fine d) {t : Fd} (h : t ∈ termsOf (tellsL d.2)) : t.1.length ≤ 12 ∧ t.2.length ≤ 30 := by
 obtain ⟨p, hp, rfl⟩ := List.mem_map.1 ((terms_mem hF.noz).1 h)
 exact hF.small p hp
theorem new_spec {Z M : PSet} {B : Nat} (w0 : World) (hM : Lt M w0) (hB : B ≤ w0.heap.size) (hZ : ∀ k, w0.heap.size ≤ k → Z k) :
  Spec Tryz.prog 56 #[] w0 (fun v w => ∃ M' b, v = .pointer (some ⟨b, 0, none⟩) ∧ Lt M' w ∧ BufE Z M' w B b [] 0 (-1) ∧ Step M w0 M' w none') := by
 refine spec_of (args := []) (fn := Tryz.f56) Tryz.func56 rfl (n := 4) Tryz.ntmps56 ?_
 have S : Step M w0 M w0 none' := (Step.refl _ _).widen (fun _ h => h.elim) (fun _ h => h.elim)
 refine T.seq ?_
 refine T.region ?_
 refine Rg.assign rfl rfl ?_
 refine Rg.nil ?_
 refine T.seq ?_
 refine T.region ?_
 refine Rg.makeMapW M Tryz.underlying167 rfl (fun mb w1m p1 q1 gW s1 => ?_)
 --@newM mb s1 gW
 --@step s1
 --@fact2 m_gW ;; (@s.mem _ (lt_of_get gW.at_)).2 m_gW ;; (@s.mem _ (lt_of_get gW.at_)).2 m_gW
 --@fact2 gW ;; gW.step0 @s ;; gW.step @s (by show ¬ (_ = _); omega)
 obtain ⟨M_W, eM_W⟩ : ∃ M', M' = ins M mb := ⟨_, rfl⟩
 rw [← eM_W] at s1
 have m_gW : M_W mb := by rw [eM_W]; exact .inl rfl
 replace hM := s1.lt hM
 have := S.size
 replace S := S.trans0 s1
 refine Rg.build (places := [(0, 1), (1, 1), (2, 1), (3, 1)]) Tryz.underlying169 I169 B169 rfl ⟨_, _, rfl, rfl, _, _, rfl, rfl, rfl⟩ (out := [.slice none 0 0, _, .int .i64 0, _]) ⟨1, [_], rfl, rfl, by simp [Value.cells], 3, [_], rfl, rfl, by simp [Value.cells], rfl⟩ ?_
 refine Rg.box M_W rfl rfl (fun b1_2 w1_2 p1_2 q1_2 g1_2 s1_2 => ?_)
 obtain ⟨M_1_2, eM_1_2⟩ : ∃ M', M' = ins M_W b1_2 := ⟨_, rfl⟩
 rw [← eM_1_2] at s1_2
 have m_g1_2 : M_1_2 b1_2 := by rw [eM_1_2]; exact .inl rfl
 change w1_2.heap[b1_2]? = some (.cells #[.slice none 0 0, .map (some mb), .int .i64 0, .int .i64 (-1)] _ _) at g1_2
 replace m_gW := (s1_2.mem _ (lt_of_get gW.at_)).2 m_gW
 replace gW := gW.step0 s1_2
 replace hM := s1_2.lt hM
 have := S.size
 replace S := S.trans0 s1_2
 refine Rg.assign rfl rfl ?_
 refine Rg.nil ?_
 refine T.ret ?_
 exact Kret1 rfl rfl ⟨_, _, rfl, hM, ⟨mb, _, [], 0, g1_2, m_g1_2, m_gW, hZ _ (by omega), hZ _ (by omega), Own.nil _ _ _ _ _, gW, poS_nil _ _ _ _, fun c hc => by cases hc⟩, S⟩
end Go.K
namespace Go.K
open Go.Proofs
namespace TKBldD
theorem I37 : TI Tryz.prog 37 (.slice none 0 0) 1 24 := by unfold TI; kernel_rfl
theorem I107 : TI Tryz.prog 107 (.slice none 0 0) 1 24 := by unfold TI; kernel_rfl
theorem I167 : TI Tryz.prog 167 (.map none) 1 8 := by unfold TI; kernel_rfl
theorem E107 : Enters Tryz.prog 107 := enters Tryz.func107 rfl (by decide)
theorem E108 : Enters Tryz.prog 108 := enters Tryz.func108 rfl (by decide)
theorem E109 : Enters Tryz.prog 109 := enters Tryz.func109 rfl (by decide)
theorem E110 : Enters Tryz.prog 110 := enters Tryz.func110 rfl (by decide)
end TKBldD
open TKBldD
set_option linter.unusedVariables false
set_option linter.unusedSimpArgs false
set_option maxRecDepth 10000
set_option maxHeartbeats 4000000 in
theorem add_spec {Z M : PSet} {B b : Nat} {L : List En} {words last : Int} {e : En} {v0 : Value} (w0 : World) (hM : Lt M w0) (hZ : ∀ k, w0.heap.size ≤ k → Z k) (hb : BufE Z M w0 B b L words last) (hBw : B ≤ w0.heap.size) (hv : RT.en.V M w0 e v0) (hl : ∀ f ∈ e.1.2, f.1.length ≤ 900000 ∧ f.2.length ≤ 900000) (hLF : ∀ x ∈ L, Fine x.1) (hLn : L.length ≤ 1000000) (hw : 0 ≤ words ∧ words ≤ 1000000000) :
  Spec Tryz.prog 57 #[.pointer (some ⟨b, 0, none⟩), v0] w0 (fun v w => ∃ M', Lt M' w ∧ Step M w0 M' w (mineZ M Z) ∧ v = .int .i64 (addE last e) ∧ (addE last e ≠ 0 → BufE Z M' w B b L words last) ∧ (addE last e = 0 → BufE Z M' w B b (L ++ [e]) (words + ((tlE e).length : Int)) e.2)) := by
 obtain ⟨mb, vl, es, clock, gb, m_gb, m_mb, hB, hBm, ho, hW, hR, zl⟩ := hb
 have nbm : b ≠ mb := fun h => by have := hW.at_; rw [← h, gb] at this; cases this
 refine spec_of (args := [_, _]) (fn := Tryz.f57) Tryz.func57 rfl (n := 89) Tryz.ntmps57 ?_
 have S : Step M w0 M w0 (mineZ M Z) := (Step.refl _ _).widen (fun _ h => h.elim) (fun _ h => h.2)
 refine T.seq ?_
 refine T.region ?_
 refine Rg.boxp (A := RT.en) rfl rfl hM hv rfl (fun u0 w1 hu0 s0 _ => ?_) --@step s0
 --@vf hu0*
 --@ptr RT.en ;; (e.1, e.2)
 have := lt_of_get gb
 replace m_gb := (s0.mem _ this).2 m_gb
 replace gb := s0.same0 gb
 replace ho := ho.step0 s0
 replace m_mb := (s0.mem _ (lt_of_get hW.at_)).2 m_mb
 replace hW := hW.step0 s0
 replace hR := hR.step0 s0
 replace hM := s0.lt hM
 have := S.size
 replace S := S.trans0 s0
 refine Rg.assign rfl rfl ?_
 refine Rg.nil ?_
 refine T.seq ?_
 refine T.seq ?_
 refine T.region ?_
 refine Rg.fieldAddr (M := M) (A := RT.en) (B := RT.dc) Tryz.underlying43 rfl rfl I41 (by decide) en0 rfl rfl (by decide) hu0 (Le.refl _ _) (fun u1_0 hu1_0 => ?_) --@ptr RT.dc ;; e.1
 refine Rg.loadagg (M := M) (A := RT.dc) Tryz.underlying41 rfl I41 (by decide) rfl rfl rfl hu1_0 (Le.refl _ _) (fun v1_1 hv1_1 => ?_)
 refine Rg.call rfl rfl E107 (may_spec _ hM hv1_1 hl) (fun r2 w2 hc => ?_)
 obtain ⟨rfl, s2⟩ := hc --@step s2
 have := lt_of_get gb
 replace m_gb := (s2.mem _ this).2 m_gb
 replace gb := s2.same0 gb
 replace hu0 := hu0.le (by decide) s2.le
 replace ho := ho.step0 s2
 replace m_mb := (s2.mem _ (lt_of_get hW.at_)).2 m_mb
 replace hW := hW.step0 s2
 replace hR := hR.step0 s2
 replace hM := s2.lt hM
 have := S.size
 replace S := S.trans0 s2
 refine Rg.assign rfl rfl ?_
 refine Rg.nil ?_
 refine T.seq ?_
 refine T.region ?_
 refine Rg.move rfl rfl ?_
 refine Rg.ine rfl rfl rfl ?_
 refine Rg.nil ?_
 refine T.ifp rfl (fun c2 => ?_) (fun c2 => ?_)
 ·refine T.seq ?_
  refine T.region ?_
  refine Rg.move rfl rfl ?_
  refine Rg.assign rfl rfl ?_
  refine Rg.nil ?_
  refine T.ret ?_
  have ea : addE last e = mayD e.1 := if_pos c2
  exact Kret1 rfl rfl ⟨_, hM, S, by rw [ea], fun _ => ⟨mb, vl, es, clock, gb, m_gb, m_mb, hB, hBm, ho, hW, hR, zl⟩, fun h => absurd (ea ▸ h) c2⟩
 ·have hF : Fine e.1 := fine_of (by simpa using c2)
  refine T.skip ?_
  refine T.seq ?_
  refine T.seq ?_
  apply T.drawQ0 mixed rfl rfl
  intro wD4 sA4
  have sD4 := sA4 M
  have := lt_of_get gb
  replace m_gb := (sD4.mem _ this).2 m_gb
  replace gb := sD4.same0 gb
  replace hu0 := hu0.le (by decide) sD4.le
  replace ho := ho.step0 sD4
  replace m_mb := (sD4.mem _ (lt_of_get hW.at_)).2 m_mb
  replace hW := hW.step0 sD4
  replace hR := hR.step0 sD4
  replace hM := sD4.lt hM
  have := S.size
  replace S := S.trans0 sD4
  refine Rg.fieldAddr (M := M) (A := RT.en) (B := RT.int .i64) Tryz.underlying43 rfl rfl I3 (by decide) en1 rfl rfl (by decide) hu0 (Le.refl _ _) (fun u4_0 hu4_0 => ?_) --@ptr RT.int .i64 ;; e.2
  refine Rg.nil ⟨rfl, rfl, rfl, ?_⟩
  refine Rg.loadi64 (M := M) Tryz.underlying3 rfl rfl (by assumption) (by repeat (first | exact Le.refl _ _ | refine Le.trans (Step.le (by assumption)) ?_)) (fun in4_1 => ?_)
  refine Rg.eqv (v' := .int .i64 (e.2)) rfl ?_
  replace in4_1 : -9223372036854775808 ≤ (e.2 : Int) ∧ e.2 ≤ 9223372036854775807 := in4_1
  refine Rg.nil ⟨rfl, rfl, rfl, ?_⟩
  refine Rg.move rfl rfl ?_
  refine Rg.nil ⟨rfl, rfl, rfl, ?_⟩
  refine Rg.nilCheck rfl ⟨_, rfl⟩ rfl ?_
  refine Rg.nil ⟨rfl, rfl, rfl, ?_⟩
  refine Rg.fieldc (o' := 3) Tryz.underlying169 rfl rfl I3 (by decide) rfl rfl ?_
  refine Rg.nil ⟨rfl, rfl, rfl, ?_⟩
  refine Rg.loadc Tryz.underlying3 rfl rfl rfl (by first | assumption | exact Step.same0 sD4 (by assumption)) rfl ?_
  refine Rg.nil ⟨rfl, rfl, rfl, ?_⟩
  refine Rg.ile rfl rfl rfl ?_
  refine Rg.nil ⟨rfl, rfl, rfl, ?_⟩
  refine QRg.nil ?_
  refine T.ifp rfl (fun c4 => ?_) (fun c4 => ?_)
  ·refine T.seq ?_
   refine T.region ?_
   refine Rg.assign rfl rfl ?_
   refine Rg.nil ?_
   refine T.ret ?_
   have ea : addE last e = 12 := by unfold addE; rw [if_neg (fun h => h (by simpa using c2)), if_pos c4]
   exact Kret1 rfl rfl ⟨_, hM, S, by rw [ea], fun _ => ⟨mb, vl, es, clock, gb, m_gb, m_mb, hB, hBm, ho, hW, hR, zl⟩, fun h => absurd (ea ▸ h) (by decide)⟩
  ·refine T.skip ?_
   refine T.seq ?_
   refine T.region ?_
   refine Rg.fieldAddr (M := M) (A := RT.en) (B := RT.dc) Tryz.underlying43 rfl rfl I41 (by decide) en0 rfl rfl (by decide) hu0 (Le.refl _ _) (fun u6_0 hu6_0 => ?_) --@ptr RT.dc ;; e.1
   refine Rg.loadagg (M := M) (A := RT.dc) Tryz.underlying41 rfl I41 (by decide) rfl rfl rfl hu6_0 (Le.refl _ _) (fun v6_1 hv6_1 => ?_)
   refine Rg.call rfl rfl E108 (invert_spec _ hM hv6_1 hF hl) (fun r6 w6 hc => ?_)
   obtain ⟨a6, b6, rfl, ha, hb6, s6⟩ := hc --@step s6
   --@vf ha hb6
   have := lt_of_get gb
   replace m_gb := (s6.mem _ this).2 m_gb
   replace gb := s6.same0 gb
   replace hu0 := hu0.le (by decide) s6.le
   replace ho := ho.step0 s6
   replace m_mb := (s6.mem _ (lt_of_get hW.at_)).2 m_mb
   replace hW := hW.step0 s6
   replace hR := hR.step0 s6
   replace hM := s6.lt hM
   have := S.size
   replace S := S.trans0 s6
   refine Rg.move rfl rfl ?_
   refine Rg.extract rfl rfl rfl ?_
   refine Rg.extract rfl rfl rfl ?_
   refine Rg.assign rfl rfl ?_
   refine Rg.assign rfl rfl ?_
   refine Rg.nil ?_
   refine T.seq ?_
   refine T.seq ?_
   refine T.region ?_
   refine Rg.move rfl rfl ?_
   refine Rg.lensl Tryz.underlying98 rfl ha rfl ?_
   refine Rg.move rfl rfl ?_
   refine Rg.nil ?_
   refine T.block ?_
   refine T.loop (σ := Nat) (fun q => [(0, .pointer (some ⟨b, 0, none⟩)), (3, u0), (7, b6), (30, a6), (31, .int .i64 ((termsOf (tlE e)).length : Int)), (32, .int .i64 (q : Int))]) (fun q w => ∃ M' es clock, Lt M' w ∧ Step M w0 M' w (mineZ M Z) ∧ PtrTo RT.en M' w u0 e ∧ (RT.fd.sl).V M' w (termsOf (tlE e)) a6 ∧ (((RT.int .i64).sl).sl).V M' w ((termsOf (tlE e)).map (posOf (tlE e))) b6 ∧ Buf Z M' w B b mb vl L words last (pkT L (tlE e) q) (fun x => x ∈ keysL L ∨ x ∈ ((termsOf (tlE e)).take q).map keyE) es clock ∧ q ≤ (termsOf (tlE e)).length) (fun q => (termsOf (tlE e)).length - q) 0 (.cons rfl (.cons rfl (.cons rfl (.cons rfl (.cons rfl (.cons rfl .nil)))))) ?_ ?_
   ·exact ⟨_, es, clock, hM, S, hu0, ha, hb6, ⟨gb, m_gb, m_mb, hB, hBm, ho, hW, hR.congr (fun k => pkT_zero _ _ _) (fun k => by simp), zl⟩, Nat.zero_le _⟩
   ·clear hM S hu0 ha hb6 gb m_gb m_mb ho hW hR
    rintro i w ⟨M1, es, clock, hM, S, hu0, ha, hb6, ⟨gb, m_gb, m_mb, _, _, ho, hW, hR, _⟩, hi⟩
    refine T.seq ?_
    refine T.region ?_
    refine Rg.ilt rfl rfl rfl ?_
    refine Rg.nil ?_
    refine T.seq ?_
    refine T.ifp rfl (fun c8 => ?_) (fun c8 => ?_)
    ·refine T.skip ?_
     refine T.seq ?_
     refine T.block ?_
     refine T.seq ?_
     refine T.region ?_
     refine Rg.move rfl rfl ?_
     refine Rg.idx (M := M1) Tryz.underlying98 I47 rfl rfl rfl ha (Le.refl _ _) (by omega) (fun u9_1 t hg9 hu9_1 => ?_)
     rw [Int.toNat_natCast] at hg9
     have htm := List.mem_of_getElem? hg9
     have hts := hF.term htm --@ptr RT.fd ;; t
     refine Rg.loadagg (M := M1) (A := RT.fd) Tryz.underlying47 rfl I47 (by decide) rfl rfl rfl hu9_1 (Le.refl _ _) (fun v9_2 hv9_2 => ?_)
     obtain rfl := fd_val hv9_2
     refine Rg.alloc M1 I47 rfl (fun b9_3 w9_3 p9_3 q9_3 g9_3 s9_3 => ?_)
     obtain ⟨M_9_3, eM_9_3⟩ : ∃ M', M' = ins M1 b9_3 := ⟨_, rfl⟩
     rw [← eM_9_3] at s9_3
     have m_g9_3 : M_9_3 b9_3 := by rw [eM_9_3]; exact .inl rfl
     change w9_3.heap[b9_3]? = some (.cells #[.string ⟨#[]⟩, .string ⟨#[]⟩] _ _) at g9_3
     have := lt_of_get gb
     replace m_gb := (s9_3.mem _ this).2 m_gb
     replace gb := s9_3.same0 gb
     replace hu0 := hu0.le (by decide) s9_3.le
     replace ha := ha.le s9_3.le
     replace hb6 := hb6.le s9_3.le
     replace ho := ho.step0 s9_3
     replace m_mb := (s9_3.mem _ (lt_of_get hW.at_)).2 m_mb
     replace hW := hW.step0 s9_3
     replace hR := hR.step0 s9_3
     replace hM := s9_3.lt hM
     have := S.size
     replace S := S.trans0 s9_3
     refine Rg.assign rfl rfl ?_
     refine Rg.storeaggc (M := M_9_3) (vs := [.string ⟨t.1.toArray⟩, .string ⟨t.2.toArray⟩]) I47 rfl rfl (V_ones rfl hv9_2) rfl rfl g9_3 m_g9_3 (fun w9 g9 s9 => ?_) --@wrote s9 g9_3 g9
     have := lt_of_get gb
     replace m_gb := (s9.mem _ this).2 m_gb
     replace gb := s9.keep gb (fun hk => by have hk : _ = _ := hk; omega)
     have := lt_of_get g9_3
     replace m_g9_3 := (s9.mem _ this).2 m_g9_3
     replace hu0 := hu0.le (by decide) s9.le
     replace ha := ha.le s9.le
     replace hb6 := hb6.le s9.le
     replace ho := ho.step s9 (fun c hc (h : _ = _) => by first | exact ho.neT gb (by decide) (h ▸ hc) | exact ho.neT g9_3 (by decide) (h ▸ hc))
     replace m_mb := (s9.mem _ (lt_of_get hW.at_)).2 m_mb
     replace hW := hW.step s9 (by first | exact fun h => ho.notMap hW.at_ h | exact fun (h : mb = b) => nbm h.symm | exact fun (h : mb = b9_3) => by have h9 := hW.at_; rw [h, g9_3] at h9; cases h9)
     replace hR := hR.step s9 (by first | exact fun k v c hv hc h => (hR.o k v hv).apartT ho (by decide) hc h | exact fun k v c hv hc (h : c = b) => (hR.o k v hv).neT gb (by decide) (h ▸ hc) | exact fun k v c hv hc (h : c = b9_3) => (hR.o k v hv).neT g9_3 (by decide) (h ▸ hc))
     replace hM := s9.lt hM
     have := S.size
     replace S := S.trans s9 (fun k hk h => by have h : _ = _ := h; subst h; first | (exfalso; omega) | (show _ ≤ _; omega) | exact ⟨by first | omega | assumption, (S.mem _ hk).1 ((s9.mem _ (lt_of_get g9_3)).1 m_g9_3)⟩ | exact .inl rfl | exact .inr rfl | exact .inr (.inl rfl) | exact .inr (.inr rfl) | exact rfl)
     have g9_3_ := g9
     clear g9_3
     have g9_3 := g9_3_
     clear g9_3_
     refine Rg.nil ?_
     refine T.seq ?_
     refine T.region ?_
     refine Rg.loadaggc (vs := [.string ⟨t.1.toArray⟩, .string ⟨t.2.toArray⟩]) Tryz.underlying47 rfl I47 rfl rfl rfl g9_3 ?_ --@drop g9_3
     refine Rg.call rfl rfl E74 (key_spec (t := t) _ hM (by omega) (by omega)) (fun r10 w10 hc => ?_)
     obtain ⟨rfl, s10⟩ := hc --@step s10
     have := lt_of_get gb
     replace m_gb := (s10.mem _ this).2 m_gb
     replace gb := s10.same0 gb
     replace hu0 := hu0.le (by decide) s10.le
     replace ha := ha.le s10.le
     replace hb6 := hb6.le s10.le
     replace ho := ho.step0 s10
     replace m_mb := (s10.mem _ (lt_of_get hW.at_)).2 m_mb
     replace hW := hW.step0 s10
     replace hR := hR.step0 s10
     replace hM := s10.lt hM
     have := S.size
     replace S := S.trans0 s10
     refine Rg.assign rfl rfl ?_
     refine Rg.nil ?_
     obtain ⟨v10, hva⟩ := ValAt.ex nilS es (sv (keyE t))
     apply T.drawF 21 [0, 1, 2, 3, 4, 5, 6, 7, 8, 9, 10] 2 (blk v10) mixed rfl rfl rfl rfl
     intro wD11 sA11
     have sD11 := sA11 M_9_3
     have := lt_of_get gb
     replace m_gb := (sD11.mem _ this).2 m_gb
     replace gb := sD11.same0 gb
     replace hu0 := hu0.le (by decide) sD11.le
     replace ha := ha.le sD11.le
     replace hb6 := hb6.le sD11.le
     replace ho := ho.step0 sD11
     replace m_mb := (sD11.mem _ (lt_of_get hW.at_)).2 m_mb
     replace hW := hW.step0 sD11
     replace hR := hR.step0 sD11
     replace hM := sD11.lt hM
     have := S.size
     replace S := S.trans0 sD11
     refine Rg.move rfl rfl ?_
     refine Rg.nil ⟨rfl, rfl, rfl, ?_⟩
     refine Rg.nilCheck rfl ⟨_, rfl⟩ rfl ?_
     refine Rg.nil ⟨rfl, rfl, rfl, ?_⟩
     refine Rg.fieldc (o' := 1) Tryz.underlying169 rfl rfl I167 (by decide) rfl rfl ?_
     refine Rg.nil ⟨rfl, rfl, rfl, ?_⟩
     refine Rg.loadc Tryz.underlying167 rfl rfl rfl (by first | assumption | exact Step.same0 sD11 (by assumption)) rfl ?_
     refine Rg.nil ⟨rfl, rfl, rfl, ?_⟩
     refine Rg.move rfl rfl ?_
     refine Rg.nil ⟨rfl, rfl, rfl, ?_⟩
     refine Rg.move rfl rfl ?_
     refine Rg.nil ⟨rfl, rfl, rfl, ?_⟩
     refine Rg.nilCheck rfl ⟨_, rfl⟩ rfl ?_
     refine Rg.nil ⟨rfl, rfl, rfl, ?_⟩
     refine Rg.fieldc (o' := 1) Tryz.underlying169 rfl rfl I167 (by decide) rfl rfl ?_
     refine Rg.nil ⟨rfl, rfl, rfl, ?_⟩
     refine Rg.loadc Tryz.underlying167 rfl rfl rfl (by first | assumption | exact Step.same0 sD11 (by assumption)) rfl ?_
     refine Rg.nil ⟨rfl, rfl, rfl, ?_⟩
     refine Rg.move rfl rfl ?_
     refine Rg.nil ⟨rfl, rfl, rfl, ?_⟩
     obtain ⟨kl, hkl⟩ := sv_key (keyE t) (by unfold keyE; simp; omega)
     refine Rg.lookupW Tryz.underlying167 strKeyed I107 rfl rfl rfl hkl hW (fun v10' hva' => ?_)
     obtain rfl : v10 = v10' := hW.val_one hva hva'
     have hpl := pkT_len hLF (tlE e) i (keyE t)
     have htl : (termsOf (tlE e)).length ≤ 500 := terms_len hF
     refine Rg.nil ⟨rfl, rfl, rfl, ?_⟩
     refine Rg.move rfl rfl ?_
     refine Rg.nil ⟨rfl, rfl, rfl, ?_⟩
     refine Rg.nilCheck rfl ⟨_, rfl⟩ rfl ?_
     refine Rg.nil ⟨rfl, rfl, rfl, ?_⟩
     refine Rg.fieldc (o' := 0) Tryz.underlying169 rfl rfl I37 (by decide) rfl rfl ?_
     refine Rg.nil ⟨rfl, rfl, rfl, ?_⟩
     refine Rg.loadc Tryz.underlying37 rfl rfl rfl (by first | assumption | exact Step.same0 sD11 (by assumption)) rfl ?_
     refine Rg.nil ⟨rfl, rfl, rfl, ?_⟩
     refine Rg.lenown Tryz.underlying37 rfl ho rfl ?_
     refine Rg.nil ⟨rfl, rfl, rfl, ?_⟩
     refine Rg.move rfl rfl ?_
     refine Rg.nil ⟨rfl, rfl, rfl, ?_⟩
     refine Rg.move rfl rfl ?_
     refine Rg.nil ⟨rfl, rfl, rfl, ?_⟩
     refine Rg.idx (M := M_9_3) Tryz.underlying171 I32 rfl rfl rfl hb6 (Le.refl _ _) (by simp; omega) (fun u18 ps hg18 hu18 => ?_)
     rw [Int.toNat_natCast, List.getElem?_map, hg9] at hg18
     obtain rfl := Option.some.inj hg18 --@ptr ((RT.int .i64).sl) ;; posOf (tlE e) t
     refine Rg.nil ⟨rfl, rfl, rfl, ?_⟩
     refine Rg.load (M := M_9_3) Tryz.underlying32 rfl rfl rfl rfl rfl hu18 (Le.refl _ _) (fun v19 hv19 => ?_)
     refine Rg.nil ⟨rfl, rfl, rfl, ?_⟩
     refine Rg.build (places := [(0, 1), (1, 1)]) Tryz.underlying153 I153 B153 rfl ⟨_, _, rfl, rfl, _, _, rfl, rfl, rfl⟩ (out := [_, _]) ⟨0, [_], rfl, rfl, by simp [Value.cells], 1, [_], rfl, V_cells hv19, by simp [Value.cells], rfl⟩ ?_
     have hpo : RT.po.V M_9_3 _ ((L.length : Int), posOf (tlE e) t) _ := V_pair_mk (V_i64 (by omega)) hv19 rfl rfl rfl rfl
     refine Rg.nil ⟨rfl, rfl, rfl, ?_⟩
     refine QRg.nil ?_
     have hov := hR.o _ _ hva
     refine ⟨Floats.all ⟨FloatOk.move, ⟨FloatOk.nilCheck rfl, ⟨FloatOk.field Tryz.underlying169 rfl I167 (by decide), ⟨FloatOk.load rfl gb (fun h => hov.neT gb (by decide) h), ⟨FloatOk.move, ⟨FloatOk.move, ⟨FloatOk.nilCheck rfl, ⟨FloatOk.field Tryz.underlying169 rfl I167 (by decide), ⟨FloatOk.load rfl gb (fun h => hov.neT gb (by decide) h), ⟨FloatOk.move, ⟨FloatOk.lookupW Tryz.underlying167 strKeyed I107 rfl rfl hkl hW (fun h => hov.notMap hW.at_ h), trivial⟩⟩⟩⟩⟩⟩⟩⟩⟩⟩⟩, ?_⟩
     have kp := Keep.refl (blk v10) wD11
     refine Rg.sl1 (A := RT.po) (hn := by decide) (M := M_9_3) Tryz.underlying107 I153 (by decide) rfl rfl hM (hpo) (.inl rfl) (fun u11_21 w11_21 hu11_21 s11_21 => ?_)
     have := lt_of_get gb
     replace m_gb := (s11_21.mem _ this).2 m_gb
     replace gb := s11_21.same0 gb
     replace hu0 := hu0.le (by decide) s11_21.le
     replace ha := ha.le s11_21.le
     replace hb6 := hb6.le s11_21.le
     replace ho := ho.step0 s11_21
     replace m_mb := (s11_21.mem _ (lt_of_get hW.at_)).2 m_mb
     replace hW := hW.step0 s11_21
     replace hR := hR.step0 s11_21
     replace hM := s11_21.lt hM
     have := S.size
     replace S := S.trans0 s11_21
     refine (fun (kp : Keep _ _ _) => Rg.nil ⟨rfl, rfl, fun _ => kp, ?_⟩) (by first | exact kp | exact kp.go0 (by assumption) | exact kp.goN (by assumption) | exact kp.go (by assumption) (fun _ _ h => by first | exact h | exact h.elim))
     refine Rg.appendF (M := M_9_3) (base := B) Tryz.underlying107 I153 rfl rfl rfl rfl (hR.o _ _ hva) hu11_21 (Le.refl _ _) (by simp; omega) (by simp; omega) (by have := S.size; omega) (fun v22 w22 ho22 s22 hF22 => ?_)
     have hov := hR.o _ _ hva
     have hat22 := hW.at_
     have hmapb : v10.ownBlock ≠ some mb := hov.notMap hW.at_
     have ho22' := ho.step s22 (fun c hc h => ho.apartT hov (by decide) hc h)
     have m_mb22 := (s22.mem _ (lt_of_get hW.at_)).2 m_mb
     have hW22 := hW.step s22 hmapb
     have gb22 := s22.keep gb (fun h => hov.neT gb (by decide) h)
     have m_gb22 := (s22.mem _ (lt_of_get gb)).2 m_gb
     have S22 := S.trans s22 (fun k hk h => ⟨hR.z _ _ k hva h, (S.mem k hk).1 (hov.mut_ k h)⟩)
     have hM22 := s22.lt hM
     replace hu0 := hu0.le (by decide) s22.le
     replace ha := ha.le s22.le
     replace hb6 := hb6.le s22.le
     refine (fun (kp : Keep _ _ _) => Rg.nil ⟨rfl, rfl, fun _ => kp, ?_⟩) (by first | exact kp | exact kp.go0 (by assumption) | exact kp.goN (by assumption) | exact kp.go (by assumption) (fun _ _ h => by first | exact h | exact h.elim))
     refine Rg.updateW Tryz.underlying167 strKeyed rfl rfl rfl hkl hW22 m_mb22 (fun w23 es23 cl23 hW23 hk23 hval23 s23 => ?_)
     have hR23 := hR.put (fun c hc => hZ c (by have := S.size; omega)) hva ho22 s22 hF22 hW22.at_ s23 hval23 hk23
     replace hu0 := hu0.le (by decide) s23.le
     replace ha := ha.le s23.le
     replace hb6 := hb6.le s23.le
     have ho23 := ho22'.step s23 (fun c hc (h : c = mb) => ho22'.notMap hW22.at_ (h ▸ hc))
     have gb23 := s23.keep gb22 nbm
     have m_gb23 := (s23.mem _ (lt_of_get gb22)).2 m_gb22
     have m_mb23 := (s23.mem _ (lt_of_get hW22.at_)).2 m_mb22
     have hM23 := s23.lt hM22
     have S23 := S22.trans s23 (fun k hk (h : k = mb) => ⟨by rw [h]; exact hBm, (S22.mem k hk).1 (by rw [h]; exact m_mb22)⟩)
     refine Rg.nil ⟨rfl, rfl, fun h => absurd rfl h, ?_⟩
     refine TRg.nil ?_
     refine T.region ?_
     refine Rg.iadd rfl rfl rfl (by omega) ?_
     refine Rg.move rfl rfl ?_
     refine Rg.nil ?_
     refine ⟨rfl, i + 1, (.cons rfl (.cons rfl (.cons rfl (.cons rfl (.cons rfl (.cons rfl .nil)))))), ?_, ?_⟩
     ·exact ⟨_, es23, cl23, hM23, S23, hu0, ha, hb6, ⟨gb23, m_gb23, m_mb23, hB, hBm, ho23, hW23, hR23.congr (fun k => pkT_succ hg9 k) (fun k => by rw [List.take_add_one, hg9, Option.toList_some, List.map_append, List.mem_append, or_assoc]; simp), zl⟩, by omega⟩
     ·omega
    ·refine T.exit ?_
     refine T.seq ?_
     apply T.drawF 6 [0, 1, 2, 3, 4] 3 (blk vl) mixed rfl rfl rfl rfl
     intro wD13 sA13
     have sD13 := sA13 M1
     have := lt_of_get gb
     replace m_gb := (sD13.mem _ this).2 m_gb
     replace gb := sD13.same0 gb
     replace hu0 := hu0.le (by decide) sD13.le
     replace ha := ha.le sD13.le
     replace hb6 := hb6.le sD13.le
     replace ho := ho.step0 sD13
     replace m_mb := (sD13.mem _ (lt_of_get hW.at_)).2 m_mb
     replace hW := hW.step0 sD13
     replace hR := hR.step0 sD13
     replace hM := sD13.lt hM
     have := S.size
     replace S := S.trans0 sD13
     refine Rg.move rfl rfl ?_
     refine Rg.nil ⟨rfl, rfl, rfl, ?_⟩
     refine Rg.move rfl rfl ?_
     refine Rg.nil ⟨rfl, rfl, rfl, ?_⟩
     refine Rg.nilCheck rfl ⟨_, rfl⟩ rfl ?_
     refine Rg.nil ⟨rfl, rfl, rfl, ?_⟩
     refine Rg.fieldc (o' := 0) Tryz.underlying169 rfl rfl I37 (by decide) rfl rfl ?_
     refine Rg.nil ⟨rfl, rfl, rfl, ?_⟩
     refine Rg.loadc Tryz.underlying37 rfl rfl rfl gb rfl ?_
     refine Rg.eqv (v' := vl) rfl ?_
     refine Rg.nil ⟨rfl, rfl, rfl, ?_⟩
     refine Rg.loadagg (M := M1) (A := RT.en) Tryz.underlying43 rfl I43 (by decide) rfl rfl rfl hu0 (Le.refl _ _) (fun v13_5 hv13_5 => ?_)
     refine Rg.nil ⟨rfl, rfl, rfl, ?_⟩
     refine QRg.nil ?_
     refine ⟨Floats.all ⟨FloatOk.move, ⟨FloatOk.move, ⟨FloatOk.nilCheck rfl, ⟨FloatOk.field Tryz.underlying169 rfl I37 (by decide), ⟨FloatOk.load rfl gb (fun h => ho.neT gb (by decide) h), trivial⟩⟩⟩⟩⟩, ?_⟩
     have kp := Keep.refl (blk vl) wD13
     refine Rg.call rfl rfl E109 (own_spec _ hM hv13_5 (by have := hF.few; omega)) (fun v13_6 w13 hc => ?_)
     obtain ⟨hv13_6, s13⟩ := hc --@step s13
     --@vf hv13_6
     have := lt_of_get gb
     replace m_gb := (s13.mem _ this).2 m_gb
     replace gb := s13.same0 gb
     replace hu0 := hu0.le (by decide) s13.le
     replace ha := ha.le s13.le
     replace hb6 := hb6.le s13.le
     replace ho := ho.step0 s13
     replace m_mb := (s13.mem _ (lt_of_get hW.at_)).2 m_mb
     replace hW := hW.step0 s13
     replace hR := hR.step0 s13
     replace hM := s13.lt hM
     have := S.size
     replace S := S.trans0 s13
     refine (fun (kp : Keep _ _ _) => Rg.nil ⟨rfl, rfl, fun _ => kp, ?_⟩) (by first | exact kp | exact kp.go0 (by assumption) | exact kp.goN (by assumption) | exact kp.go (by assumption) (fun _ _ h => by first | exact h | exact h.elim))
     refine Rg.sl1 (A := RT.en) (hn := by decide) (M := M1) Tryz.underlying37 I43 (by decide) rfl rfl hM (hv13_6) (.inl rfl) (fun u13_7 w13_7 hu13_7 s13_7 => ?_)
     have := lt_of_get gb
     replace m_gb := (s13_7.mem _ this).2 m_gb
     replace gb := s13_7.same0 gb
     replace hu0 := hu0.le (by decide) s13_7.le
     replace ha := ha.le s13_7.le
     replace hb6 := hb6.le s13_7.le
     replace hv13_6 := hv13_6.le s13_7.le
     replace ho := ho.step0 s13_7
     replace m_mb := (s13_7.mem _ (lt_of_get hW.at_)).2 m_mb
     replace hW := hW.step0 s13_7
     replace hR := hR.step0 s13_7
     replace hM := s13_7.lt hM
     have := S.size
     replace S := S.trans0 s13_7
     refine (fun (kp : Keep _ _ _) => Rg.nil ⟨rfl, rfl, fun _ => kp, ?_⟩) (by first | exact kp | exact kp.go0 (by assumption) | exact kp.goN (by assumption) | exact kp.go (by assumption) (fun _ _ h => by first | exact h | exact h.elim))
     refine Rg.appendF (M := M1) (base := B) Tryz.underlying37 I43 rfl rfl rfl rfl ho hu13_7 (Le.refl _ _) (by simp; omega) (by simp; omega) (by have := S.size; omega) (fun u13_8 w13_8 ho13_8 s13_8 hF13 => ?_)
     replace m_gb := (s13_8.mem _ (lt_of_get gb)).2 m_gb
     have zl' : ∀ c, u13_8.ownBlock = some c → Z c := fun c hc => by
      rcases hF13 c hc with h | h
      ·exact hZ c (by have := S.size; omega)
      ·exact zl c h
     replace hR := hR.step s13_8 (fun k v c hv hc h => (hR.o k v hv).apartT ho (by decide) hc h)
     replace m_mb := (s13_8.mem _ (lt_of_get hW.at_)).2 m_mb
     replace hW := hW.step s13_8 (fun h => ho.notMap hW.at_ h)
     replace gb := s13_8.keep gb (fun h => ho.neT gb (by decide) h)
     replace hu0 := hu0.le (by decide) s13_8.le
     replace S := S.trans s13_8 (fun k hk h => ⟨zl k h, (S.mem k hk).1 (ho.mut_ k h)⟩)
     replace hM := s13_8.lt hM
     replace ho := ho13_8
     obtain ⟨M13, eM13⟩ : ∃ M', M' = insV M1 u13_8 := ⟨_, rfl⟩
     rw [← eM13] at hR m_mb hu0 S hM ho m_gb
     --@M M13
     --@drop ha hb6 hv13_6 hu13_7
     refine (fun (kp : Keep _ _ _) => Rg.nil ⟨rfl, rfl, fun _ => kp, ?_⟩) (by first | exact kp | exact kp.go0 (by assumption) | exact kp.goN (by assumption) | exact kp.go (by assumption) (fun _ _ h => by first | exact h | exact h.elim))
     refine Rg.nilCheck rfl ⟨_, rfl⟩ rfl ?_
     refine Rg.nil ⟨rfl, rfl, fun h => absurd rfl h, ?_⟩
     refine Rg.fieldc (o' := 0) Tryz.underlying169 rfl rfl I37 (by decide) rfl rfl ?_
     refine Rg.nil ⟨rfl, rfl, fun h => absurd rfl h, ?_⟩
     refine Rg.storec (M := M13) I37 rfl rfl gb rfl (by obtain ⟨_, _, he, _⟩ := ho.isSlice; rw [he]; rfl) m_gb (fun w13_11 g13_11 s13_11 => ?_)
     change w13_11.heap[_]? = some (Obj.cells #[u13_8, .map (some mb), .int .i64 words, .int .i64 last] _ _) at g13_11
     have := lt_of_get gb
     replace m_gb := (s13_11.mem _ this).2 m_gb
     replace hu0 := hu0.le (by decide) s13_11.le
     replace ho := ho.step s13_11 (fun c hc (h : _ = _) => by first | exact ho.neT gb (by decide) (h ▸ hc) | exact ho.neT g9_3 (by decide) (h ▸ hc))
     replace m_mb := (s13_11.mem _ (lt_of_get hW.at_)).2 m_mb
     replace hW := hW.step s13_11 (by first | exact fun h => ho.notMap hW.at_ h | exact fun (h : mb = b) => nbm h.symm | exact fun (h : mb = b9_3) => by have h9 := hW.at_; rw [h, g9_3] at h9; cases h9)
     replace hR := hR.step s13_11 (by first | exact fun k v c hv hc h => (hR.o k v hv).apartT ho (by decide) hc h | exact fun k v c hv hc (h : c = b) => (hR.o k v hv).neT gb (by decide) (h ▸ hc) | exact fun k v c hv hc (h : c = b9_3) => (hR.o k v hv).neT g9_3 (by decide) (h ▸ hc))
     replace hM := s13_11.lt hM
     have := S.size
     replace S := S.trans s13_11 (fun k hk h => by have h : _ = _ := h; subst h; first | (exfalso; omega) | (show _ ≤ _; omega) | exact ⟨by first | omega | assumption, (S.mem _ hk).1 ((s13_11.mem _ (lt_of_get gb)).1 m_gb)⟩ | exact .inl rfl | exact .inr rfl | exact .inr (.inl rfl) | exact .inr (.inr rfl) | exact rfl)
     have gb_ := g13_11
     clear gb
     have gb := gb_
     clear gb_
     refine Rg.nil ⟨rfl, rfl, fun h => absurd rfl h, ?_⟩
     refine TRg.nil ?_
     refine T.seq ?_
     apply T.drawF 6 [0, 1, 2, 3] 1 none' mixed rfl rfl rfl rfl
     intro wD14 sA14
     have sD14 := sA14 M13
     have := lt_of_get gb
     replace m_gb := (sD14.mem _ this).2 m_gb
     replace gb := sD14.same0 gb
     replace hu0 := hu0.le (by decide) sD14.le
     replace ho := ho.step0 sD14
     replace m_mb := (sD14.mem _ (lt_of_get hW.at_)).2 m_mb
     replace hW := hW.step0 sD14
     replace hR := hR.step0 sD14
     replace hM := sD14.lt hM
     have := S.size
     replace S := S.trans0 sD14
     refine Rg.move rfl rfl ?_
     refine Rg.nil ⟨rfl, rfl, rfl, ?_⟩
     refine Rg.nilCheck rfl ⟨_, rfl⟩ rfl ?_
     refine Rg.nil ⟨rfl, rfl, rfl, ?_⟩
     refine Rg.fieldc (o' := 2) Tryz.underlying169 rfl rfl I3 (by decide) rfl rfl ?_
     refine Rg.nil ⟨rfl, rfl, rfl, ?_⟩
     refine Rg.loadc Tryz.underlying3 rfl rfl rfl (by first | assumption | exact Step.same0 sD14 (by assumption)) rfl ?_
     refine Rg.nil ⟨rfl, rfl, rfl, ?_⟩
     refine Rg.fieldAddr (M := M13) (A := RT.en) (B := RT.dc) Tryz.underlying43 rfl rfl I41 (by decide) en0 rfl rfl (by decide) hu0 (Le.refl _ _) (fun u14_4 hu14_4 => ?_) --@ptr RT.dc ;; e.1
     refine Rg.nil ⟨rfl, rfl, rfl, ?_⟩
     refine Rg.loadagg (M := M13) (A := RT.dc) Tryz.underlying41 rfl I41 (by decide) rfl rfl rfl hu14_4 (Le.refl _ _) (fun v14_5 hv14_5 => ?_)
     refine Rg.nil ⟨rfl, rfl, rfl, ?_⟩
     refine QRg.nil ?_
     refine ⟨Floats.all ⟨FloatOk.move, ⟨FloatOk.nilCheck rfl, ⟨FloatOk.field Tryz.underlying169 rfl I3 (by decide), ⟨FloatOk.load rfl gb (fun h => h), trivial⟩⟩⟩⟩, ?_⟩
     have kp := Keep.refl none' wD14
     refine Rg.call rfl rfl E110 (weight_spec _ hM hv14_5 hl hF.few) (fun r14 w14 hc => ?_)
     obtain ⟨rfl, s14⟩ := hc --@step s14
     have := lt_of_get gb
     replace m_gb := (s14.mem _ this).2 m_gb
     replace gb := s14.same0 gb
     replace hu0 := hu0.le (by decide) s14.le
     replace ho := ho.step0 s14
     replace m_mb := (s14.mem _ (lt_of_get hW.at_)).2 m_mb
     replace hW := hW.step0 s14
     replace hR := hR.step0 s14
     replace hM := s14.lt hM
     have := S.size
     replace S := S.trans0 s14
     refine (fun (kp : Keep _ _ _) => Rg.nil ⟨rfl, rfl, fun _ => kp, ?_⟩) (by first | exact kp | exact kp.go0 (by assumption) | exact kp.goN (by assumption) | exact kp.go (by assumption) (fun _ _ h => by first | exact h | exact h.elim))
     have := hF.many
     refine Rg.iadd rfl rfl rfl (by omega) ?_
     refine Rg.nil ⟨rfl, rfl, fun h => absurd rfl h, ?_⟩
     refine Rg.nilCheck rfl ⟨_, rfl⟩ rfl ?_
     refine Rg.nil ⟨rfl, rfl, fun h => absurd rfl h, ?_⟩
     refine Rg.fieldc (o' := 2) Tryz.underlying169 rfl rfl I3 (by decide) rfl rfl ?_
     refine Rg.nil ⟨rfl, rfl, fun h => absurd rfl h, ?_⟩
     refine Rg.storec (M := M13) I3 rfl rfl gb rfl (rfl) m_gb (fun w14_10 g14_10 s14_10 => ?_)
     change w14_10.heap[_]? = some (Obj.cells #[u13_8, .map (some mb), .int .i64 (words + ((tlE e).length : Int)), .int .i64 last] _ _) at g14_10
     have := lt_of_get gb
     replace m_gb := (s14_10.mem _ this).2 m_gb
     replace hu0 := hu0.le (by decide) s14_10.le
     replace ho := ho.step s14_10 (fun c hc (h : _ = _) => by first | exact ho.neT gb (by decide) (h ▸ hc) | exact ho.neT g9_3 (by decide) (h ▸ hc))
     replace m_mb := (s14_10.mem _ (lt_of_get hW.at_)).2 m_mb
     replace hW := hW.step s14_10 (by first | exact fun h => ho.notMap hW.at_ h | exact fun (h : mb = b) => nbm h.symm | exact fun (h : mb = b9_3) => by have h9 := hW.at_; rw [h, g9_3] at h9; cases h9)
     replace hR := hR.step s14_10 (by first | exact fun k v c hv hc h => (hR.o k v hv).apartT ho (by decide) hc h | exact fun k v c hv hc (h : c = b) => (hR.o k v hv).neT gb (by decide) (h ▸ hc) | exact fun k v c hv hc (h : c = b9_3) => (hR.o k v hv).neT g9_3 (by decide) (h ▸ hc))
     replace hM := s14_10.lt hM
     have := S.size
     replace S := S.trans s14_10 (fun k hk h => by have h : _ = _ := h; subst h; first | (exfalso; omega) | (show _ ≤ _; omega) | exact ⟨by first | omega | assumption, (S.mem _ hk).1 ((s14_10.mem _ (lt_of_get gb)).1 m_gb)⟩ | exact .inl rfl | exact .inr rfl | exact .inr (.inl rfl) | exact .inr (.inr rfl) | exact rfl)
     have gb_ := g14_10
     clear gb
     have gb := gb_
     clear gb_
     refine Rg.nil ⟨rfl, rfl, fun h => absurd rfl h, ?_⟩
     refine TRg.nil ?_
     refine T.seq ?_
     refine T.region ?_
     refine Rg.move rfl rfl ?_
     refine Rg.fieldAddr (M := M13) (A := RT.en) (B := RT.int .i64) Tryz.underlying43 rfl rfl I3 (by decide) en1 rfl rfl (by decide) hu0 (Le.refl _ _) (fun u15_1 hu15_1 => ?_) --@ptr RT.int .i64 ;; e.2
     refine Rg.loadi64 (M := M13) Tryz.underlying3 rfl rfl (by assumption) (by repeat (first | exact Le.refl _ _ | refine Le.trans (Step.le (by assumption)) ?_)) (fun in15_2 => ?_)
     refine Rg.eqv (v' := .int .i64 (e.2)) rfl ?_
     replace in15_2 : -9223372036854775808 ≤ (e.2 : Int) ∧ e.2 ≤ 9223372036854775807 := in15_2
     refine Rg.nilCheck rfl ⟨_, rfl⟩ rfl ?_
     refine Rg.fieldc (o' := 3) Tryz.underlying169 rfl rfl I3 (by decide) rfl rfl ?_
     refine Rg.storec (M := M13) I3 rfl rfl gb rfl (rfl) m_gb (fun w15_5 g15_5 s15_5 => ?_)
     change w15_5.heap[_]? = some (Obj.cells #[u13_8, .map (some mb), .int .i64 (words + ((tlE e).length : Int)), .int .i64 e.2] _ _) at g15_5
     have := lt_of_get gb
     replace m_gb := (s15_5.mem _ this).2 m_gb
     replace hu0 := hu0.le (by decide) s15_5.le
     replace ho := ho.step s15_5 (fun c hc (h : _ = _) => by first | exact ho.neT gb (by decide) (h ▸ hc) | exact ho.neT g9_3 (by decide) (h ▸ hc))
     replace m_mb := (s15_5.mem _ (lt_of_get hW.at_)).2 m_mb
     replace hW := hW.step s15_5 (by first | exact fun h => ho.notMap hW.at_ h | exact fun (h : mb = b) => nbm h.symm | exact fun (h : mb = b9_3) => by have h9 := hW.at_; rw [h, g9_3] at h9; cases h9)
     replace hR := hR.step s15_5 (by first | exact fun k v c hv hc h => (hR.o k v hv).apartT ho (by decide) hc h | exact fun k v c hv hc (h : c = b) => (hR.o k v hv).neT gb (by decide) (h ▸ hc) | exact fun k v c hv hc (h : c = b9_3) => (hR.o k v hv).neT g9_3 (by decide) (h ▸ hc))
     replace hM := s15_5.lt hM
     have := S.size
     replace S := S.trans s15_5 (fun k hk h => by have h : _ = _ := h; subst h; first | (exfalso; omega) | (show _ ≤ _; omega) | exact ⟨by first | omega | assumption, (S.mem _ hk).1 ((s15_5.mem _ (lt_of_get gb)).1 m_gb)⟩ | exact .inl rfl | exact .inr rfl | exact .inr (.inl rfl) | exact .inr (.inr rfl) | exact rfl)
     have gb_ := g15_5
     clear gb
     have gb := gb_
     clear gb_
     refine Rg.nil ?_
     refine T.seq ?_
     refine T.region ?_
     refine Rg.assign rfl rfl ?_
     refine Rg.nil ?_
     refine T.ret ?_
     have ea : addE last e = 0 := by unfold addE; rw [if_neg (fun h => h (by simpa using c2)), if_neg c4]
     exact Kret1 rfl rfl ⟨_, hM, S, by rw [ea], fun h => absurd ea h, fun _ => ⟨mb, _, es, clock, gb, m_gb, m_mb, hB, hBm, ho, hW, hR.congr (fun k => (pkT_all (by omega) k).symm) (fun k => by rw [keysL_snoc, List.mem_append, List.take_of_length_le (by omega)]), zl'⟩⟩
end Go.K
namespace Go.K
open Go.Proofs
namespace TKBldE
theorem I107 : TI Tryz.prog 107 (.slice none 0 0) 1 24 := by unfold TI; kernel_rfl
theorem I167 : TI Tryz.prog 167 (.map none) 1 8 := by unfold TI; kernel_rfl
theorem E63 : Enters Tryz.prog 63 := enters Tryz.func63 rfl (by decide)
theorem E111 : Enters Tryz.prog 111 := enters Tryz.func111 rfl (by decide)
theorem E112 : Enters Tryz.prog 112 := enters Tryz.func112 rfl (by decide)
end TKBldE
open TKBldE
set_option linter.unusedVariables false
set_option linter.unusedSimpArgs false
set_option maxRecDepth 10000
theorem MapW.keysS {P : Program} {kt : TypeId} {w : World} {b clock : Nat} {es : List MapEntry} (hk : P.underlying kt = some .string) (h : MapW P kt w b es clock) : ∃ ks : List (List UInt8), es.map (·.key) = ks.map sv ∧ ks.Nodup := by
 have key : ∀ es : List MapEntry, (∀ e ∈ es, ∃ l, keyOf P kt e.key = some l) → ∃ ks : List (List UInt8), es.map (·.key) = ks.map sv := by
  intro es
  induction es with
  |nil => exact fun _ => ⟨[], rfl⟩
  |cons e es ih =>
   intro h
   obtain ⟨ks, h1⟩ := ih fun x hx => h x (List.mem_cons_of_mem _ hx)
   obtain ⟨l, hl⟩ := h e (List.mem_cons_self ..)
   obtain ⟨x, h3, _, h4⟩ := Maps.keyOf_str hk hl
   exact ⟨x :: ks, by simp only [List.map_cons, h1, h3]⟩
 obtain ⟨ks, h1⟩ := key es h.ok
 refine ⟨ks, h1, ?_⟩
 have h3 := List.pairwise_map.2 h.keys
 rw [h1] at h3
 exact (List.pairwise_map.1 h3).imp fun h e => h (by rw [e])
theorem allR_str {M : PSet} {w : World} : ∀ {l : List (List UInt8)}, (∀ x ∈ l, x.length ≤ 140737488355328) → AllR RT.str M w l (l.map Go.Proofs.encStr)
 |[], _ => rfl
 |x :: l, h => ⟨[.string ⟨x.toArray⟩], _, rfl, ⟨rfl, h x (List.mem_cons_self ..)⟩, allR_str fun y hy => h y (List.mem_cons_of_mem _ hy)⟩
theorem str_free (M : PSet) (w : World) (M' : PSet) (w' : World) (x : List UInt8) (vs : List Value) (h : RT.str.R M w x vs) : RT.str.R M' w' x vs := h
theorem keysL_small {L : List En} (hF : ∀ x ∈ L, Fine x.1) : ∀ k ∈ keysL L, k.length ≤ 43 := fun k hk => by
 obtain ⟨e, he, h1⟩ := List.mem_flatMap.1 hk
 obtain ⟨t, ht, rfl⟩ := List.mem_map.1 h1
 have := (hF e he).term ht
 unfold keyE; simp; omega
theorem keysL_len {L : List En} (hF : ∀ x ∈ L, Fine x.1) : (keysL L).length ≤ 500 * L.length := by
 induction L with
 |nil => simp [keysL]
 |cons e L ih =>
  have h1 := ih fun x hx => hF x (List.mem_cons_of_mem _ hx)
  have h2 := terms_len (hF e (List.mem_cons_self ..))
  show ((termsOf (tlE e)).map keyE ++ keysL L).length ≤ _
  rw [List.length_append, List.length_map, List.length_cons]
  have h2 : (termsOf (tlE e)).length ≤ 500 := h2
  omega
theorem bkeys_spec {Z M : PSet} {B b : Nat} {L : List En} {words last : Int} (w0 : World) (hM : Lt M w0) (hb : BufE Z M w0 B b L words last) (hF : ∀ x ∈ L, Fine x.1) (hLn : L.length ≤ 1000000) :
  Spec Tryz.prog 58 #[.pointer (some ⟨b, 0, none⟩)] w0 (fun v w => (RT.str.sl).V M w (keysOf L) v ∧ Step M w0 M w none') := by
 obtain ⟨mb, vl, es, clock, gb, m_gb, m_mb, hB, hBm, ho, hW, hR, zl⟩ := hb
 obtain ⟨ks, hks, hnd⟩ := hW.keysS Tryz.underlying9
 have hmem : ∀ x, x ∈ ks ↔ x ∈ keysL L := fun x => by
  rw [← hR.k x]
  constructor
  ·intro hx
   have : sv x ∈ es.map (·.key) := by rw [hks]; exact List.mem_map_of_mem hx
   obtain ⟨e, he, h⟩ := List.mem_map.1 this
   exact ⟨e, he, h⟩
  ·rintro ⟨e, he, h⟩
   have : sv x ∈ ks.map sv := by rw [← hks, ← h]; exact List.mem_map_of_mem he
   obtain ⟨y, hy, h1⟩ := List.mem_map.1 this
   rw [← sv_inj h1]; exact hy
 have hkn : ks.length ≤ 500000000 := by
  have h1 := hnd.length_le_of_subset (l₂ := keysL L) (fun x hx => (hmem x).1 hx)
  have h2 := keysL_len hF
  omega
 have hen : es.length = ks.length := by have := congrArg List.length hks; simpa using this
 refine spec_of (args := [_]) (fn := Tryz.f58) Tryz.func58 rfl (n := 9) Tryz.ntmps58 ?_
 have S : Step M w0 M w0 none' := (Step.refl _ _).widen (fun _ h => h.elim) (fun _ h => h.elim)
 refine T.seq ?_
 refine T.region ?_
 refine Rg.assign rfl rfl ?_
 refine Rg.nil ?_
 refine T.seq ?_
 refine T.region ?_
 refine Rg.move rfl rfl ?_
 refine Rg.nilCheck rfl ⟨_, rfl⟩ rfl ?_
 refine Rg.fieldc (o' := 1) Tryz.underlying169 rfl rfl I167 (by decide) rfl rfl ?_
 refine Rg.loadc Tryz.underlying167 rfl rfl rfl gb rfl ?_
 refine Rg.eqv (v' := .map (some mb)) rfl ?_
 refine Rg.call rfl rfl E112 (keysS_spec _ _) (fun r w1 hc => ?_)
 obtain ⟨rfl, hw1⟩ := hc
 have s1 : Step M w0 M w1 none' := by rw [hw1]; exact step_alloc _ w0 _
 have hbb := cell_of_alloc hw1 --@step s1
 have := lt_of_get gb
 replace m_gb := (s1.mem _ this).2 m_gb
 replace gb := s1.same0 gb
 replace m_mb := (s1.mem _ (lt_of_get hW.at_)).2 m_mb
 replace hW := hW.step0 s1
 replace hM := s1.lt hM
 have := S.size
 replace S := S.trans0 s1
 obtain ⟨m, hO, hperm, hml⟩ := hW.mapO Tryz.underlying9 m_mb (by unfold maxLen; omega) ks hks
 refine Rg.call rfl rfl E111 (sortedS_spec hO hbb (by omega)) (fun r2 w2 hc => ?_)
 obtain ⟨⟨ss, hss, hrow, _⟩, s2⟩ := hc
 have hsp : ss.Perm ks := hss.trans hperm
 have hmp := List.mergeSort_perm ss fun x y => decide (x ≤ y)
 have hkeys : (ss.mergeSort fun x y => decide (x ≤ y)) = keysOf L := up_one (up_sorted (hsp.nodup_iff.2 hnd)) (keys_up L) fun x => by rw [hmp.mem_iff, hsp.mem_iff, hmem, keys_mem]
 have hlen : ss.length = (keysOf L).length := by rw [← hkeys, List.length_mergeSort]
 rw [hkeys, hlen] at hrow
 have hkl2 : ∀ x ∈ keysOf L, x.length ≤ 140737488355328 := fun x hx => by have := keysL_small hF x (keys_mem.1 hx); omega
 have hown : Own RT.str 9 (blkM r2) w2 w1.heap.size r2 (keysOf L) := ⟨⟨_, hrow, allR_str hkl2⟩, fun b hb => hb⟩
 have hv2 : (RT.str.sl).V M w2 (keysOf L) r2 := hown.tell str_free (fun b hb h => by have := (hown.base b hb).1; have := hM b h; omega) (by have := hsp.length_eq; omega) --@step s2
 have := lt_of_get gb
 replace m_gb := (s2.mem _ this).2 m_gb
 replace gb := s2.same0 gb
 replace m_mb := (s2.mem _ (lt_of_get hW.at_)).2 m_mb
 replace hW := hW.step0 s2
 replace hM := s2.lt hM
 have := S.size
 replace S := S.trans0 s2
 refine Rg.assign rfl rfl ?_
 refine Rg.nil ?_
 refine T.ret ?_
 exact Kret1 rfl rfl ⟨hv2, S⟩
theorem bpost_spec {Z M : PSet} {B b : Nat} {L : List En} {words last : Int} {k : List UInt8} (w0 : World) (hM : Lt M w0) (hb : BufE Z M w0 B b L words last) (hF : ∀ x ∈ L, Fine x.1) (hLn : L.length ≤ 1000000) (hkl : k.length ≤ 140737488355328) :
  Spec Tryz.prog 59 #[.pointer (some ⟨b, 0, none⟩), sv k] w0 (fun v w => (RT.po.sl).V M w (pk L k) v ∧ Step M w0 M w none') := by
 have hM0 := hM
 obtain ⟨mb, vl, es, clock, gb, m_gb, m_mb, hB, hBm, ho, hW, hR, zl⟩ := hb
 obtain ⟨kl, hkk⟩ := sv_key k hkl
 obtain ⟨hpl, hpa⟩ := pkF_at k L 0 hF
 replace hpl : (pk L k).length ≤ L.length := hpl
 replace hpa : ∀ p ∈ pk L k, _ := hpa
 refine spec_of (args := [_, _]) (fn := Tryz.f59) Tryz.func59 rfl (n := 30) Tryz.ntmps59 ?_
 have S : Step M w0 M w0 none' := (Step.refl _ _).widen (fun _ h => h.elim) (fun _ h => h.elim)
 refine T.seq ?_
 refine T.region ?_
 refine Rg.assign rfl rfl ?_
 refine Rg.nil ?_
 refine T.seq ?_
 refine T.region ?_
 refine Rg.assign rfl rfl ?_
 refine Rg.nil ?_
 refine T.seq ?_
 refine T.seq ?_
 refine T.region ?_
 refine Rg.move rfl rfl ?_
 refine Rg.nilCheck rfl ⟨_, rfl⟩ rfl ?_
 refine Rg.fieldc (o' := 1) Tryz.underlying169 rfl rfl I167 (by decide) rfl rfl ?_
 refine Rg.loadc Tryz.underlying167 rfl rfl rfl gb rfl ?_
 refine Rg.eqv (v' := .map (some mb)) rfl ?_
 refine Rg.move rfl rfl ?_
 refine Rg.lookupW Tryz.underlying167 strKeyed I107 rfl rfl rfl hkk hW (fun v13 hva => ?_)
 have hov := hR.o _ _ hva
 have hvb : ∀ c, v13.ownBlock = some c → c < w0.heap.size := fun c hc => (hov.base c hc).2
 clear hR hW ho --@fact2 hov ;; hov.step0 @s ;; hov.step @s (fun c hc h => by have := hvb c hc; have := (hu.base c h).1; omega)
 --@drop gb
 refine Rg.lenown Tryz.underlying107 rfl hov rfl ?_
 refine Rg.move rfl rfl ?_
 refine Rg.nil ?_
 refine T.block ?_
 refine T.loop (σ := Nat × Value) (fun q => [(5, q.2), (13, v13), (14, .int .i64 ((pk L k).length : Int)), (15, .int .i64 (q.1 : Int))]) (fun q w => ∃ M', Lt M' w ∧ Step M w0 M' w none' ∧ Own RT.po 153 M' w w0.heap.size q.2 ((pk L k).take q.1) ∧ Own RT.po 153 M' w B v13 (pk L k) ∧ q.1 ≤ (pk L k).length) (fun q => (pk L k).length - q.1) (0, .slice none 0 0) (.cons rfl (.cons rfl (.cons rfl (.cons rfl .nil)))) ?_ ?_
 ·exact ⟨M, hM, S, Own.nil _ _ _ _ _, hov, Nat.zero_le _⟩
 ·clear hM S hov
  rintro ⟨i, u⟩ w ⟨M1, hM, S, hu, hov, hi⟩
  dsimp only at hu hi ⊢
  refine T.seq ?_
  refine T.region ?_
  refine Rg.ilt rfl rfl rfl ?_
  refine Rg.nil ?_
  refine T.seq ?_
  refine T.ifp rfl (fun c3 => ?_) (fun c3 => ?_)
  ·refine T.skip ?_
   refine T.seq ?_
   refine T.block ?_
   refine T.seq ?_
   refine T.region ?_
   refine Rg.idxO Tryz.underlying107 I153 (by decide) rfl rfl rfl hov (by omega) (fun u4 p hg4 hu4 => ?_)
   rw [Int.toNat_natCast] at hg4
   have hp := hpa p (List.mem_of_getElem? hg4)
   refine Rg.loadaggO (A := RT.po) Tryz.underlying153 rfl I153 rfl rfl rfl hu4 (fun v4 hv4 => ?_)
   refine Rg.newagg (A := RT.po) (M := M1) I153 rfl rfl rfl rfl rfl (by assumption) (Le.refl _ _) hM (fun u4_2 w4_2 hu4_2 s4_2 z4_2 => ?_)
   replace hu := hu.step0 s4_2
   replace hov := hov.step0 s4_2
   replace hM := s4_2.lt hM
   have := S.size
   replace S := S.trans0 s4_2
   refine Rg.nil ?_
   apply T.drawF 5 [0, 1, 2] 3 none' mixed rfl rfl rfl rfl
   intro wD5 sA5
   have sD5 := sA5 M1
   replace hu4_2 := hu4_2.le (by decide) sD5.le
   replace hu := hu.step0 sD5
   replace hov := hov.step0 sD5
   replace hM := sD5.lt hM
   have := S.size
   replace S := S.trans0 sD5
   refine Rg.move rfl rfl ?_
   refine Rg.nil ⟨rfl, rfl, rfl, ?_⟩
   refine Rg.fieldAddr (M := M1) (A := RT.po) (B := RT.int .i64) Tryz.underlying153 rfl rfl I3 (by decide) (po0) rfl rfl (by decide) (by assumption) (by repeat (first | exact Le.refl _ _ | refine Le.trans (Step.le (by assumption)) ?_)) (fun u5_1 hu5_1 => ?_)
   refine Rg.nil ⟨rfl, rfl, rfl, ?_⟩
   refine Rg.loadi64 (M := M1) Tryz.underlying3 rfl rfl (by assumption) (by repeat (first | exact Le.refl _ _ | refine Le.trans (Step.le (by assumption)) ?_)) (fun in5_2 => ?_)
   refine Rg.nil ⟨rfl, rfl, rfl, ?_⟩
   refine Rg.fieldAddr (M := M1) (A := RT.po) (B := (RT.int .i64).sl) Tryz.underlying153 rfl rfl I32 (by decide) (po1) rfl rfl (by decide) (by assumption) (by repeat (first | exact Le.refl _ _ | refine Le.trans (Step.le (by assumption)) ?_)) (fun u5_3 hu5_3 => ?_)
   refine Rg.nil ⟨rfl, rfl, rfl, ?_⟩
   refine Rg.load (M := M1) Tryz.underlying32 rfl rfl rfl rfl rfl (by assumption) (by repeat (first | exact Le.refl _ _ | refine Le.trans (Step.le (by assumption)) ?_)) (fun v5_4 hv5_4 => ?_)
   refine Rg.nil ⟨rfl, rfl, rfl, ?_⟩
   refine QRg.nil ?_
   obtain ⟨bb, oo, cs, ee, fr, rfl, hcell, _⟩ := hu5_1.float
   refine ⟨Floats.all ⟨FloatOk.move, ⟨FloatOk.field Tryz.underlying153 rfl I3 (by decide), ⟨FloatOk.load rfl hcell (fun h => h), trivial⟩⟩⟩, ?_⟩
   have kp := Keep.refl none' wD5
   refine Rg.call rfl rfl E63 (cloneInt hM hv5_4 (by omega)) (fun v5 w5 hc => ?_)
   obtain ⟨hv5, s5⟩ := hc --@step s5
   --@vf hv5
   replace hu4_2 := hu4_2.le (by decide) s5.le
   replace hu := hu.step0 s5
   replace hov := hov.step0 s5
   replace hM := s5.lt hM
   have := S.size
   replace S := S.trans0 s5
   refine (fun (kp : Keep _ _ _) => Rg.nil ⟨rfl, rfl, fun _ => kp, ?_⟩) (by first | exact kp | exact kp.go0 (by assumption) | exact kp.goN (by assumption) | exact kp.go (by assumption) (fun _ _ h => by first | exact h | exact h.elim))
   refine Rg.build (places := [(0, 1), (1, 1)]) Tryz.underlying153 I153 B153 rfl ⟨_, _, rfl, rfl, _, _, rfl, rfl, rfl⟩ (out := [_, _]) ⟨0, [_], rfl, rfl, by simp [Value.cells], 1, [_], rfl, V_cells hv5, by simp [Value.cells], rfl⟩ ?_
   have hpo : RT.po.V M1 _ p _ := V_pair_mk (V_i64 in5_2) hv5 rfl rfl rfl rfl
   refine (fun (kp : Keep _ _ _) => Rg.nil ⟨rfl, rfl, fun _ => kp, ?_⟩) (by first | exact kp | exact kp.go0 (by assumption) | exact kp.goN (by assumption) | exact kp.go (by assumption) (fun _ _ h => by first | exact h | exact h.elim))
   refine Rg.sl1 (A := RT.po) (hn := by decide) (M := M1) Tryz.underlying107 I153 (by decide) rfl rfl hM (hpo) (.inl rfl) (fun u5_7 w5_7 hu5_7 s5_7 => ?_)
   replace hu4_2 := hu4_2.le (by decide) s5_7.le
   replace hv5 := hv5.le s5_7.le
   replace hu := hu.step0 s5_7
   replace hov := hov.step0 s5_7
   replace hM := s5_7.lt hM
   have := S.size
   replace S := S.trans0 s5_7
   refine (fun (kp : Keep _ _ _) => Rg.nil ⟨rfl, rfl, fun _ => kp, ?_⟩) (by first | exact kp | exact kp.go0 (by assumption) | exact kp.goN (by assumption) | exact kp.go (by assumption) (fun _ _ h => by first | exact h | exact h.elim))
   refine Rg.append (M := M1) (base := w0.heap.size) Tryz.underlying107 I153 rfl rfl rfl rfl hu hu5_7 (Le.refl _ _) (by simp; omega) (by simp; omega) (S.size) (fun u5_8 M5_8 w5_8 ho5_8 s5_8 => ?_)
   replace hu4_2 := hu4_2.le (by decide) s5_8.le
   replace hv5 := hv5.le s5_8.le
   replace hu5_7 := hu5_7.le s5_8.le
   replace hov := hov.step s5_8 (fun c hc h => by have := hvb c hc; have := (hu.base c h).1; omega)
   replace hM := s5_8.lt hM
   have := S.size
   replace S := S.transBlk s5_8 hu (Nat.le_refl _)
   replace hu := ho5_8
   refine Rg.nil ⟨rfl, rfl, fun h => absurd rfl h, ?_⟩
   refine Rg.assign rfl rfl ?_
   refine Rg.nil ⟨rfl, rfl, fun h => absurd rfl h, ?_⟩
   refine TRg.nil ?_
   refine T.region ?_
   refine Rg.iadd rfl rfl rfl (by omega) ?_
   refine Rg.move rfl rfl ?_
   refine Rg.nil ?_
   refine ⟨rfl, (i + 1, u5_8), (.cons rfl (.cons rfl (.cons rfl (.cons rfl .nil)))), ?_, ?_⟩
   ·exact ⟨M5_8, hM, S, by rw [List.take_add_one, hg4, Option.toList_some]; exact hu, hov, by dsimp only; omega⟩
   ·dsimp only; omega
  ·refine T.exit ?_
   refine T.seq ?_
   refine T.region ?_
   refine Rg.move rfl rfl ?_
   refine Rg.assign rfl rfl ?_
   refine Rg.nil ?_
   refine T.ret ?_
   rw [List.take_of_length_le (by omega)] at hu
   exact Kret1 rfl rfl ⟨hu.close hM0 S (by omega), S.back⟩
end Go.K
namespace Go.K
open Go.Proofs
namespace TKBldF
theorem I190 : TI Tryz.prog 190 (.agg #[(.slice none 0 0), (.slice none 0 0)]) 2 48 := by unfold TI; kernel_rfl
theorem B190 : placesOf Tryz.prog 190 = [(0, 1), (1, 1)].map some := by kernel_rfl
theorem E176 : Enters Tryz.prog 176 := enters Tryz.func176 rfl (by decide)
theorem E177 : Enters Tryz.prog 177 := enters Tryz.func177 rfl (by decide)
theorem E178 : Enters Tryz.prog 178 := enters Tryz.func178 rfl (by decide)
end TKBldF
open TKBldF
set_option linter.unusedVariables false
set_option linter.unusedSimpArgs false
set_option maxRecDepth 10000
def upB : Option (List UInt8) → List (List UInt8) → Bool
 |_, [] => true
 |o, x :: l => (match o with | none => true | some a => decide (a < x)) && upB (some x) l
theorem upB_drop {l : List (List UInt8)} {k : Nat} {x : List UInt8} (h : l[k]? = some x) (o : Option (List UInt8)) : upB o (l.drop k) = ((match o with | none => true | some a => decide (a < x)) && upB (some x) (l.drop (k + 1))) := by
 obtain ⟨hlt, he⟩ := List.getElem?_eq_some_iff.1 h
 rw [List.drop_eq_getElem_cons hlt, he]; rfl
theorem upB_some {a : List UInt8} : ∀ {l : List (List UInt8)}, UpT (a :: l) → upB (some a) l = true
 |[], _ => rfl
 |x :: l, h => by
  have h' := List.pairwise_cons.1 h
  simp only [upB, Bool.and_eq_true, decide_eq_true_eq]
  exact ⟨h'.1 x (List.mem_cons_self ..), upB_some h'.2⟩
theorem upB_up : ∀ {l : List (List UInt8)}, UpT l → upB none l = true
 |[], _ => rfl
 |x :: l, h => by simp only [upB, Bool.true_and]; exact upB_some h
theorem rise_spec {M : PSet} {v : Value} {l : List Int} (w0 : World) (hv : ((RT.int .i64).sl).V M w0 l v) :
  Spec Tryz.prog 124 #[v] w0 (fun v' w' => v' = .bool (rises (-1) l) ∧ w' = w0) := by
 have hlen := V_sl_len hv
 refine spec_of (args := [_]) (fn := Tryz.f124) Tryz.func124 rfl (n := 28) Tryz.ntmps124 ?_
 refine T.seq ?_
 refine T.region ?_
 refine Rg.assign rfl rfl ?_
 refine Rg.nil ?_
 refine T.seq ?_
 refine T.seq ?_
 refine T.region ?_
 refine Rg.move rfl rfl ?_
 refine Rg.lensl Tryz.underlying32 rfl hv rfl ?_
 refine Rg.move rfl rfl ?_
 refine Rg.nil ?_
 refine T.block ?_
 refine T.loop (σ := Nat × Int) (fun s => [(0, v), (5, v), (6, .int .i64 l.length), (7, .int .i64 s.1)]) (fun s w => w = w0 ∧ s.1 ≤ l.length ∧ rises (-1) l = rises s.2 (l.drop s.1) ∧ -1 ≤ s.2 ∧ (s.1 = 0 → s.2 = -1) ∧ (0 < s.1 → l[s.1 - 1]? = some s.2)) (fun s => l.length - s.1) (0, -1) (.cons rfl (.cons rfl (.cons rfl (.cons rfl .nil)))) ?_ ?_
 ·exact ⟨rfl, Nat.zero_le _, rfl, by decide, fun _ => rfl, fun h => absurd h (Nat.lt_irrefl 0)⟩
 ·rintro ⟨k, last⟩ w1 ⟨rfl, hk, hr, hl0, h0, h1⟩
  dsimp only at hk hr hl0 h0 h1 ⊢
  refine T.seq ?_
  refine T.region ?_
  refine Rg.ilt rfl rfl rfl ?_
  refine Rg.nil ?_
  refine T.seq ?_
  refine T.ifp rfl (fun c2 => ?_) (fun c2 => ?_)
  ·refine T.skip ?_
   refine T.seq ?_
   refine T.block ?_
   refine T.seq ?_
   refine T.region ?_
   refine Rg.move rfl rfl ?_
   obtain ⟨x, hx⟩ : ∃ x, l[k]? = some x := ⟨_, List.getElem?_eq_getElem (by omega)⟩
   refine Rg.idx (M := M) Tryz.underlying32 I3 rfl rfl rfl hv (Le.refl _ _) (by omega) (fun u a hg hu => ?_)
   obtain rfl : x = a := Eq.symm (Option.some.inj (hg.symm.trans (by simpa using hx)))
   refine Rg.loadi64 (M := M) Tryz.underlying3 rfl rfl hu (Le.refl _ _) (fun inx => ?_)
   refine Rg.assign rfl rfl ?_
   refine Rg.assign rfl rfl ?_
   refine Rg.nil ?_
   refine T.seq ?_
   refine T.region ?_
   refine Rg.move rfl rfl ?_
   refine Rg.ilt rfl rfl rfl ?_
   refine Rg.move rfl rfl ?_
   refine Rg.gsplitp (g := 14) rfl (fun g4_2 => ?_) (fun g4_2 => ?_)
   ·refine Rg.gno rfl rfl rfl rfl ?_
    refine Rg.gno rfl rfl rfl rfl ?_
    refine Rg.gno rfl rfl rfl rfl ?_
    refine Rg.gnox rfl rfl rfl ?_
    refine Rg.gnox rfl rfl rfl ?_
    refine Rg.gnox rfl rfl rfl ?_
    refine Rg.gnox rfl rfl rfl ?_
    refine Rg.gnox rfl rfl rfl ?_
    refine Rg.gnox rfl rfl rfl ?_
    refine Rg.gnox rfl rfl rfl ?_
    refine Rg.gno rfl rfl rfl rfl ?_
    refine Rg.pickt rfl rfl rfl ?_
    refine Rg.nil ?_
    refine T.ift rfl ?_
    refine T.seq ?_
    refine T.region ?_
    refine Rg.assign rfl rfl ?_
    refine Rg.nil ?_
    refine T.ret ?_
    refine Kret1 rfl rfl ⟨congrArg Value.bool (Eq.symm ?_), rfl⟩
    rw [hr, rises_drop hx, decide_eq_false (show ¬ last < x by omega), Bool.false_and]
   ·refine Rg.gyes rfl rfl ?_
    refine Rg.move rfl rfl ?_
    refine Rg.gyes rfl rfl ?_
    refine Rg.igt rfl rfl rfl ?_
    refine Rg.gyes rfl rfl ?_
    refine Rg.move rfl rfl ?_
    refine Rg.gsplitp (g := 17) rfl (fun g4_5 => ?_) (fun g4_5 => ?_)
    ·refine Rg.gyes rfl rfl ?_
     refine Rg.move rfl rfl ?_
     refine Rg.gyes rfl rfl ?_
     refine Rg.move rfl rfl ?_
     refine Rg.gyes rfl rfl ?_
     refine Rg.move rfl rfl ?_
     refine Rg.gyes rfl rfl ?_
     refine Rg.isub rfl rfl rfl (by omega) ?_
     refine Rg.gyes rfl rfl ?_
     refine Rg.idx (M := M) Tryz.underlying32 I3 rfl rfl rfl hv (Le.refl _ _) (by omega) (fun u2 a hg hu2 => ?_)
     obtain rfl : last = a := Eq.symm (Option.some.inj (hg.symm.trans (by rw [show ((k : Int) - 1).toNat = k - 1 from by omega]; exact h1 (by omega))))
     refine Rg.gyes rfl rfl ?_
     refine Rg.loadi64 (M := M) Tryz.underlying3 rfl rfl hu2 (Le.refl _ _) (fun inl => ?_)
     refine Rg.gyes rfl rfl ?_
     refine Rg.ile rfl rfl rfl ?_
     refine Rg.gyes rfl rfl ?_
     refine Rg.pickt rfl rfl rfl ?_
     refine Rg.pickf rfl rfl rfl ?_
     refine Rg.nil ?_
     refine T.ifp rfl (fun c4 => ?_) (fun c4 => ?_)
     ·refine T.seq ?_
      refine T.region ?_
      refine Rg.assign rfl rfl ?_
      refine Rg.nil ?_
      refine T.ret ?_
      refine Kret1 rfl rfl ⟨congrArg Value.bool (Eq.symm ?_), rfl⟩
      rw [hr, rises_drop hx, decide_eq_false (show ¬ last < x by omega), Bool.false_and]
     ·refine T.skip ?_
      refine T.region ?_
      refine Rg.iadd rfl rfl rfl (by omega) ?_
      refine Rg.move rfl rfl ?_
      refine Rg.nil ?_
      refine ⟨rfl, (k + 1, x), (.cons rfl (.cons rfl (.cons rfl (.cons rfl .nil)))), ?_, ?_⟩
      ·refine ⟨rfl, by simp only; omega, ?_, by simp only; omega, fun h => by simp at h, fun _ => by simpa using hx⟩
       rw [hr, rises_drop hx, decide_eq_true (show last < x by omega), Bool.true_and]
      ·simp only; omega
    ·refine Rg.gno rfl rfl rfl rfl ?_
     refine Rg.gno rfl rfl rfl rfl ?_
     refine Rg.gno rfl rfl rfl rfl ?_
     refine Rg.gno rfl rfl rfl rfl ?_
     refine Rg.gno rfl rfl rfl rfl ?_
     refine Rg.gno rfl rfl rfl rfl ?_
     refine Rg.gno rfl rfl rfl rfl ?_
     refine Rg.gyes rfl rfl ?_
     refine Rg.pickf rfl rfl rfl ?_
     refine Rg.pickf rfl rfl rfl ?_
     refine Rg.nil ?_
     refine T.iff rfl ?_
     refine T.skip ?_
     refine T.region ?_
     refine Rg.iadd rfl rfl rfl (by omega) ?_
     refine Rg.move rfl rfl ?_
     refine Rg.nil ?_
     refine ⟨rfl, (k + 1, x), (.cons rfl (.cons rfl (.cons rfl (.cons rfl .nil)))), ?_, ?_⟩
     ·refine ⟨rfl, by simp only; omega, ?_, by simp only; omega, fun h => by simp at h, fun _ => by simpa using hx⟩
      rw [hr, rises_drop hx, decide_eq_true (show last < x by omega), Bool.true_and]
     ·simp only; omega
  ·refine T.exit ?_
   refine T.seq ?_
   refine T.region ?_
   refine Rg.assign rfl rfl ?_
   refine Rg.nil ?_
   refine T.ret ?_
   refine Kret1 rfl rfl ⟨congrArg Value.bool (Eq.symm ?_), rfl⟩
   rw [hr, List.drop_eq_nil_of_le (by omega)]; rfl
theorem drises_spec {M : PSet} {v : Value} {l : List (List UInt8)} (w0 : World) (hv : (RT.str.sl).V M w0 l v) :
  Spec Tryz.prog 176 #[v] w0 (fun v' w' => v' = .bool (upB none l) ∧ w' = w0) := by
 have hlen := V_sl_len hv
 refine spec_of (args := [_]) (fn := Tryz.f176) Tryz.func176 rfl (n := 24) Tryz.ntmps176 ?_
 refine T.seq ?_
 refine T.region ?_
 refine Rg.assign rfl rfl ?_
 refine Rg.nil ?_
 refine T.seq ?_
 refine T.seq ?_
 refine T.region ?_
 refine Rg.move rfl rfl ?_
 refine Rg.lensl Tryz.underlying55 rfl hv rfl ?_
 refine Rg.move rfl rfl ?_
 refine Rg.nil ?_
 refine T.block ?_
 refine T.loop (σ := Nat × Option (List UInt8)) (fun s => [(0, v), (5, v), (6, .int .i64 l.length), (7, .int .i64 s.1)]) (fun s w => w = w0 ∧ s.1 ≤ l.length ∧ upB none l = upB s.2 (l.drop s.1) ∧ (s.1 = 0 → s.2 = none) ∧ (0 < s.1 → ∃ a, s.2 = some a ∧ l[s.1 - 1]? = some a)) (fun s => l.length - s.1) (0, none) (.cons rfl (.cons rfl (.cons rfl (.cons rfl .nil)))) ?_ ?_
 ·exact ⟨rfl, Nat.zero_le _, rfl, fun _ => rfl, fun h => absurd h (Nat.lt_irrefl 0)⟩
 ·rintro ⟨k, o⟩ w1 ⟨rfl, hk, hr, h0, h1⟩
  dsimp only at hk hr h0 h1 ⊢
  refine T.seq ?_
  refine T.region ?_
  refine Rg.ilt rfl rfl rfl ?_
  refine Rg.nil ?_
  refine T.seq ?_
  refine T.ifp rfl (fun c2 => ?_) (fun c2 => ?_)
  ·refine T.skip ?_
   refine T.seq ?_
   refine T.block ?_
   refine T.seq ?_
   refine T.region ?_
   refine Rg.move rfl rfl ?_
   obtain ⟨x, hx⟩ : ∃ x, l[k]? = some x := ⟨_, List.getElem?_eq_getElem (by omega)⟩
   refine Rg.idx (M := M) Tryz.underlying55 I9 rfl rfl rfl hv (Le.refl _ _) (by omega) (fun u a hg hu => ?_)
   obtain rfl : x = a := Eq.symm (Option.some.inj (hg.symm.trans (by simpa using hx)))
   refine Rg.load (M := M) Tryz.underlying9 rfl rfl rfl rfl rfl hu (Le.refl _ _) (fun vx hvx => ?_)
   obtain rfl := V_strE hvx
   refine Rg.assign rfl rfl ?_
   refine Rg.assign rfl rfl ?_
   refine Rg.nil ?_
   refine T.seq ?_
   refine T.region ?_
   refine Rg.move rfl rfl ?_
   refine Rg.igt rfl rfl rfl ?_
   refine Rg.move rfl rfl ?_
   refine Rg.gsplitp (g := 14) rfl (fun g4_2 => ?_) (fun g4_2 => ?_)
   ·refine Rg.gyes rfl rfl ?_
    refine Rg.move rfl rfl ?_
    refine Rg.gyes rfl rfl ?_
    refine Rg.move rfl rfl ?_
    refine Rg.gyes rfl rfl ?_
    refine Rg.move rfl rfl ?_
    refine Rg.gyes rfl rfl ?_
    refine Rg.isub rfl rfl rfl (by omega) ?_
    refine Rg.gyes rfl rfl ?_
    obtain ⟨last, rfl, hlast⟩ := h1 (by omega)
    refine Rg.idx (M := M) Tryz.underlying55 I9 rfl rfl rfl hv (Le.refl _ _) (by omega) (fun u2 a hg hu2 => ?_)
    obtain rfl : last = a := Eq.symm (Option.some.inj (hg.symm.trans (by rw [show ((k : Int) - 1).toNat = k - 1 from by omega]; exact hlast)))
    refine Rg.gyes rfl rfl ?_
    refine Rg.load (M := M) Tryz.underlying9 rfl rfl rfl rfl rfl hu2 (Le.refl _ _) (fun vl hvl => ?_)
    obtain rfl := V_strE hvl
    refine Rg.gyes rfl rfl ?_
    refine Rg.strleq rfl rfl rfl ?_
    refine Rg.pickt rfl rfl rfl ?_
    refine Rg.nil ?_
    refine T.ifp rfl (fun c4 => ?_) (fun c4 => ?_)
    ·refine T.seq ?_
     refine T.region ?_
     refine Rg.assign rfl rfl ?_
     refine Rg.nil ?_
     refine T.ret ?_
     refine Kret1 rfl rfl ⟨congrArg Value.bool (Eq.symm ?_), rfl⟩
     rw [hr, upB_drop hx]
     simp [c4]
    ·refine T.skip ?_
     refine T.region ?_
     refine Rg.iadd rfl rfl rfl (by omega) ?_
     refine Rg.move rfl rfl ?_
     refine Rg.nil ?_
     refine ⟨rfl, (k + 1, some x), (.cons rfl (.cons rfl (.cons rfl (.cons rfl .nil)))), ?_, ?_⟩
     ·refine ⟨rfl, by simp only; omega, ?_, fun h => by simp at h, fun _ => ⟨x, rfl, by simpa using hx⟩⟩
      rw [hr, upB_drop hx]
      first
      |(rw [h0 (by omega)]; simp; done)
      |(have c4' := Decidable.not_not.1 c4; simp [c4']; done)
     ·simp only; omega
   ·refine Rg.gno rfl rfl rfl rfl ?_
    refine Rg.gno rfl rfl rfl rfl ?_
    refine Rg.gno rfl rfl rfl rfl ?_
    refine Rg.gno rfl rfl rfl rfl ?_
    refine Rg.gno rfl rfl rfl rfl ?_
    refine Rg.gno rfl rfl rfl rfl ?_
    refine Rg.gno rfl rfl rfl rfl ?_
    refine Rg.pickf rfl rfl rfl ?_
    refine Rg.nil ?_
    refine T.iff rfl ?_
    refine T.skip ?_
    refine T.region ?_
    refine Rg.iadd rfl rfl rfl (by omega) ?_
    refine Rg.move rfl rfl ?_
    refine Rg.nil ?_
    refine ⟨rfl, (k + 1, some x), (.cons rfl (.cons rfl (.cons rfl (.cons rfl .nil)))), ?_, ?_⟩
    ·refine ⟨rfl, by simp only; omega, ?_, fun h => by simp at h, fun _ => ⟨x, rfl, by simpa using hx⟩⟩
     rw [hr, upB_drop hx]
     first
     |(rw [h0 (by omega)]; simp; done)
     |(have c4' := Decidable.not_not.1 c4; simp [c4']; done)
    ·simp only; omega
  ·refine T.exit ?_
   refine T.seq ?_
   refine T.region ?_
   refine Rg.assign rfl rfl ?_
   refine Rg.nil ?_
   refine T.ret ?_
   refine Kret1 rfl rfl ⟨congrArg Value.bool (Eq.symm ?_), rfl⟩
   rw [hr, List.drop_eq_nil_of_le (by omega)]; rfl
theorem ptr_cells {α : Type} {A : RT α} {M : PSet} {w : World} {v : Value} {x : α} (h : PtrTo A M w v x) : v.cells = #[v] := by
 obtain ⟨b, o, vs, rfl, _⟩ := h; rfl
theorem dmake_spec {M : PSet} {v0 v1 : Value} {ns : List (List UInt8)} {ts : List Li} (w0 : World) (hM : Lt M w0) (hn : (RT.str.sl).V M w0 ns v0) (ht : (((RT.li).ptr).sl).V M w0 ts v1) (hl : ns.length ≤ 1099511627776) (hl2 : ts.length ≤ 1099511627776) :
  Spec Tryz.prog 128 #[v0, v1] w0 (fun v w => ∃ p, v = .tuple #[p, .int .i64 (if ns.length = ts.length ∧ upB none ns = true then 0 else 1)] ∧ (ns.length = ts.length → upB none ns = true → PtrTo RT.di M w p (ns, ts)) ∧ Step M w0 M w none') := by
 refine spec_of (args := [_, _]) (fn := Tryz.f128) Tryz.func128 rfl (n := 22) Tryz.ntmps128 ?_
 have S : Step M w0 M w0 none' := (Step.refl _ _).widen (fun _ h => h.elim) (fun _ h => h.elim)
 refine T.seq ?_
 refine T.region ?_
 refine Rg.assign rfl rfl ?_
 refine Rg.assign rfl rfl ?_
 refine Rg.nil ?_
 refine T.seq ?_
 refine T.seq ?_
 refine T.region ?_
 refine Rg.move rfl rfl ?_
 refine Rg.lensl Tryz.underlying55 rfl hn rfl ?_
 refine Rg.move rfl rfl ?_
 refine Rg.lensl Tryz.underlying188 rfl ht rfl ?_
 refine Rg.ine rfl rfl rfl ?_
 refine Rg.move rfl rfl ?_
 refine Rg.gsplitp (g := 11) rfl (fun g1_5 => ?_) (fun g1_5 => ?_)
 ·refine Rg.gno rfl rfl rfl rfl ?_
  refine Rg.gno rfl rfl rfl rfl ?_
  refine Rg.gno rfl rfl rfl rfl ?_
  refine Rg.pickt rfl rfl rfl ?_
  refine Rg.nil ?_
  refine T.ift rfl ?_
  refine T.seq ?_
  refine T.region ?_
  refine Rg.assign rfl rfl ?_
  refine Rg.assign rfl rfl ?_
  refine Rg.nil ?_
  refine T.ret ?_
  first
  |exact Kret2 rfl rfl rfl ⟨_, by rw [if_neg (fun h => g1_5 (by omega))], fun h => absurd (by omega) g1_5, S⟩
  |exact Kret2 rfl rfl rfl ⟨_, by rw [if_neg (fun h => c1 h.2)], fun _ h => absurd h c1, S⟩
 ·refine Rg.gyes rfl rfl ?_
  refine Rg.move rfl rfl ?_
  refine Rg.gyes rfl rfl ?_
  refine Rg.call rfl rfl E176 (drises_spec _ hn) (fun r wc hc => ?_)
  obtain ⟨rfl, rfl⟩ := hc
  refine Rg.gyes rfl rfl ?_
  refine Rg.not rfl rfl ?_
  refine Rg.eqv (v' := .bool (decide (¬ upB none ns = true))) (by simp) ?_
  refine Rg.pickf rfl rfl rfl ?_
  refine Rg.nil ?_
  refine T.ifp rfl (fun c1 => ?_) (fun c1 => ?_)
  ·refine T.seq ?_
   refine T.region ?_
   refine Rg.assign rfl rfl ?_
   refine Rg.assign rfl rfl ?_
   refine Rg.nil ?_
   refine T.ret ?_
   first
   |exact Kret2 rfl rfl rfl ⟨_, by rw [if_neg (fun h => g1_5 (by omega))], fun h => absurd (by omega) g1_5, S⟩
   |exact Kret2 rfl rfl rfl ⟨_, by rw [if_neg (fun h => c1 h.2)], fun _ h => absurd h c1, S⟩
  ·refine T.skip ?_
   refine T.seq ?_
   refine T.region ?_
   refine Rg.move rfl rfl ?_
   refine Rg.call rfl rfl E177 (cloneStr hM hn hl) (fun v3 w3 hc => ?_)
   obtain ⟨hv3, s3⟩ := hc --@step s3
   --@vf hv3
   replace hn := hn.le s3.le
   replace ht := ht.le s3.le
   replace hM := s3.lt hM
   have := S.size
   replace S := S.trans0 s3
   refine Rg.move rfl rfl ?_
   refine Rg.call rfl rfl E178 (cloneLi hM ht hl2) (fun v4 w4 hc => ?_)
   obtain ⟨hv4, s4⟩ := hc --@step s4
   --@vf hv4
   replace hn := hn.le s4.le
   replace ht := ht.le s4.le
   replace hv3 := hv3.le s4.le
   replace hM := s4.lt hM
   have := S.size
   replace S := S.trans0 s4
   refine Rg.build (places := [(0, 1), (1, 1)]) Tryz.underlying190 I190 B190 rfl ⟨_, _, rfl, rfl, _, _, rfl, rfl, rfl⟩ (out := [_, _]) ⟨0, [_], rfl, V_cells hv3, by simp [Value.cells], 1, [_], rfl, V_cells hv4, by simp [Value.cells], rfl⟩ ?_
   refine Rg.boxp (A := RT.di) (a := (ns, ts)) rfl rfl hM (V_pair_mk hv3 hv4 rfl rfl rfl rfl) rfl (fun u5 w5 hu5 s5 _ => ?_) --@step s5
   replace hn := hn.le s5.le
   replace ht := ht.le s5.le
   replace hv3 := hv3.le s5.le
   replace hv4 := hv4.le s5.le
   replace hM := s5.lt hM
   have := S.size
   replace S := S.trans0 s5
   refine Rg.assign rfl rfl ?_
   refine Rg.assign rfl rfl ?_
   refine Rg.nil ?_
   refine T.ret ?_
   exact Kret2 rfl rfl rfl ⟨_, by rw [if_pos ⟨by omega, Decidable.not_not.1 c1⟩], fun _ _ => hu5, S⟩
end Go.K
namespace Go.K
set_option linter.unusedVariables false
set_option linter.unusedSimpArgs false
theorem byte_small (n : Nat) : IntKind.u8.wrap (n : Int) = ((UInt8.ofNat n).toNat : Int) := by
 rw [IntKind.wrap_u8]; simp [UInt8.toNat_ofNat]
theorem or128 : ∀ m : Nat, m < 256 → (BitVec.ofInt 8 (m : Int) ||| BitVec.ofInt 8 128).toNat = 128 + m % 128 := by decide +kernel
theorem byte_or (n : Nat) : IntKind.u8.wrap ((BitVec.ofInt IntKind.u8.bits (IntKind.u8.wrap (n : Int)) ||| BitVec.ofInt IntKind.u8.bits 128).toNat : Int) = ((UInt8.ofNat (128 + n % 128)).toNat : Int) := by
 have h1 : IntKind.u8.wrap (n : Int) = ((n % 256 : Nat) : Int) := by rw [IntKind.wrap_u8]; omega
 rw [h1]
 show IntKind.u8.wrap ((BitVec.ofInt 8 ((n % 256 : Nat) : Int) ||| BitVec.ofInt 8 128).toNat : Int) = _
 rw [or128 (n % 256) (by omega), IntKind.wrap_u8, show n % 256 % 128 = n % 128 from by omega]
 simp [UInt8.toNat_ofNat]
theorem shr7 (n : Nat) : ((n : Int)).fdiv (2 ^ min (Int.toNat 7) IntKind.i64.bits) = ((n / 128 : Nat) : Int) := by
 show ((n : Int)).fdiv 128 = _
 rw [Int.fdiv_eq_ediv_of_nonneg _ (by decide)]; rfl
theorem andNot128' : ∀ m : Nat, m < 256 → (BitVec.ofInt 8 (m : Int) &&& ~~~ BitVec.ofInt 8 128).toNat = m % 128 := by decide +kernel
theorem byte_andNot (c : UInt8) : IntKind.u8.wrap ((BitVec.ofInt IntKind.u8.bits (c.toNat : Int) &&& ~~~ BitVec.ofInt IntKind.u8.bits 128).toNat : Int) = ((c.toNat % 128 : Nat) : Int) := by
 show IntKind.u8.wrap ((BitVec.ofInt 8 (c.toNat : Int) &&& ~~~ BitVec.ofInt 8 128).toNat : Int) = _
 rw [andNot128' c.toNat (by have := c.toNat_lt; omega), IntKind.wrap_u8]; omega
theorem or_digit (k n x : Nat) (hk : k ≤ 8) (hn : n < 128 ^ k) (hx : x < 128) :
  IntKind.i64.wrap ((BitVec.ofInt IntKind.i64.bits (n : Int) ||| BitVec.ofInt IntKind.i64.bits (IntKind.i64.wrap ((x : Int) * 2 ^ min (Int.toNat (7 * (k : Int))) IntKind.i64.bits))).toNat : Int) = ((n + x * 128 ^ k : Nat) : Int) := by
 have e7 : Int.toNat (7 * (k : Int)) = 7 * k := by omega
 have e1 : min (7 * k) 64 = 7 * k := by omega
 have e2 : (128 : Nat) ^ k = 2 ^ (7 * k) := by rw [Nat.pow_mul]
 have hp : 2 ^ (7 * k) ≤ 2 ^ 56 := Nat.pow_le_pow_right (by decide) (by omega)
 have hb : x * 2 ^ (7 * k) ≤ 127 * 2 ^ (7 * k) := Nat.mul_le_mul_right _ (by omega)
 rw [e2] at hn ⊢
 show IntKind.i64.wrap ((BitVec.ofInt 64 (n : Int) ||| BitVec.ofInt 64 (IntKind.i64.wrap ((x : Int) * 2 ^ min (Int.toNat (7 * (k : Int))) 64))).toNat : Int) = _
 rw [e7, e1]
 have e3 : ((x : Int) * 2 ^ (7 * k)) = ((x * 2 ^ (7 * k) : Nat) : Int) := by simp
 have e5 : n ||| x * 2 ^ (7 * k) = n + x * 2 ^ (7 * k) := by
  rw [Nat.or_comm, Nat.mul_comm x, ← Nat.two_pow_add_eq_or_of_lt hn x, Nat.add_comm]
 rw [e3]
 generalize x * 2 ^ (7 * k) = y at *
 generalize 2 ^ (7 * k) = z at *
 have e4 : ∀ m : Nat, m < 2 ^ 64 → (BitVec.ofInt 64 (m : Int)) = BitVec.ofNat 64 m := fun m _ => by simp
 rw [IntWalk.i64_in (y : Int) (by omega), e4 n (by omega), e4 y (by omega), BitVec.toNat_or, BitVec.toNat_ofNat, BitVec.toNat_ofNat, Nat.mod_eq_of_lt (by omega), Nat.mod_eq_of_lt (by omega), e5, IntWalk.i64_in _ (by omega)]
theorem wrap_range (x : Int) : -9223372036854775808 ≤ IntKind.i64.wrap x ∧ IntKind.i64.wrap x ≤ 9223372036854775807 := by rw [IntKind.wrap_i64]; omega
end Go.K
namespace Go.K
open Go.Proofs
set_option linter.unusedVariables false
set_option linter.unusedSimpArgs false
set_option maxRecDepth 10000
theorem Put_own {M : PSet} {w0 : World} {v : Value} {b : List UInt8} {n : Nat} (hM : Lt M w0) (hv : (RT.u8.sl).V M w0 b v) (hb : b.length ≤ 70368744177664) (hn : n ≤ 9223372036854775807) :
  Spec Tryz.prog 173 #[v, .int .i64 n] w0 (fun v' w' => ∃ M', Step M w0 M' w' none' ∧ Own RT.u8 5 M' w' w0.heap.size v' (b ++ put n)) := by
 have h9 := put_len9 hn
 refine spec_of (args := [_, _]) (fn := Tryz.f173) Tryz.func173 rfl (n := 26) Tryz.ntmps173 ?_
 refine T.seq ?_
 refine T.region ?_
 refine Rg.assign rfl rfl ?_
 refine Rg.nil ?_
 refine T.seq ?_
 refine T.region ?_
 refine Rg.move rfl rfl ?_
 refine Rg.move rfl rfl ?_
 first | refine Rg.lensl Tryz.underlying147 rfl (by assumption) rfl ?_ | refine Rg.lenown Tryz.underlying147 rfl (by assumption) rfl ?_
 refine Rg.move rfl rfl ?_
 first | refine Rg.lensl Tryz.underlying147 rfl (by assumption) rfl ?_ | refine Rg.lenown Tryz.underlying147 rfl (by assumption) rfl ?_
 refine Rg.slice_clip Tryz.underlying147 I5 rfl rfl rfl rfl hv ⟨rfl, rfl⟩ (fun a hva hnone => ?_)
 refine Rg.assign rfl rfl ?_
 refine Rg.nil ?_
 refine T.seq ?_
 refine T.block ?_
 refine T.loop (σ := Nat × Value × List UInt8) (fun s => [(0, s.2.1), (1, .int .i64 s.1)]) (fun s w => s.2.2 ++ put s.1 = b ++ put n ∧ ∃ M1, Lt M1 w ∧ Step M w0 M1 w none' ∧ Grow RT.u8 (by decide) 5 M1 w w0.heap.size s.2.1 s.2.2) (fun s => s.1) (n, _, b) (.cons rfl (.cons rfl .nil)) ?_ ?_
 ·exact ⟨rfl, M, hM, Step.refl _ _, .inr ⟨a, rfl, hnone, hva⟩⟩
 ·rintro ⟨k, u0, acc⟩ w1 ⟨hacc, M1, hM1, s1, hg⟩
  dsimp only at hacc hg ⊢
  have hlen := congrArg List.length hacc
  have hpos := put_pos k
  simp only [List.length_append] at hlen
  refine T.seq ?_
  refine T.seq ?_
  refine T.region ?_
  refine Rg.move rfl rfl ?_
  refine Rg.ige rfl rfl rfl ?_
  refine Rg.nil ?_
  refine T.ifp rfl (fun c2 => ?_) (fun c2 => ?_)
  ·refine T.skip ?_
   refine T.block ?_
   refine T.seq ?_
   refine T.region ?_
   refine Rg.move rfl rfl ?_
   refine Rg.move rfl rfl ?_
   refine Rg.conv Tryz.underlying3 Tryz.underlying5 rfl rfl ?_
   refine Rg.or rfl rfl rfl ?_
   refine Rg.eqv (congrArg _ (byte_or _)) ?_
   refine Rg.sl1 (A := RT.u8) (hn := by decide) (M := M1) Tryz.underlying147 I5 (by decide) rfl rfl hM1 (V_u8.2 rfl) (.inr ⟨rfl, rfl⟩) (fun u w2 hu s2 => ?_)
   refine Rg.appendg (M := M1) (base := w0.heap.size) Tryz.underlying147 I5 rfl rfl rfl rfl (hg.le s2) hu (Le.refl _ _) (by simp) (by simp; omega) (by simp; omega) (Nat.le_trans s1.size s2.size) (fun v3 M3 w3 ho3 s3 => ?_)
   refine Rg.assign rfl rfl ?_
   refine Rg.nil ?_
   refine T.region ?_
   refine Rg.move rfl rfl ?_
   refine Rg.shr rfl rfl rfl (by omega) ?_
   refine Rg.eqv (congrArg _ (shr7 _)) ?_
   refine Rg.assign rfl rfl ?_
   refine Rg.nil ?_
   refine ⟨rfl, (k / 128, v3, acc ++ [UInt8.ofNat (128 + k % 128)]), (.cons rfl (.cons rfl .nil)), ?_, ?_⟩
   ·exact ⟨by rw [← hacc, put_ge (n := k) (by omega)]; simp, M3, s3.lt (s2.lt hM1), (s1.trans0 s2).transOwn s3 (Nat.le_refl _), .inl ho3⟩
   ·show k / 128 < k; omega
  ·refine T.exit ?_
   refine T.seq ?_
   refine T.region ?_
   refine Rg.move rfl rfl ?_
   refine Rg.move rfl rfl ?_
   refine Rg.conv Tryz.underlying3 Tryz.underlying5 rfl rfl ?_
   refine Rg.eqv (congrArg _ (byte_small _)) ?_
   refine Rg.sl1 (A := RT.u8) (hn := by decide) (M := M1) Tryz.underlying147 I5 (by decide) rfl rfl hM1 (V_u8.2 rfl) (.inr ⟨rfl, rfl⟩) (fun u w2 hu s2 => ?_)
   refine Rg.appendg (M := M1) (base := w0.heap.size) Tryz.underlying147 I5 rfl rfl rfl rfl (hg.le s2) hu (Le.refl _ _) (by simp) (by simp; omega) (by simp; omega) (Nat.le_trans s1.size s2.size) (fun v3 M3 w3 ho3 s3 => ?_)
   refine Rg.assign rfl rfl ?_
   refine Rg.nil ?_
   refine T.ret ?_
   refine Kret1 rfl rfl ⟨M3, (s1.trans0 s2).transOwn s3 (Nat.le_refl _), ?_⟩
   rw [← hacc, put_lt (n := k) (by omega)]
   exact ho3
theorem Put_spec {M : PSet} {w0 : World} {v : Value} {b : List UInt8} {n : Nat} (hM : Lt M w0) (hv : (RT.u8.sl).V M w0 b v) (hb : b.length ≤ 70368744177664) (hn : n ≤ 9223372036854775807) :
  Spec Tryz.prog 173 #[v, .int .i64 n] w0 (fun v' w' => Step M w0 M w' none' ∧ (RT.u8.sl).V M w' (b ++ put n) v') :=
 (Put_own hM hv hb hn).mono fun _ _ ⟨_, s, ho⟩ => ⟨s.back, Own.close hM s ho (by have := put_len9 hn; simp; omega)⟩
theorem Get_spec {M : PSet} {w0 : World} {v : Value} {b : List UInt8} {at_ : Int} (hv : (RT.u8.sl).V M w0 b v) (hat : -9223372036854775808 ≤ at_ ∧ at_ ≤ 9223372036854775807) :
  Spec Tryz.prog 250 #[v, .int .i64 at_] w0 (fun v' w' => v' = .tuple #[.int .i64 (get b at_).1, .int .i64 (get b at_).2.1, .int .i64 (get b at_).2.2] ∧ w0 = w') := by
 have hlen := V_sl_len hv
 refine spec_of (args := [_, _]) (fn := Tryz.f250) Tryz.func250 rfl (n := 54) Tryz.ntmps250 ?_
 refine T.seq ?_
 refine T.region ?_
 refine Rg.assign rfl rfl ?_
 refine Rg.assign rfl rfl ?_
 refine Rg.assign rfl rfl ?_
 refine Rg.nil ?_
 refine T.seq ?_
 refine T.seq ?_
 refine T.region ?_
 refine Rg.move rfl rfl ?_
 refine Rg.ilt rfl rfl rfl ?_
 refine Rg.move rfl rfl ?_
 refine Rg.gsplitp (g := 12) rfl (fun g1_2 => ?_) (fun g1_2 => ?_)
 ·obtain h17 : at_ < 0 ∨ (b.length : Int) < at_ := .inl g1_2
  refine Rg.gno rfl rfl rfl rfl ?_
  refine Rg.gno rfl rfl rfl rfl ?_
  refine Rg.gno rfl rfl rfl rfl ?_
  refine Rg.gno rfl rfl rfl rfl ?_
  refine Rg.pickt rfl rfl rfl ?_
  refine Rg.nil ?_
  refine T.ift rfl ?_
  refine T.seq ?_
  refine T.region ?_
  refine Rg.assign rfl rfl ?_
  refine Rg.assign rfl rfl ?_
  refine Rg.assign rfl rfl ?_
  refine Rg.nil ?_
  refine T.ret ?_
  have hget : get b at_ = (0, 0, 1) := by unfold get; rw [if_pos h17]
  exact Kret3 rfl rfl rfl rfl ⟨by rw [hget], rfl⟩
 ·refine Rg.gyes rfl rfl ?_
  refine Rg.move rfl rfl ?_
  refine Rg.gyes rfl rfl ?_
  refine Rg.move rfl rfl ?_
  refine Rg.gyes rfl rfl ?_
  first | refine Rg.lensl Tryz.underlying147 rfl (by assumption) rfl ?_ | refine Rg.lenown Tryz.underlying147 rfl (by assumption) rfl ?_
  refine Rg.gyes rfl rfl ?_
  refine Rg.igt rfl rfl rfl ?_
  refine Rg.pickf rfl rfl rfl ?_
  refine Rg.nil ?_
  refine T.ifp rfl (fun c1 => ?_) (fun c1 => ?_)
  ·obtain h17 : at_ < 0 ∨ (b.length : Int) < at_ := .inr c1
   refine T.seq ?_
   refine T.region ?_
   refine Rg.assign rfl rfl ?_
   refine Rg.assign rfl rfl ?_
   refine Rg.assign rfl rfl ?_
   refine Rg.nil ?_
   refine T.ret ?_
   have hget : get b at_ = (0, 0, 1) := by unfold get; rw [if_pos h17]
   exact Kret3 rfl rfl rfl rfl ⟨by rw [hget], rfl⟩
  ·refine T.skip ?_
   refine T.seq ?_
   refine T.region ?_
   refine Rg.assign rfl rfl ?_
   refine Rg.nil ?_
   refine T.seq ?_
   refine T.seq ?_
   refine T.region ?_
   refine Rg.move rfl rfl ?_
   refine Rg.move rfl rfl ?_
   refine Rg.move rfl rfl ?_
   first | refine Rg.lensl Tryz.underlying147 rfl (by assumption) rfl ?_ | refine Rg.lenown Tryz.underlying147 rfl (by assumption) rfl ?_
   refine Rg.move rfl rfl ?_
   refine Rg.iadd rfl rfl rfl (by omega) ?_
   refine Rg.min2 rfl rfl rfl ?_
   refine Rg.slice_lh Tryz.underlying147 I5 rfl rfl rfl rfl hv (by omega) (fun u hu => ?_)
   rw [show (min (b.length : Int) (at_ + 9)).toNat = min b.length (at_.toNat + 9) from by omega, window] at hu
   have hget : get b at_ = match getL ((b.drop at_.toNat).take 9) 0 0 with | some (n, k) => ((n : Int), at_ + k, 0) | none => (0, 0, 2) := by unfold get; rw [if_neg (by omega)]; rfl
   have hbl : ((b.drop at_.toNat).take 9).length ≤ 9 := by rw [List.length_take]; omega
   generalize (b.drop at_.toNat).take 9 = bs at hu hget hbl
   first | refine Rg.lensl Tryz.underlying147 rfl (by assumption) rfl ?_ | refine Rg.lenown Tryz.underlying147 rfl (by assumption) rfl ?_
   refine Rg.move rfl rfl ?_
   refine Rg.nil ?_
   refine T.block ?_
   refine T.loop (σ := Nat × Nat) (fun s => [(1, .int .i64 at_), (25, u), (26, .int .i64 bs.length), (27, .int .i64 s.1), (7, .int .i64 s.2)]) (fun s w => w0 = w ∧ s.1 ≤ bs.length ∧ s.2 < 128 ^ s.1 ∧ getL (bs.drop s.1) s.1 s.2 = getL bs 0 0) (fun s => bs.length - s.1) (0, 0) (.cons rfl (.cons rfl (.cons rfl (.cons rfl (.cons rfl .nil))))) ?_ ?_
   ·exact ⟨rfl, Nat.zero_le _, by decide, rfl⟩
   ·rintro ⟨k, m⟩ w1 ⟨rfl, hk, hm, hg⟩
    dsimp only at hk hm hg ⊢
    refine T.seq ?_
    refine T.region ?_
    refine Rg.ilt rfl rfl rfl ?_
    refine Rg.nil ?_
    refine T.seq ?_
    refine T.ifp rfl (fun c5 => ?_) (fun c5 => ?_)
    ·refine T.skip ?_
     refine T.seq ?_
     refine T.block ?_
     refine T.seq ?_
     refine T.region ?_
     refine Rg.move rfl rfl ?_
     refine Rg.idx (M := M) Tryz.underlying147 I5 rfl rfl rfl (by assumption) (by repeat (first | exact Le.refl _ _ | refine Le.trans (Step.le (by assumption)) ?_)) (by omega) (fun u6_1 a6_1 hg6_1 hu6_1 => ?_)
     refine Rg.loadu8 (M := M) Tryz.underlying5 rfl rfl (by assumption) (by repeat (first | exact Le.refl _ _ | refine Le.trans (Step.le (by assumption)) ?_)) ?_
     refine Rg.assign rfl rfl ?_
     refine Rg.assign rfl rfl ?_
     refine Rg.nil ?_
     refine T.seq ?_
     refine T.region ?_
     refine Rg.move rfl rfl ?_
     refine Rg.move rfl rfl ?_
     refine Rg.andNot rfl rfl rfl ?_
     refine Rg.eqv (congrArg _ (byte_andNot _)) ?_
     refine Rg.conv64 Tryz.underlying5 Tryz.underlying3 rfl rfl (by omega) ?_
     refine Rg.move rfl rfl ?_
     refine Rg.imul rfl rfl rfl (by omega) ?_
     refine Rg.shl rfl rfl rfl (by omega) ?_
     refine Rg.or rfl rfl rfl ?_
     refine Rg.eqv (congrArg _ (or_digit k m _ (by omega) hm (by omega))) ?_
     refine Rg.assign rfl rfl ?_
     refine Rg.nil ?_
     refine T.seq ?_
     refine T.region ?_
     refine Rg.move rfl rfl ?_
     refine Rg.ilt rfl rfl rfl ?_
     refine Rg.nil ?_
     refine T.ifp rfl (fun c8 => ?_) (fun c8 => ?_)
     ·refine T.seq ?_
      refine T.seq ?_
      refine T.region ?_
      refine Rg.move rfl rfl ?_
      refine Rg.ieq rfl rfl rfl ?_
      refine Rg.move rfl rfl ?_
      refine Rg.gsplitp (g := 44) rfl (fun g9_2 => ?_) (fun g9_2 => ?_)
      ·refine Rg.gyes rfl rfl ?_
       refine Rg.move rfl rfl ?_
       refine Rg.gyes rfl rfl ?_
       refine Rg.igt rfl rfl rfl ?_
       refine Rg.pickt rfl rfl rfl ?_
       refine Rg.nil ?_
       refine T.ifp rfl (fun c9 => ?_) (fun c9 => ?_)
       ·refine T.exit ?_
        refine T.seq ?_
        refine T.region ?_
        refine Rg.assign rfl rfl ?_
        refine Rg.assign rfl rfl ?_
        refine Rg.assign rfl rfl ?_
        refine Rg.nil ?_
        refine T.ret ?_
        have hr : getL bs 0 0 = none := by
         rw [← hg]
         first
         |(rw [getL_drop (by simpa using hg6_1), if_pos (by omega), if_pos (by omega)])
         |(rw [List.drop_eq_nil_of_le (by omega)]; rfl)
        exact Kret3 rfl rfl rfl rfl ⟨by rw [hget, hr], rfl⟩
       ·refine T.skip ?_
        refine T.seq ?_
        refine T.region ?_
        refine Rg.move rfl rfl ?_
        refine Rg.move rfl rfl ?_
        refine Rg.move rfl rfl ?_
        refine Rg.iadd rfl rfl rfl (by omega) ?_
        refine Rg.iadd rfl rfl rfl (by omega) ?_
        refine Rg.assign rfl rfl ?_
        refine Rg.assign rfl rfl ?_
        refine Rg.assign rfl rfl ?_
        refine Rg.nil ?_
        refine T.ret ?_
        have hr : getL bs 0 0 = some (m + a6_1.toNat % 128 * 128 ^ k, k + 1) := by rw [← hg, getL_drop (by simpa using hg6_1), if_pos (by omega), if_neg (by omega)]
        exact Kret3 rfl rfl rfl rfl ⟨by rw [hget, hr]; simp; omega, rfl⟩
      ·refine Rg.gno rfl rfl rfl rfl ?_
       refine Rg.gno rfl rfl rfl rfl ?_
       refine Rg.pickf rfl rfl rfl ?_
       refine Rg.nil ?_
       refine T.iff rfl ?_
       refine T.skip ?_
       refine T.seq ?_
       refine T.region ?_
       refine Rg.move rfl rfl ?_
       refine Rg.move rfl rfl ?_
       refine Rg.move rfl rfl ?_
       refine Rg.iadd rfl rfl rfl (by omega) ?_
       refine Rg.iadd rfl rfl rfl (by omega) ?_
       refine Rg.assign rfl rfl ?_
       refine Rg.assign rfl rfl ?_
       refine Rg.assign rfl rfl ?_
       refine Rg.nil ?_
       refine T.ret ?_
       have hr : getL bs 0 0 = some (m + a6_1.toNat % 128 * 128 ^ k, k + 1) := by rw [← hg, getL_drop (by simpa using hg6_1), if_pos (by omega), if_neg (by omega)]
       exact Kret3 rfl rfl rfl rfl ⟨by rw [hget, hr]; simp; omega, rfl⟩
     ·refine T.skip ?_
      refine T.region ?_
      refine Rg.iadd rfl rfl rfl (by omega) ?_
      refine Rg.move rfl rfl ?_
      refine Rg.nil ?_
      refine ⟨rfl, (k + 1, m + a6_1.toNat % 128 * 128 ^ k), (.cons rfl (.cons rfl (.cons rfl (.cons rfl (.cons rfl .nil))))), ?_, ?_⟩
      ·refine ⟨rfl, by simp only; omega, ?_, ?_⟩
       ·have := Nat.mul_le_mul_right (128 ^ k) (show a6_1.toNat % 128 ≤ 127 from by omega)
        simp only [Nat.pow_succ]; omega
       ·rw [getL_drop (by simpa using hg6_1), if_neg (by omega)] at hg; exact hg
      ·simp only; omega
    ·refine T.exit ?_
     refine T.seq ?_
     refine T.region ?_
     refine Rg.assign rfl rfl ?_
     refine Rg.assign rfl rfl ?_
     refine Rg.assign rfl rfl ?_
     refine Rg.nil ?_
     refine T.ret ?_
     have hr : getL bs 0 0 = none := by
      rw [← hg]
      first
      |(rw [getL_drop (by simpa using hg6_1), if_pos (by omega), if_pos (by omega)])
      |(rw [List.drop_eq_nil_of_le (by omega)]; rfl)
     exact Kret3 rfl rfl rfl rfl ⟨by rw [hget, hr], rfl⟩
theorem PutRising_own {M : PSet} {w0 : World} {v u : Value} {b : List UInt8} {l : List Int} (hM : Lt M w0) (hv : (RT.u8.sl).V M w0 b v) (hu : ((RT.int .i64).sl).V M w0 l u) (hb : b.length + 9 * (l.length + 1) ≤ 70368744177664) :
  Spec Tryz.prog 174 #[v, u] w0 (fun v' w' => ∃ M' x, Step M w0 M' w' none' ∧ v' = .tuple #[x, .int .i64 (if rises (-1) l then 0 else 1)] ∧ Own RT.u8 5 M' w' w0.heap.size x (if rises (-1) l then b ++ putRising l else [])) := by
 have hpl := put_len9 (n := l.length) (by omega)
 refine spec_of (args := [_, _]) (fn := Tryz.f174) Tryz.func174 rfl (n := 31) Tryz.ntmps174 ?_
 refine T.seq ?_
 refine T.region ?_
 refine Rg.assign rfl rfl ?_
 refine Rg.assign rfl rfl ?_
 refine Rg.nil ?_
 refine T.seq ?_
 refine T.region ?_
 refine Rg.move rfl rfl ?_
 refine Rg.move rfl rfl ?_
 refine Rg.lensl Tryz.underlying32 rfl hu rfl ?_
 refine Rg.call rfl rfl E173 (Put_own (M := M) hM hv (by omega) (by omega)) (fun ub wb hb2 => ?_)
 obtain ⟨Mb, sb, hob⟩ := hb2
 refine Rg.assign rfl rfl ?_
 refine Rg.nil ?_
 refine T.seq ?_
 refine T.region ?_
 refine Rg.assign rfl rfl ?_
 refine Rg.nil ?_
 refine T.seq ?_
 refine T.seq ?_
 refine T.region ?_
 refine Rg.move rfl rfl ?_
 refine Rg.lensl Tryz.underlying32 rfl hu rfl ?_
 refine Rg.move rfl rfl ?_
 refine Rg.nil ?_
 refine T.block ?_
 refine T.loop (σ := Nat × Int × Value × List UInt8) (fun s => [(0, s.2.2.1), (6, .int .i64 s.2.1), (13, u), (14, .int .i64 l.length), (15, .int .i64 s.1)]) (fun s w => rises (-1) l = rises s.2.1 (l.drop s.1) ∧ (rises (-1) l = true → s.2.2.2 ++ putR s.2.1 (l.drop s.1) = b ++ putRising l) ∧ s.1 ≤ l.length ∧ -1 ≤ s.2.1 ∧ s.2.2.2.length ≤ b.length + 9 * (s.1 + 1) ∧ ∃ M1, Lt M1 w ∧ Step M w0 M1 w none' ∧ Own RT.u8 5 M1 w w0.heap.size s.2.2.1 s.2.2.2) (fun s => l.length - s.1) (0, -1, _, b ++ put l.length) (.cons rfl (.cons rfl (.cons rfl (.cons rfl (.cons rfl .nil))))) ?_ ?_
 ·exact ⟨rfl, fun _ => by simp [putRising], Nat.zero_le _, by simp only; omega, by simp; omega, Mb, sb.lt hM, sb, hob⟩
 ·rintro ⟨k, last, u0, acc⟩ w1 ⟨hr, hacc, hk, hl0, hal, M1, hM1, s1, ho⟩
  dsimp only at hr hacc hk hl0 hal ho ⊢
  refine T.seq ?_
  refine T.region ?_
  refine Rg.ilt rfl rfl rfl ?_
  refine Rg.nil ?_
  refine T.seq ?_
  refine T.ifp rfl (fun c4 => ?_) (fun c4 => ?_)
  ·refine T.skip ?_
   refine T.seq ?_
   refine T.block ?_
   refine T.seq ?_
   refine T.region ?_
   obtain ⟨x, hx⟩ : ∃ x, l[k]? = some x := ⟨_, List.getElem?_eq_getElem (by omega)⟩
   have hxr := i64_of hu hx
   refine Rg.idx (M := M) Tryz.underlying32 I3 rfl rfl rfl (hu.le (s1.back).le) (Le.refl _ _) (by omega) (fun u5_0 a5_0 hg5_0 hu5_0 => ?_)
   obtain rfl : a5_0 = x := Option.some.inj (hg5_0.symm.trans (by simpa using hx))
   refine Rg.loadi64 (M := M) Tryz.underlying3 rfl rfl hu5_0 (Le.refl _ _) (fun _ => ?_)
   refine Rg.assign rfl rfl ?_
   refine Rg.nil ?_
   refine T.seq ?_
   refine T.seq ?_
   refine T.region ?_
   refine Rg.move rfl rfl ?_
   refine Rg.move rfl rfl ?_
   refine Rg.ile rfl rfl rfl ?_
   refine Rg.nil ?_
   refine T.ifp rfl (fun c6 => ?_) (fun c6 => ?_)
   ·refine T.seq ?_
    refine T.region ?_
    refine Rg.assign rfl rfl ?_
    refine Rg.assign rfl rfl ?_
    refine Rg.nil ?_
    refine T.ret ?_
    have hrf : rises (-1) l = false := by rw [hr, rises_drop hx, decide_eq_false (by omega), Bool.false_and]
    exact Kret2 rfl rfl rfl ⟨M1, _, s1, by rw [hrf]; rfl, by rw [hrf]; exact Own.nil _ _ _ _ _⟩
   ·refine T.skip ?_
    refine T.seq ?_
    refine T.region ?_
    refine Rg.move rfl rfl ?_
    refine Rg.move rfl rfl ?_
    refine Rg.move rfl rfl ?_
    refine Rg.subw rfl rfl rfl ?_
    refine Rg.subw rfl rfl rfl ?_
    have hpx := put_len9 (n := (a5_0 - last - 1).toNat) (by omega)
    refine Rg.eqv (v' := .int .i64 (((a5_0 - last - 1).toNat : Nat) : Int)) (by rw [IntKind.wrap_i64, IntKind.wrap_i64]; congr 1; omega) ?_
    have hfz := s1.freeze (v := u0) (fun b hb => (ho.base b hb).1)
    refine Rg.call rfl rfl E173 (Put_own (M := rm M1 u0) (hM1.rm u0) (ho.view (by omega)) (by omega) (by omega)) (fun ub wb hb2 => ?_)
    obtain ⟨Mb2, sb2, hob2⟩ := hb2
    refine Rg.assign rfl rfl ?_
    refine Rg.nil ?_
    refine T.region ?_
    refine Rg.move rfl rfl ?_
    refine Rg.assign rfl rfl ?_
    refine Rg.nil ?_
    refine T.region ?_
    refine Rg.iadd rfl rfl rfl (by omega) ?_
    refine Rg.move rfl rfl ?_
    refine Rg.nil ?_
    refine ⟨rfl, (k + 1, a5_0, ub, acc ++ put (a5_0 - last - 1).toNat), (.cons rfl (.cons rfl (.cons rfl (.cons rfl (.cons rfl .nil))))), ?_, ?_⟩
    ·refine ⟨?_, fun h => ?_, by simp only; omega, by simp only; omega, by simp only [List.length_append]; omega, Mb2, sb2.lt (hM1.rm u0), hfz.trans0 sb2, hob2.rebase s1.size⟩
     ·rw [hr, rises_drop hx, decide_eq_true (by omega), Bool.true_and]
     ·rw [← hacc h, putR_drop hx]; simp
    ·simp only; omega
  ·refine T.exit ?_
   refine T.seq ?_
   refine T.region ?_
   refine Rg.move rfl rfl ?_
   refine Rg.assign rfl rfl ?_
   refine Rg.assign rfl rfl ?_
   refine Rg.nil ?_
   refine T.ret ?_
   have hrt : rises (-1) l = true := by rw [hr, List.drop_eq_nil_of_le (by omega)]; rfl
   have ha := hacc hrt
   rw [List.drop_eq_nil_of_le (by omega), putR, List.append_nil] at ha
   exact Kret2 rfl rfl rfl ⟨M1, _, s1, by rw [hrt]; rfl, by rw [hrt, ← ha]; exact ho⟩
theorem PutRising_spec {M : PSet} {w0 : World} {v u : Value} {b : List UInt8} {l : List Int} (hM : Lt M w0) (hv : (RT.u8.sl).V M w0 b v) (hu : ((RT.int .i64).sl).V M w0 l u) (hb : b.length + 9 * (l.length + 1) ≤ 70368744177664) :
  Spec Tryz.prog 174 #[v, u] w0 (fun v' w' => ∃ x, Step M w0 M w' none' ∧ v' = .tuple #[x, .int .i64 (if rises (-1) l then 0 else 1)] ∧ (RT.u8.sl).V M w' (if rises (-1) l then b ++ putRising l else []) x) :=
 (PutRising_own hM hv hu hb).mono fun _ _ ⟨_, x, s, h, ho⟩ => ⟨x, s.back, h, Own.close hM s ho (by
  split
  next hr =>
   have hpl := put_len9 (n := l.length) (by omega)
   have hall : ∀ x ∈ l, x ≤ 9223372036854775807 := fun x hx => by obtain ⟨i, hi⟩ := List.mem_iff_getElem?.1 hx; exact (i64_of hu hi).2
   have := putR_len l (-1) (by decide) hall hr
   simp only [putRising, List.length_append]; omega
  next => simp)⟩
theorem take_spec {M : PSet} {w0 : World} {be bb ba : Nat} {v : Value} {b : List UInt8} {at_ : Int} (he : w0.heap[be]? = some (.cells #[.int .i64 0] 26 (0, 0))) (hb : w0.heap[bb]? = some (.cells #[v] 147 (0, 0))) (ha : w0.heap[ba]? = some (.cells #[.int .i64 at_] 3 (0, 0))) (hne : be ≠ ba) (hMe : M be) (hMa : M ba) (hv : (RT.u8.sl).V M w0 b v) (hat : -9223372036854775808 ≤ at_ ∧ at_ ≤ 9223372036854775807) :
  Spec Tryz.prog 274 #[.pointer (some ⟨be, 0, none⟩), .pointer (some ⟨bb, 0, none⟩), .pointer (some ⟨ba, 0, none⟩)] w0 (fun v' w' => v' = .int .i64 (get b at_).1 ∧ w'.heap[be]? = some (.cells #[.int .i64 (get b at_).2.2] 26 (0, 0)) ∧ w'.heap[ba]? = some (.cells #[.int .i64 (get b at_).2.1] 3 (0, 0)) ∧ Step M w0 M w' (fun k => k = be ∨ k = ba)) := by
 refine spec_of (args := [_, _, _]) (fn := Tryz.f274) Tryz.func274 rfl (n := 15) Tryz.ntmps274 ?_
 refine T.seq ?_
 refine T.region ?_
 refine Rg.assign rfl rfl ?_
 refine Rg.nil ?_
 refine T.seq ?_
 refine T.seq ?_
 refine T.region ?_
 refine Rg.loadc Tryz.underlying26 rfl rfl rfl (by assumption) rfl ?_
 refine Rg.ine rfl rfl rfl ?_
 refine Rg.nil ?_
 refine T.ifp rfl (fun c1 => ?_) (fun c1 => ?_)
 ·exact absurd rfl c1
 ·refine T.skip ?_
  refine T.seq ?_
  refine T.region ?_
  refine Rg.assign rfl rfl ?_
  refine Rg.nil ?_
  refine T.seq ?_
  refine T.region ?_
  refine Rg.loadc Tryz.underlying147 rfl rfl rfl (by assumption) rfl ?_
  refine Rg.loadc Tryz.underlying3 rfl rfl rfl (by assumption) rfl ?_
  refine Rg.call rfl rfl E250 (Get_spec hv hat) (fun r w1 h1 => ?_)
  obtain ⟨rfl, rfl⟩ := h1
  refine Rg.move rfl rfl ?_
  refine Rg.extract rfl rfl rfl ?_
  refine Rg.extract rfl rfl rfl ?_
  refine Rg.extract rfl rfl rfl ?_
  refine Rg.assign rfl rfl ?_
  refine Rg.storec (M := M) I3 rfl rfl ha rfl rfl hMa (fun w1 h1 s1 => ?_)
  refine Rg.storec (M := M) I26 rfl rfl (s1.keep he hne) rfl rfl hMe (fun w2 h2 s2 => ?_)
  refine Rg.nil ?_
  refine T.seq ?_
  refine T.region ?_
  refine Rg.move rfl rfl ?_
  refine Rg.assign rfl rfl ?_
  refine Rg.nil ?_
  refine T.ret ?_
  refine Kret1 rfl rfl ⟨rfl, h2, s2.keep h1 (Ne.symm hne), ?_⟩
  exact (s1.widen (fun b hb => .inr hb) (fun b hb => by rcases hb with rfl | rfl <;> assumption)).trans s2 (fun b _ hb => .inl hb)
theorem GetRising_spec {M : PSet} {w0 : World} {v : Value} {b : List UInt8} {at_ : Int} (hM : Lt M w0) (hv : (RT.u8.sl).V M w0 b v) (hat : -9223372036854775808 ≤ at_ ∧ at_ ≤ 9223372036854775807) (hbl : b.length ≤ 1099511627776) :
  Spec Tryz.prog 251 #[v, .int .i64 at_] w0 (fun v' w' => ∃ x, v' = .tuple #[x, .int .i64 (getRising b at_).2.2, .int .i64 (getRising b at_).1] ∧ ((RT.int .i64).sl).V M w' (getRising b at_).2.1 x ∧ Step M w0 M w' none') := by
 refine spec_of (args := [_, _]) (fn := Tryz.f251) Tryz.func251 rfl (n := 48) Tryz.ntmps251 ?_
 refine T.seq ?_
 refine T.region ?_
 refine Rg.box M rfl rfl (fun bb w1 hbb hbb' hB s1 => ?_)
 rw [V_cells hv] at hB
 refine Rg.box (ins M bb) rfl rfl (fun ba w2 hba hba' hA s2 => ?_)
 refine Rg.assign rfl rfl ?_
 refine Rg.assign rfl rfl ?_
 refine Rg.assign rfl rfl ?_
 refine Rg.nil ?_
 refine T.seq ?_
 refine T.region ?_
 refine Rg.alloc (ins (ins M bb) ba) I26 rfl (fun be w3 hbe hbe' hE s3 => ?_)
 refine Rg.storec (M := ins (ins (ins M bb) ba) be) I26 rfl rfl hE rfl rfl (.inl rfl) (fun w4 hE4 s4 => ?_)
 have z1 := s1.size; have z2 := s2.size; have z3 := s3.size; have z4 := s4.size
 have S4 : Step M w0 (ins (ins (ins M bb) ba) be) w4 none' := ((s1.trans0 s2).trans0 s3).transNew s4 (fun k hk => by subst hk; omega)
 have hB4 := s4.keep (s3.same0 (s2.same0 hB)) (show bb ≠ be by omega)
 have hA4 := s4.keep (s3.same0 hA) (show ba ≠ be by omega)
 refine Rg.nil ?_
 refine T.seq ?_
 refine T.region ?_
 refine Rg.makeFunc (xs := []) rfl rfl rfl ?_
 refine Rg.assign rfl rfl ?_
 refine Rg.nil ?_
 refine T.seq ?_
 refine T.region ?_
 refine Rg.assign rfl rfl ?_
 refine Rg.nil ?_
 refine T.seq ?_
 refine T.region ?_
 refine Rg.assign rfl rfl ?_
 refine Rg.nil ?_
 refine T.seq ?_
 refine T.seq ?_
 refine T.region ?_
 refine Rg.move rfl rfl ?_
 refine Rg.callv (first := []) (xs := []) rfl rfl rfl E274 (take_spec (M := ins (ins (ins M bb) ba) be) hE4 hB4 hA4 (by omega) (.inl rfl) (.inr (.inl rfl)) (hv.le S4.le) hat) (fun r w5 h5 => ?_)
 obtain ⟨rfl, hE5, hA5, s5⟩ := h5
 have z5 := s5.size
 have S5 := S4.transNew s5 (fun k hk => by omega)
 have hB5 := s5.keep hB4 (by omega)
 obtain ⟨hn0, hn1, hn2, hn3⟩ := get_nonneg b at_
 refine Rg.eqv (v' := .int .i64 (((get b at_).1.toNat : Nat) : Int)) (by rw [Int.toNat_of_nonneg hn0]) ?_
 refine Rg.assign rfl rfl ?_
 refine Rg.nil ?_
 refine T.block ?_
 refine T.loop (σ := Nat × Int × Value × List Int × Int × Int) (fun s => [(7, .pointer (some ⟨be, 0, none⟩)), (3, .pointer (some ⟨ba, 0, none⟩)), (8, .func (.func 274) [].toArray [.pointer (some ⟨be, 0, none⟩), .pointer (some ⟨bb, 0, none⟩), .pointer (some ⟨ba, 0, none⟩)].toArray), (9, s.2.2.1), (10, .int .i64 s.2.1), (11, .int .i64 s.1)]) (fun s w => (s.1 : Int) ≤ 9223372036854775807 ∧ (s.2.2.2.2.1 = 0 → getRising b at_ = andThen s.2.2.2.1 (getRL b s.1 s.2.2.2.2.2 s.2.1)) ∧ (s.2.2.2.2.1 ≠ 0 → getRising b at_ = (s.2.2.2.2.1, [], 0)) ∧ (s.2.2.2.2.1 = 0 → -1 ≤ s.2.1 ∧ s.2.1 ≤ 4611686018427387904 ∧ (s.2.2.2.1.length : Int) ≤ s.2.2.2.2.2 ∧ s.2.2.2.2.2 ≤ b.length) ∧ s.2.2.2.1.length ≤ b.length + 1 ∧ ∃ M1, Lt M1 w ∧ Step M w0 M1 w none' ∧ w4.heap.size ≤ w.heap.size ∧ M1 be ∧ M1 ba ∧ Own (RT.int .i64) 3 M1 w w4.heap.size s.2.2.1 s.2.2.2.1 ∧ w.heap[be]? = some (.cells #[.int .i64 s.2.2.2.2.1] 26 (0, 0)) ∧ w.heap[ba]? = some (.cells #[.int .i64 s.2.2.2.2.2] 3 (0, 0)) ∧ w.heap[bb]? = some (.cells #[v] 147 (0, 0))) (fun s => s.1) ((get b at_).1.toNat, -1, _, [], (get b at_).2.2, (get b at_).2.1) (.cons rfl (.cons rfl (.cons rfl (.cons rfl (.cons rfl (.cons rfl .nil)))))) ?_ ?_
 ·refine ⟨by have := get_range b at_; simp only; omega, fun h => ?_, fun h => ?_, fun h => ?_, by simp, _, S5.lt hM, S5, z5, .inl rfl, .inr (.inl rfl), Own.nil _ _ _ _ _, hE5, hA5, hB5⟩
  ·unfold getRising; rw [if_neg (by simpa using h)]; exact (andThen_nil _ (getRL_err b _ _ _)).symm
  ·unfold getRising; rw [if_pos h]
  ·have := get_ok h; simp only [List.length_nil]; omega
 ·rintro ⟨many, last, u0, acc, e, a1⟩ wl ⟨hmb, hp1, hp2, hok, hal, M1, hM1, S, zl, hMe, hMa, ho, hE, hA, hB⟩
  dsimp only at hmb hp1 hp2 hok hal ho hE hA hB ⊢
  refine T.seq ?_
  refine T.seq ?_
  refine T.region ?_
  refine Rg.move rfl rfl ?_
  refine Rg.igt rfl rfl rfl ?_
  refine Rg.move rfl rfl ?_
  refine Rg.gsplitp (g := 18) rfl (fun g6_2 => ?_) (fun g6_2 => ?_)
  ·refine Rg.gyes rfl rfl ?_
   refine Rg.loadc Tryz.underlying26 rfl rfl rfl (by assumption) rfl ?_
   refine Rg.gyes rfl rfl ?_
   refine Rg.ieq rfl rfl rfl ?_
   refine Rg.pickt rfl rfl rfl ?_
   refine Rg.nil ?_
   refine T.ifp rfl (fun c6 => ?_) (fun c6 => ?_)
   ·refine T.skip ?_
    refine T.seq ?_
    refine T.block ?_
    refine T.seq ?_
    refine T.region ?_
    refine Rg.move rfl rfl ?_
    refine Rg.callv (first := []) (xs := []) rfl rfl rfl E274 (take_spec (M := M1) (by rw [c6] at hE; exact hE) hB hA (by omega) hMe hMa (hv.le S.le) (by have := hok c6; omega)) (fun r w6 h6 => ?_)
    obtain ⟨rfl, hE6, hA6, s6⟩ := h6
    have z6 := s6.size
    have S6 := S.transNew s6 (fun k hk => by omega)
    have hB6 := s6.keep hB (by omega)
    have ho6 := ho.step s6 (fun k hk h => by have := (ho.base k hk).1; omega)
    have hM6 := s6.lt hM1
    obtain ⟨hn0, hn1, hn2, hn3⟩ := get_nonneg b a1
    obtain ⟨hk1, hk2, hk3, hk4⟩ := hok c6
    refine Rg.assign rfl rfl ?_
    refine Rg.nil ?_
    refine T.seq ?_
    refine T.seq ?_
    refine T.region ?_
    refine Rg.loadc Tryz.underlying26 rfl rfl rfl (by assumption) rfl ?_
    refine Rg.ieq rfl rfl rfl ?_
    refine Rg.move rfl rfl ?_
    refine Rg.gsplitp (g := 28) rfl (fun g9_2 => ?_) (fun g9_2 => ?_)
    ·refine Rg.gyes rfl rfl ?_
     refine Rg.move rfl rfl ?_
     refine Rg.gyes rfl rfl ?_
     refine Rg.move rfl rfl ?_
     refine Rg.gyes rfl rfl ?_
     refine Rg.isub rfl rfl rfl (by omega) ?_
     refine Rg.gyes rfl rfl ?_
     refine Rg.isub rfl rfl rfl (by omega) ?_
     refine Rg.gyes rfl rfl ?_
     refine Rg.igt rfl rfl rfl ?_
     refine Rg.pickt rfl rfl rfl ?_
     refine Rg.nil ?_
     refine T.ifp rfl (fun c9 => ?_) (fun c9 => ?_)
     ·refine T.region ?_
      refine Rg.storec (M := M1) I26 rfl rfl hE6 rfl rfl hMe (fun w7 hE7 s7 => ?_)
      have z7 := s7.size
      replace S6 := S6.transNew s7 (fun k hk => by subst hk; omega)
      replace hB6 := s7.keep hB6 (show bb ≠ be by omega)
      replace hA6 := s7.keep hA6 (show ba ≠ be by omega)
      replace ho6 := ho6.step s7 (fun k hk h => by have := (ho.base k hk).1; omega)
      replace hM6 := s7.lt hM6
      replace hE6 := hE7
      refine Rg.nil ?_
      refine T.seq ?_
      refine T.region ?_
      refine Rg.move rfl rfl ?_
      refine Rg.move rfl rfl ?_
      refine Rg.addw rfl rfl rfl ?_
      refine Rg.addw rfl rfl rfl ?_
      refine Rg.assign rfl rfl ?_
      refine Rg.nil ?_
      refine T.region ?_
      refine Rg.move rfl rfl ?_
      refine Rg.move rfl rfl ?_
      refine Rg.sl1 (A := RT.int .i64) (hn := by decide) (M := M1) Tryz.underlying32 I3 (by decide) rfl rfl hM6 (V_i64 (wrap_range _)) (.inr ⟨rfl, rfl⟩) (fun u w8 hu s8 => ?_)
      refine Rg.append (M := M1) (base := w4.heap.size) Tryz.underlying32 I3 rfl rfl rfl rfl (ho6.step0 s8) hu (Le.refl _ _) (by simp; omega) (by simp; omega) (by have := s8.size; omega) (fun v9 M9 w9 ho9 s9 => ?_)
      have z8 := s8.size; have z9 := s9.size
      have hno : ∀ k, k < w4.heap.size → ¬ blk u0 k := fun k hk h => by have := (ho.base k h).1; omega
      have hE9 := s9.keep (s8.same0 hE6) (hno be (by omega))
      have hA9 := s9.keep (s8.same0 hA6) (hno ba (by omega))
      have hB9 := s9.keep (s8.same0 hB6) (hno bb (by omega))
      have S9 := (S6.trans0 s8).transBlk s9 (ho6.step0 s8) (by omega)
      have hM9 := s9.lt (s8.lt hM6)
      have hMe9 : M9 be := (s9.mem be (by omega)).2 hMe
      have hMa9 : M9 ba := (s9.mem ba (by omega)).2 hMa
      refine Rg.assign rfl rfl ?_
      refine Rg.nil ?_
      refine T.region ?_
      refine Rg.move rfl rfl ?_
      refine Rg.isub rfl rfl rfl (by omega) ?_
      refine Rg.assign rfl rfl ?_
      refine Rg.nil ?_
      refine ⟨rfl, (many - 1, (IntKind.i64.wrap (last + IntKind.i64.wrap ((get b a1).1 + 1))), v9, acc ++ [(IntKind.i64.wrap (last + IntKind.i64.wrap ((get b a1).1 + 1)))], (if (get b a1).2.2 = 0 ∧ 4611686018427387904 - last - 1 < (get b a1).1 then 2 else (get b a1).2.2), (get b a1).2.1), (.cons rfl (.cons rfl (.cons rfl (.cons rfl (.cons rfl (.cons (show some (Value.int .i64 ((many : Int) - 1)) = some (Value.int .i64 ((many - 1 : Nat) : Int)) from by congr 2; omega) .nil)))))), ?_, ?_⟩
      ·have hx : (get b a1).2.2 = 0 → ¬ 4611686018427387904 - last - 1 < (get b a1).1 → (IntKind.i64.wrap (last + IntKind.i64.wrap ((get b a1).1 + 1))) = last + 1 + (get b a1).1 := fun h1 h2 => by rw [IntWalk.i64_in ((get b a1).1 + 1) (by omega), IntWalk.i64_in _ (by omega)]; omega
       have hm1 : many = (many - 1) + 1 := by omega
       have hp1' := hp1 c6
       rw [hm1] at hp1'
       refine ⟨by simp only; omega, fun h => ?_, fun h => ?_, fun h => ?_, by have := hok c6; simp only [List.length_append, List.length_cons, List.length_nil]; omega, M9, hM9, S9, by omega, hMe9, hMa9, ho9, ?_, hA9, hB9⟩
       ·dsimp only at h ⊢
        have h3 : (get b a1).2.2 = 0 ∧ ¬ 4611686018427387904 - last - 1 < (get b a1).1 := by split at h <;> omega
        rw [hp1', andThen_next acc h3.1 h3.2, hx h3.1 h3.2]
       ·dsimp only at h ⊢
        rw [hp1']
        split
        ·rename_i h4; rw [getRL_big h4.1 h4.2]; rfl
        ·rename_i h4
         have h5 : (get b a1).2.2 ≠ 0 := by intro h6; rw [if_neg h4] at h; exact h h6
         rw [getRL_fail h5]; unfold andThen; rw [if_pos h5]
       ·dsimp only at h ⊢
        have h3 : (get b a1).2.2 = 0 ∧ ¬ 4611686018427387904 - last - 1 < (get b a1).1 := by split at h <;> omega
        have := get_ok h3.1
        rw [hx h3.1 h3.2]; simp only [List.length_append, List.length_cons, List.length_nil]; omega
       ·dsimp only
        first
        |(rw [if_pos ⟨g9_2, c9⟩]; exact hE9)
        |(rw [if_neg (fun h => c9 h.2)]; exact hE9)
        |(rw [if_neg (fun h => g9_2 h.1)]; exact hE9)
      ·simp only; omega
     ·refine T.skip ?_
      refine T.seq ?_
      refine T.region ?_
      refine Rg.move rfl rfl ?_
      refine Rg.move rfl rfl ?_
      refine Rg.addw rfl rfl rfl ?_
      refine Rg.addw rfl rfl rfl ?_
      refine Rg.assign rfl rfl ?_
      refine Rg.nil ?_
      refine T.region ?_
      refine Rg.move rfl rfl ?_
      refine Rg.move rfl rfl ?_
      refine Rg.sl1 (A := RT.int .i64) (hn := by decide) (M := M1) Tryz.underlying32 I3 (by decide) rfl rfl hM6 (V_i64 (wrap_range _)) (.inr ⟨rfl, rfl⟩) (fun u w8 hu s8 => ?_)
      refine Rg.append (M := M1) (base := w4.heap.size) Tryz.underlying32 I3 rfl rfl rfl rfl (ho6.step0 s8) hu (Le.refl _ _) (by simp; omega) (by simp; omega) (by have := s8.size; omega) (fun v9 M9 w9 ho9 s9 => ?_)
      have z8 := s8.size; have z9 := s9.size
      have hno : ∀ k, k < w4.heap.size → ¬ blk u0 k := fun k hk h => by have := (ho.base k h).1; omega
      have hE9 := s9.keep (s8.same0 hE6) (hno be (by omega))
      have hA9 := s9.keep (s8.same0 hA6) (hno ba (by omega))
      have hB9 := s9.keep (s8.same0 hB6) (hno bb (by omega))
      have S9 := (S6.trans0 s8).transBlk s9 (ho6.step0 s8) (by omega)
      have hM9 := s9.lt (s8.lt hM6)
      have hMe9 : M9 be := (s9.mem be (by omega)).2 hMe
      have hMa9 : M9 ba := (s9.mem ba (by omega)).2 hMa
      refine Rg.assign rfl rfl ?_
      refine Rg.nil ?_
      refine T.region ?_
      refine Rg.move rfl rfl ?_
      refine Rg.isub rfl rfl rfl (by omega) ?_
      refine Rg.assign rfl rfl ?_
      refine Rg.nil ?_
      refine ⟨rfl, (many - 1, (IntKind.i64.wrap (last + IntKind.i64.wrap ((get b a1).1 + 1))), v9, acc ++ [(IntKind.i64.wrap (last + IntKind.i64.wrap ((get b a1).1 + 1)))], (if (get b a1).2.2 = 0 ∧ 4611686018427387904 - last - 1 < (get b a1).1 then 2 else (get b a1).2.2), (get b a1).2.1), (.cons rfl (.cons rfl (.cons rfl (.cons rfl (.cons rfl (.cons (show some (Value.int .i64 ((many : Int) - 1)) = some (Value.int .i64 ((many - 1 : Nat) : Int)) from by congr 2; omega) .nil)))))), ?_, ?_⟩
      ·have hx : (get b a1).2.2 = 0 → ¬ 4611686018427387904 - last - 1 < (get b a1).1 → (IntKind.i64.wrap (last + IntKind.i64.wrap ((get b a1).1 + 1))) = last + 1 + (get b a1).1 := fun h1 h2 => by rw [IntWalk.i64_in ((get b a1).1 + 1) (by omega), IntWalk.i64_in _ (by omega)]; omega
       have hm1 : many = (many - 1) + 1 := by omega
       have hp1' := hp1 c6
       rw [hm1] at hp1'
       refine ⟨by simp only; omega, fun h => ?_, fun h => ?_, fun h => ?_, by have := hok c6; simp only [List.length_append, List.length_cons, List.length_nil]; omega, M9, hM9, S9, by omega, hMe9, hMa9, ho9, ?_, hA9, hB9⟩
       ·dsimp only at h ⊢
        have h3 : (get b a1).2.2 = 0 ∧ ¬ 4611686018427387904 - last - 1 < (get b a1).1 := by split at h <;> omega
        rw [hp1', andThen_next acc h3.1 h3.2, hx h3.1 h3.2]
       ·dsimp only at h ⊢
        rw [hp1']
        split
        ·rename_i h4; rw [getRL_big h4.1 h4.2]; rfl
        ·rename_i h4
         have h5 : (get b a1).2.2 ≠ 0 := by intro h6; rw [if_neg h4] at h; exact h h6
         rw [getRL_fail h5]; unfold andThen; rw [if_pos h5]
       ·dsimp only at h ⊢
        have h3 : (get b a1).2.2 = 0 ∧ ¬ 4611686018427387904 - last - 1 < (get b a1).1 := by split at h <;> omega
        have := get_ok h3.1
        rw [hx h3.1 h3.2]; simp only [List.length_append, List.length_cons, List.length_nil]; omega
       ·dsimp only
        first
        |(rw [if_pos ⟨g9_2, c9⟩]; exact hE9)
        |(rw [if_neg (fun h => c9 h.2)]; exact hE9)
        |(rw [if_neg (fun h => g9_2 h.1)]; exact hE9)
      ·simp only; omega
    ·refine Rg.gno rfl rfl rfl rfl ?_
     refine Rg.gno rfl rfl rfl rfl ?_
     refine Rg.gno rfl rfl rfl rfl ?_
     refine Rg.gno rfl rfl rfl rfl ?_
     refine Rg.gno rfl rfl rfl rfl ?_
     refine Rg.pickf rfl rfl rfl ?_
     refine Rg.nil ?_
     refine T.iff rfl ?_
     refine T.skip ?_
     refine T.seq ?_
     refine T.region ?_
     refine Rg.move rfl rfl ?_
     refine Rg.move rfl rfl ?_
     refine Rg.addw rfl rfl rfl ?_
     refine Rg.addw rfl rfl rfl ?_
     refine Rg.assign rfl rfl ?_
     refine Rg.nil ?_
     refine T.region ?_
     refine Rg.move rfl rfl ?_
     refine Rg.move rfl rfl ?_
     refine Rg.sl1 (A := RT.int .i64) (hn := by decide) (M := M1) Tryz.underlying32 I3 (by decide) rfl rfl hM6 (V_i64 (wrap_range _)) (.inr ⟨rfl, rfl⟩) (fun u w8 hu s8 => ?_)
     refine Rg.append (M := M1) (base := w4.heap.size) Tryz.underlying32 I3 rfl rfl rfl rfl (ho6.step0 s8) hu (Le.refl _ _) (by simp; omega) (by simp; omega) (by have := s8.size; omega) (fun v9 M9 w9 ho9 s9 => ?_)
     have z8 := s8.size; have z9 := s9.size
     have hno : ∀ k, k < w4.heap.size → ¬ blk u0 k := fun k hk h => by have := (ho.base k h).1; omega
     have hE9 := s9.keep (s8.same0 hE6) (hno be (by omega))
     have hA9 := s9.keep (s8.same0 hA6) (hno ba (by omega))
     have hB9 := s9.keep (s8.same0 hB6) (hno bb (by omega))
     have S9 := (S6.trans0 s8).transBlk s9 (ho6.step0 s8) (by omega)
     have hM9 := s9.lt (s8.lt hM6)
     have hMe9 : M9 be := (s9.mem be (by omega)).2 hMe
     have hMa9 : M9 ba := (s9.mem ba (by omega)).2 hMa
     refine Rg.assign rfl rfl ?_
     refine Rg.nil ?_
     refine T.region ?_
     refine Rg.move rfl rfl ?_
     refine Rg.isub rfl rfl rfl (by omega) ?_
     refine Rg.assign rfl rfl ?_
     refine Rg.nil ?_
     refine ⟨rfl, (many - 1, (IntKind.i64.wrap (last + IntKind.i64.wrap ((get b a1).1 + 1))), v9, acc ++ [(IntKind.i64.wrap (last + IntKind.i64.wrap ((get b a1).1 + 1)))], (if (get b a1).2.2 = 0 ∧ 4611686018427387904 - last - 1 < (get b a1).1 then 2 else (get b a1).2.2), (get b a1).2.1), (.cons rfl (.cons rfl (.cons rfl (.cons rfl (.cons rfl (.cons (show some (Value.int .i64 ((many : Int) - 1)) = some (Value.int .i64 ((many - 1 : Nat) : Int)) from by congr 2; omega) .nil)))))), ?_, ?_⟩
     ·have hx : (get b a1).2.2 = 0 → ¬ 4611686018427387904 - last - 1 < (get b a1).1 → (IntKind.i64.wrap (last + IntKind.i64.wrap ((get b a1).1 + 1))) = last + 1 + (get b a1).1 := fun h1 h2 => by rw [IntWalk.i64_in ((get b a1).1 + 1) (by omega), IntWalk.i64_in _ (by omega)]; omega
      have hm1 : many = (many - 1) + 1 := by omega
      have hp1' := hp1 c6
      rw [hm1] at hp1'
      refine ⟨by simp only; omega, fun h => ?_, fun h => ?_, fun h => ?_, by have := hok c6; simp only [List.length_append, List.length_cons, List.length_nil]; omega, M9, hM9, S9, by omega, hMe9, hMa9, ho9, ?_, hA9, hB9⟩
      ·dsimp only at h ⊢
       have h3 : (get b a1).2.2 = 0 ∧ ¬ 4611686018427387904 - last - 1 < (get b a1).1 := by split at h <;> omega
       rw [hp1', andThen_next acc h3.1 h3.2, hx h3.1 h3.2]
      ·dsimp only at h ⊢
       rw [hp1']
       split
       ·rename_i h4; rw [getRL_big h4.1 h4.2]; rfl
       ·rename_i h4
        have h5 : (get b a1).2.2 ≠ 0 := by intro h6; rw [if_neg h4] at h; exact h h6
        rw [getRL_fail h5]; unfold andThen; rw [if_pos h5]
      ·dsimp only at h ⊢
       have h3 : (get b a1).2.2 = 0 ∧ ¬ 4611686018427387904 - last - 1 < (get b a1).1 := by split at h <;> omega
       have := get_ok h3.1
       rw [hx h3.1 h3.2]; simp only [List.length_append, List.length_cons, List.length_nil]; omega
      ·dsimp only
       first
       |(rw [if_pos ⟨g9_2, c9⟩]; exact hE9)
       |(rw [if_neg (fun h => c9 h.2)]; exact hE9)
       |(rw [if_neg (fun h => g9_2 h.1)]; exact hE9)
     ·simp only; omega
   ·refine T.exit ?_
    refine T.seq ?_
    refine T.seq ?_
    refine T.region ?_
    refine Rg.loadc Tryz.underlying26 rfl rfl rfl (by assumption) rfl ?_
    refine Rg.ine rfl rfl rfl ?_
    refine Rg.nil ?_
    refine T.ifp rfl (fun c13 => ?_) (fun c13 => ?_)
    ·refine T.seq ?_
     apply T.drawQ0 mixed rfl rfl
     intro wD14 sA14
     have sD14 := sA14 M1
     refine Rg.loadc Tryz.underlying26 rfl rfl rfl (by first | assumption | exact Step.same0 sD14 (by assumption)) rfl ?_
     refine Rg.nil ⟨rfl, rfl, rfl, ?_⟩
     refine Rg.assign rfl rfl ?_
     refine Rg.nil ⟨rfl, rfl, rfl, ?_⟩
     refine Rg.assign rfl rfl ?_
     refine Rg.nil ⟨rfl, rfl, rfl, ?_⟩
     refine Rg.assign rfl rfl ?_
     refine Rg.nil ⟨rfl, rfl, rfl, ?_⟩
     refine QRg.nil ?_
     refine T.ret ?_
     have hr := hp2 c13
     exact Kret3 rfl rfl rfl rfl ⟨_, by rw [hr] <;> rfl, by rw [hr]; exact V_nil, (S.trans0 sD14).back⟩
    ·refine T.skip ?_
     refine T.seq ?_
     apply T.drawQ0 mixed rfl rfl
     intro wD15 sA15
     have sD15 := sA15 M1
     refine Rg.move rfl rfl ?_
     refine Rg.nil ⟨rfl, rfl, rfl, ?_⟩
     refine Rg.loadc Tryz.underlying3 rfl rfl rfl (by first | assumption | exact Step.same0 sD15 (by assumption)) rfl ?_
     refine Rg.nil ⟨rfl, rfl, rfl, ?_⟩
     refine Rg.assign rfl rfl ?_
     refine Rg.nil ⟨rfl, rfl, rfl, ?_⟩
     refine Rg.assign rfl rfl ?_
     refine Rg.nil ⟨rfl, rfl, rfl, ?_⟩
     refine Rg.assign rfl rfl ?_
     refine Rg.nil ⟨rfl, rfl, rfl, ?_⟩
     refine QRg.nil ?_
     refine T.ret ?_
     have hz : many = 0 := by omega
     have hr := hp1 (by omega)
     rw [hz, getRL_zero] at hr
     simp only [andThen, ne_eq, not_true_eq_false, if_false, List.append_nil] at hr
     have S15 := S.trans0 sD15
     refine Kret3 rfl rfl rfl rfl ⟨_, by rw [hr] <;> rfl, ?_, S15.back⟩
     rw [hr]
     exact Own.close hM S15 ((ho.step0 sD15).rebase (by omega)) (by simp only; omega)
  ·refine Rg.gno rfl rfl rfl rfl ?_
   refine Rg.gno rfl rfl rfl rfl ?_
   refine Rg.pickf rfl rfl rfl ?_
   refine Rg.nil ?_
   refine T.iff rfl ?_
   refine T.exit ?_
   refine T.seq ?_
   refine T.seq ?_
   refine T.region ?_
   refine Rg.loadc Tryz.underlying26 rfl rfl rfl (by assumption) rfl ?_
   refine Rg.ine rfl rfl rfl ?_
   refine Rg.nil ?_
   refine T.ifp rfl (fun c13 => ?_) (fun c13 => ?_)
   ·refine T.seq ?_
    apply T.drawQ0 mixed rfl rfl
    intro wD14 sA14
    have sD14 := sA14 M1
    refine Rg.loadc Tryz.underlying26 rfl rfl rfl (by first | assumption | exact Step.same0 sD14 (by assumption)) rfl ?_
    refine Rg.nil ⟨rfl, rfl, rfl, ?_⟩
    refine Rg.assign rfl rfl ?_
    refine Rg.nil ⟨rfl, rfl, rfl, ?_⟩
    refine Rg.assign rfl rfl ?_
    refine Rg.nil ⟨rfl, rfl, rfl, ?_⟩
    refine Rg.assign rfl rfl ?_
    refine Rg.nil ⟨rfl, rfl, rfl, ?_⟩
    refine QRg.nil ?_
    refine T.ret ?_
    have hr := hp2 c13
    exact Kret3 rfl rfl rfl rfl ⟨_, by rw [hr] <;> rfl, by rw [hr]; exact V_nil, (S.trans0 sD14).back⟩
   ·refine T.skip ?_
    refine T.seq ?_
    apply T.drawQ0 mixed rfl rfl
    intro wD15 sA15
    have sD15 := sA15 M1
    refine Rg.move rfl rfl ?_
    refine Rg.nil ⟨rfl, rfl, rfl, ?_⟩
    refine Rg.loadc Tryz.underlying3 rfl rfl rfl (by first | assumption | exact Step.same0 sD15 (by assumption)) rfl ?_
    refine Rg.nil ⟨rfl, rfl, rfl, ?_⟩
    refine Rg.assign rfl rfl ?_
    refine Rg.nil ⟨rfl, rfl, rfl, ?_⟩
    refine Rg.assign rfl rfl ?_
    refine Rg.nil ⟨rfl, rfl, rfl, ?_⟩
    refine Rg.assign rfl rfl ?_
    refine Rg.nil ⟨rfl, rfl, rfl, ?_⟩
    refine QRg.nil ?_
    refine T.ret ?_
    have hz : many = 0 := by omega
    have hr := hp1 (by omega)
    rw [hz, getRL_zero] at hr
    simp only [andThen, ne_eq, not_true_eq_false, if_false, List.append_nil] at hr
    have S15 := S.trans0 sD15
    refine Kret3 rfl rfl rfl rfl ⟨_, by rw [hr] <;> rfl, ?_, S15.back⟩
    rw [hr]
    exact Own.close hM S15 ((ho.step0 sD15).rebase (by omega)) (by simp only; omega)
end Go.K
namespace Go.K
open Go.Proofs
set_option linter.unusedVariables false
set_option linter.unusedSimpArgs false
set_option maxRecDepth 10000
theorem is_spec {M : PSet} {w0 : World} {v : Value} {x : Li} (hv : PtrTo RT.li M w0 v x) {k : Int} :
  Spec Tryz.prog 214 #[v, .int .i64 k] w0 (fun v' w' => v' = .bool (isB x.2.1.length k) ∧ w0 = w') := by
 refine spec_of (args := [_, _]) (fn := Tryz.f214) Tryz.func214 rfl (n := 16) Tryz.ntmps214 ?_
 refine T.seq ?_
 refine T.region ?_
 refine Rg.assign rfl rfl ?_
 refine Rg.nil ?_
 refine T.seq ?_
 refine T.region ?_
 refine Rg.move rfl rfl ?_
 refine Rg.ige rfl rfl rfl ?_
 refine Rg.move rfl rfl ?_
 refine Rg.gsplitp (g := 7) rfl (fun g1_2 => ?_) (fun g1_2 => ?_)
 ·refine Rg.gyes rfl rfl ?_
  refine Rg.move rfl rfl ?_
  refine Rg.gyes rfl rfl ?_
  refine Rg.move rfl rfl ?_
  refine Rg.gyes rfl rfl ?_
  refine Rg.nilCheck rfl (PtrTo.isPtr (by assumption)) rfl ?_
  refine Rg.gyes rfl rfl ?_
  refine Rg.fieldAddr (M := M) (A := RT.li) (B := (RT.bl).sl) Tryz.underlying193 rfl rfl I191 (by decide) (li1) rfl rfl (by decide) (by assumption) (by repeat (first | exact Le.refl _ _ | refine Le.trans (Step.le (by assumption)) ?_)) (fun u1_6 hu1_6 => ?_)
  refine Rg.gyes rfl rfl ?_
  refine Rg.load (M := M) Tryz.underlying191 rfl rfl rfl rfl rfl (by assumption) (by repeat (first | exact Le.refl _ _ | refine Le.trans (Step.le (by assumption)) ?_)) (fun v1_7 hv1_7 => ?_)
  refine Rg.gyes rfl rfl ?_
  first | refine Rg.lensl Tryz.underlying191 rfl (by assumption) rfl ?_ | refine Rg.lenown Tryz.underlying191 rfl (by assumption) rfl ?_
  refine Rg.gyes rfl rfl ?_
  refine Rg.ilt rfl rfl rfl ?_
  refine Rg.pickt rfl rfl rfl ?_
  refine Rg.assign rfl rfl ?_
  refine Rg.nil ?_
  refine T.ret ?_
  first
  |exact Kret1 rfl rfl ⟨congrArg Value.bool (decide_eq_decide.2 (by omega)), rfl⟩
  |exact Kret1 rfl rfl ⟨congrArg Value.bool (Eq.symm (decide_eq_false (by omega))), rfl⟩
 ·refine Rg.gno rfl rfl rfl rfl ?_
  refine Rg.gno rfl rfl rfl rfl ?_
  refine Rg.gno rfl rfl rfl rfl ?_
  refine Rg.gno rfl rfl rfl rfl ?_
  refine Rg.gno rfl rfl rfl rfl ?_
  refine Rg.gno rfl rfl rfl rfl ?_
  refine Rg.gno rfl rfl rfl rfl ?_
  refine Rg.pickf rfl rfl rfl ?_
  refine Rg.assign rfl rfl ?_
  refine Rg.nil ?_
  refine T.ret ?_
  first
  |exact Kret1 rfl rfl ⟨congrArg Value.bool (decide_eq_decide.2 (by omega)), rfl⟩
  |exact Kret1 rfl rfl ⟨congrArg Value.bool (Eq.symm (decide_eq_false (by omega))), rfl⟩
theorem Blocks_spec {M : PSet} {w0 : World} {v : Value} {x : Li} (hv : PtrTo RT.li M w0 v x) :
  Spec Tryz.prog 183 #[v] w0 (fun v' w' => v' = .int .i64 x.2.1.length ∧ w0 = w') := by
 refine spec_of (args := [_]) (fn := Tryz.f183) Tryz.func183 rfl (n := 8) Tryz.ntmps183 ?_
 refine T.seq ?_
 refine T.region ?_
 refine Rg.assign rfl rfl ?_
 refine Rg.nil ?_
 refine T.seq ?_
 refine T.region ?_
 refine Rg.move rfl rfl ?_
 refine Rg.nilCheck rfl (PtrTo.isPtr (by assumption)) rfl ?_
 refine Rg.fieldAddr (M := M) (A := RT.li) (B := (RT.bl).sl) Tryz.underlying193 rfl rfl I191 (by decide) (li1) rfl rfl (by decide) (by assumption) (by repeat (first | exact Le.refl _ _ | refine Le.trans (Step.le (by assumption)) ?_)) (fun u1_2 hu1_2 => ?_)
 refine Rg.load (M := M) Tryz.underlying191 rfl rfl rfl rfl rfl (by assumption) (by repeat (first | exact Le.refl _ _ | refine Le.trans (Step.le (by assumption)) ?_)) (fun v1_3 hv1_3 => ?_)
 first | refine Rg.lensl Tryz.underlying191 rfl (by assumption) rfl ?_ | refine Rg.lenown Tryz.underlying191 rfl (by assumption) rfl ?_
 refine Rg.assign rfl rfl ?_
 refine Rg.nil ?_
 refine T.ret ?_
 exact Kret1 rfl rfl ⟨rfl, rfl⟩
theorem Last_spec {M : PSet} {w0 : World} {v : Value} {x : Li} (hv : PtrTo RT.li M w0 v x) {k : Int} :
  Spec Tryz.prog 184 #[v, .int .i64 k] w0 (fun v' w' => v' = .int .i64 (lastB x.2.1 k) ∧ w0 = w') := by
 refine spec_of (args := [_, _]) (fn := Tryz.f184) Tryz.func184 rfl (n := 17) Tryz.ntmps184 ?_
 refine T.seq ?_
 refine T.region ?_
 refine Rg.assign rfl rfl ?_
 refine Rg.nil ?_
 refine T.seq ?_
 refine T.seq ?_
 refine T.region ?_
 refine Rg.move rfl rfl ?_
 refine Rg.move rfl rfl ?_
 refine Rg.call rfl rfl E214 (is_spec hv (k := k)) (fun r w1 h1 => ?_)
 obtain ⟨rfl, rfl⟩ := h1
 refine Rg.not rfl rfl ?_
 refine Rg.eqv (v' := .bool (decide (¬ (0 ≤ k ∧ k < x.2.1.length)))) (by unfold isB; rw [decide_not]) ?_
 refine Rg.nil ?_
 refine T.ifp rfl (fun c1 => ?_) (fun c1 => ?_)
 ·refine T.seq ?_
  refine T.region ?_
  refine Rg.assign rfl rfl ?_
  refine Rg.nil ?_
  refine T.ret ?_
  exact Kret1 rfl rfl ⟨by unfold lastB isB; rw [if_neg (by simpa using c1)], rfl⟩
 ·refine T.skip ?_
  refine T.seq ?_
  refine T.region ?_
  refine Rg.move rfl rfl ?_
  refine Rg.nilCheck rfl (PtrTo.isPtr (by assumption)) rfl ?_
  refine Rg.fieldAddr (M := M) (A := RT.li) (B := (RT.bl).sl) Tryz.underlying193 rfl rfl I191 (by decide) (li1) rfl rfl (by decide) (by assumption) (by repeat (first | exact Le.refl _ _ | refine Le.trans (Step.le (by assumption)) ?_)) (fun u3_2 hu3_2 => ?_)
  refine Rg.load (M := M) Tryz.underlying191 rfl rfl rfl rfl rfl (by assumption) (by repeat (first | exact Le.refl _ _ | refine Le.trans (Step.le (by assumption)) ?_)) (fun v3_3 hv3_3 => ?_)
  refine Rg.move rfl rfl ?_
  obtain ⟨b, hb⟩ : ∃ b, x.2.1[k.toNat]? = some b := ⟨_, List.getElem?_eq_getElem (by omega)⟩
  refine Rg.idx (M := M) Tryz.underlying191 I195 rfl rfl rfl (by assumption) (Le.refl _ _) (by omega) (fun u3_5 a3_5 hg3_5 hu3_5 => ?_)
  obtain rfl : a3_5 = b := Option.some.inj (hg3_5.symm.trans hb)
  refine Rg.fieldAddr (M := M) (A := RT.bl) (B := RT.int .i64) Tryz.underlying195 rfl rfl I3 (by decide) (bl2) rfl rfl (by decide) (by assumption) (by repeat (first | exact Le.refl _ _ | refine Le.trans (Step.le (by assumption)) ?_)) (fun u3_6 hu3_6 => ?_)
  refine Rg.loadi64 (M := M) Tryz.underlying3 rfl rfl (by assumption) (by repeat (first | exact Le.refl _ _ | refine Le.trans (Step.le (by assumption)) ?_)) (fun in3_7 => ?_)
  refine Rg.assign rfl rfl ?_
  refine Rg.nil ?_
  refine T.ret ?_
  exact Kret1 rfl rfl ⟨by unfold lastB isB; rw [if_pos (by simpa using c1), List.getD_eq_getElem?_getD, hb]; rfl, rfl⟩
theorem take5_spec {M : PSet} {w0 : World} {v : Value} {b : List UInt8} {at_ ahead : Int} (hM : Lt M w0) (hv : (RT.u8.sl).V M w0 b v) (hat : -9223372036854775808 ≤ at_ ∧ at_ ≤ 9223372036854775807) (hah : -9223372036854775808 ≤ ahead ∧ ahead ≤ 9223372036854775807) (hbl : b.length ≤ 1099511627776) :
  Spec Tryz.prog 215 #[v, .int .i64 at_, .int .i64 ahead] w0 (fun v' w' => ∃ p, v' = .tuple #[p, .int .i64 (takeP b at_ ahead).2.1, .int .i64 (takeP b at_ ahead).2.2] ∧ RT.po.V M w' (takeP b at_ ahead).1 p ∧ Step M w0 M w' none') := by
 refine spec_of (args := [_, _, _]) (fn := Tryz.f215) Tryz.func215 rfl (n := 38) Tryz.ntmps215 ?_
 refine T.seq ?_
 refine T.region ?_
 refine Rg.alloc M I153 rfl (fun b0 w1 hb0 hb0' hB s1 => ?_)
 have hM1 := s1.lt hM
 have hv1 := hv.le s1.le
 refine Rg.assign rfl rfl ?_
 refine Rg.assign rfl rfl ?_
 refine Rg.nil ?_
 refine T.seq ?_
 refine T.region ?_
 refine Rg.move rfl rfl ?_
 refine Rg.move rfl rfl ?_
 refine Rg.call rfl rfl E250 (Get_spec hv1 hat) (fun r w2 h2 => ?_)
 obtain ⟨rfl, rfl⟩ := h2
 have hgr := get_range b at_
 obtain ⟨hn0, hn1, hn2, hn3⟩ := get_nonneg b at_
 refine Rg.move rfl rfl ?_
 refine Rg.extract rfl rfl rfl ?_
 refine Rg.extract rfl rfl rfl ?_
 refine Rg.extract rfl rfl rfl ?_
 refine Rg.assign rfl rfl ?_
 refine Rg.assign rfl rfl ?_
 refine Rg.assign rfl rfl ?_
 refine Rg.nil ?_
 refine T.seq ?_
 refine T.seq ?_
 refine T.region ?_
 refine Rg.move rfl rfl ?_
 refine Rg.ine rfl rfl rfl ?_
 refine Rg.nil ?_
 refine T.ifp rfl (fun c2 => ?_) (fun c2 => ?_)
 ·refine T.seq ?_
  refine T.region ?_
  refine Rg.build (places := [(0, 1), (1, 1)]) Tryz.underlying153 I153 B153 rfl rfl (out := [.int .i64 0, .slice none 0 0]) rfl ?_
  refine Rg.move rfl rfl ?_
  refine Rg.storeaggc (M := ins M b0) I153 rfl rfl (by intro u hu; simp at hu; rcases hu with rfl | rfl <;> rfl) rfl rfl hB (.inl rfl) (fun w3 hB3 s3 => ?_)
  refine Rg.assign rfl rfl ?_
  refine Rg.assign rfl rfl ?_
  refine Rg.nil ?_
  refine T.ret ?_
  have hsz := s1.size
  have S : Step M w0 M w3 none' := (s1.transNew s3 (fun k hk => by subst hk; omega)).back
  refine KretC3 rfl rfl Tryz.underlying153 rfl I153 rfl hB3 rfl rfl ⟨_, by unfold takeP; rw [if_pos c2] <;> rfl, ?_, S⟩
  unfold takeP; rw [if_pos c2]
  exact V_pair_mk (V_i64 (x := 0) (by omega)) V_nil rfl rfl rfl rfl
 ·refine T.skip ?_
  refine T.seq ?_
  refine T.region ?_
  refine Rg.move rfl rfl ?_
  refine Rg.move rfl rfl ?_
  have hok := get_ok (b := b) (at_ := at_) (by omega)
  refine Rg.call rfl rfl E251 (GetRising_spec (M := ins M b0) hM1 hv1 (by omega) hbl) (fun r w3 h3 => ?_)
  obtain ⟨x3, rfl, hx3, s3⟩ := h3
  refine Rg.move rfl rfl ?_
  refine Rg.extract rfl rfl rfl ?_
  refine Rg.extract rfl rfl rfl ?_
  refine Rg.extract rfl rfl rfl ?_
  refine Rg.assign rfl rfl ?_
  refine Rg.assign rfl rfl ?_
  refine Rg.assign rfl rfl ?_
  refine Rg.nil ?_
  refine T.seq ?_
  refine T.region ?_
  refine Rg.move rfl rfl ?_
  refine Rg.addw rfl rfl rfl ?_
  refine Rg.move rfl rfl ?_
  refine Rg.addw rfl rfl rfl ?_
  refine Rg.move rfl rfl ?_
  refine Rg.build (places := [(0, 1), (1, 1)]) Tryz.underlying153 I153 B153 rfl ⟨_, _, rfl, rfl, _, _, rfl, rfl, rfl⟩ (out := [_, _]) ⟨0, [_], rfl, rfl, by simp [Value.cells], 1, [_], rfl, V_cells hx3, by simp [Value.cells], rfl⟩ ?_
  refine Rg.move rfl rfl ?_
  refine Rg.move rfl rfl ?_
  obtain ⟨vx, hvx⟩ : ∃ vx, vx = x3 := ⟨_, rfl⟩
  have hone := V_one hx3 rfl rfl
  refine Rg.storeaggc (M := ins M b0) I153 rfl rfl (by intro u hu; simp at hu; rcases hu with rfl | rfl; rfl; exact hone) rfl rfl (s3.same0 hB) (.inl rfl) (fun w4 hB4 s4 => ?_)
  refine Rg.assign rfl rfl ?_
  refine Rg.assign rfl rfl ?_
  refine Rg.nil ?_
  refine T.ret ?_
  have hsz := s1.size
  have hsz3 := s3.size
  have S3 := s1.trans0 s3
  have S : Step M w0 M w4 none' := (S3.transNew s4 (fun k hk => by subst hk; omega)).back
  refine KretC3 rfl rfl Tryz.underlying153 rfl I153 rfl hB4 rfl rfl ⟨_, by unfold takeP; rw [if_neg c2] <;> rfl, ?_, S⟩
  unfold takeP; rw [if_neg c2]
  have hx4 := (hx3.le s4.le).le (Le.close hM (S3.transNew s4 (fun k hk => by subst hk; omega)))
  exact V_pair_mk (V_i64 wrap_rng) hx4 rfl rfl rfl rfl
theorem Block_spec {M : PSet} {w0 : World} {v : Value} {l : List Po} {k : Int} (hM : Lt M w0) (hv : PtrTo RT.li M w0 v (mkLi l)) (hmay : mayPo (-1) l = true) (hps : ∀ p ∈ l, p.2.length ≤ 1099511627776) (hbl : (putPo (-1) l).length ≤ 1099511627776) :
  Spec Tryz.prog 180 #[v, .int .i64 k] w0 (fun v' w' => Step M w0 M w' none' ∧ ((RT.po).sl).V M w' (if isB ((l.length + 7) / 8) k then (l.drop (8 * k.toNat)).take 8 else []) v') := by
 have hbl2 : (mkLi l).2.1.length = (l.length + 7) / 8 := by simp [mkLi, blks]
 refine spec_of (args := [_, _]) (fn := Tryz.f180) Tryz.func180 rfl (n := 51) Tryz.ntmps180 ?_
 refine T.seq ?_
 refine T.region ?_
 refine Rg.assign rfl rfl ?_
 refine Rg.nil ?_
 refine T.seq ?_
 refine T.seq ?_
 refine T.region ?_
 refine Rg.move rfl rfl ?_
 refine Rg.move rfl rfl ?_
 refine Rg.call rfl rfl E214 (is_spec hv (k := k)) (fun r w1 h1 => ?_)
 obtain ⟨rfl, rfl⟩ := h1
 refine Rg.not rfl rfl ?_
 refine Rg.eqv (v' := .bool (decide (¬ (0 ≤ k ∧ k < (mkLi l).2.1.length)))) (by unfold isB; rw [decide_not]) ?_
 refine Rg.nil ?_
 refine T.ifp rfl (fun c1 => ?_) (fun c1 => ?_)
 ·refine T.seq ?_
  refine T.region ?_
  refine Rg.assign rfl rfl ?_
  refine Rg.nil ?_
  refine T.ret ?_
  refine Kret1 rfl rfl ⟨Step.refl _ _, ?_⟩
  rw [if_neg (by unfold isB; rw [hbl2] at c1; simpa using c1)]
  exact V_nil
 ·refine T.skip ?_
  refine T.seq ?_
  refine T.region ?_
  refine Rg.move rfl rfl ?_
  refine Rg.nilCheck rfl (PtrTo.isPtr (by assumption)) rfl ?_
  refine Rg.fieldAddr (M := M) (A := RT.li) (B := (RT.bl).sl) Tryz.underlying193 rfl rfl I191 (by decide) (li1) rfl rfl (by decide) (by assumption) (by repeat (first | exact Le.refl _ _ | refine Le.trans (Step.le (by assumption)) ?_)) (fun u3_2 hu3_2 => ?_)
  refine Rg.load (M := M) Tryz.underlying191 rfl rfl rfl rfl rfl (by assumption) (by repeat (first | exact Le.refl _ _ | refine Le.trans (Step.le (by assumption)) ?_)) (fun v3_3 hv3_3 => ?_)
  refine Rg.move rfl rfl ?_
  obtain ⟨j, rfl⟩ : ∃ j : Nat, k = j := ⟨k.toNat, by omega⟩
  have hb : (mkLi l).2.1[j]? = some (blkOf l j) := by simp only [mkLi, blks, List.getElem?_map]; rw [List.getElem?_range (by omega)]; rfl
  refine Rg.idx (M := M) Tryz.underlying191 I195 rfl rfl rfl (by assumption) (Le.refl _ _) (by omega) (fun u3_5 a3_5 hg3_5 hu3_5 => ?_)
  obtain rfl : a3_5 = blkOf l j := Option.some.inj (hg3_5.symm.trans (by simpa using hb))
  have hmany : (blkOf l j).2.2.2 = (((l.drop (8 * j)).take 8).length : Int) := rfl
  have hownl : ((l.drop (8 * j)).take 8).length ≤ 8 := by rw [List.length_take]; omega
  refine Rg.loadagg (M := M) (A := RT.bl) Tryz.underlying195 rfl I195 (by decide) rfl rfl rfl (by assumption) (by repeat (first | exact Le.refl _ _ | refine Le.trans (Step.le (by assumption)) ?_)) (fun v3_6 hv3_6 => ?_)
  refine Rg.newagg (A := RT.bl) (M := M) I195 rfl rfl rfl rfl rfl (by assumption) (by repeat (first | exact Le.refl _ _ | refine Le.trans (Step.le (by assumption)) ?_)) (by first | assumption | exact Step.lt (by assumption) (by assumption) | exact Step.lt (by assumption) (Step.lt (by assumption) (by assumption))) (fun u3_7 w3_7 hu3_7 s3_7 z3_7 => ?_)
  refine Rg.nil ?_
  refine T.seq ?_
  refine T.region ?_
  refine Rg.assign rfl rfl ?_
  refine Rg.nil ?_
  refine T.seq ?_
  refine T.seq ?_
  apply T.draw (M := M) mixed [Asr.ptr (RT.int .i64) (blkOf l j).1, Asr.eq _, Asr.ptr (RT.int .i64) (blkOf l j).2.1, Asr.eq _, Asr.eq _, Asr.eq _]
  ·rfl
  ·refine Obls.cons ?_ ?_
   ·intro wD E sD
    refine Rg.fieldAddr (M := M) (A := RT.bl) (B := RT.int .i64) Tryz.underlying195 rfl rfl I3 (by decide) (bl0) rfl rfl (by decide) (by assumption) (by repeat (first | exact Le.refl _ _ | refine Le.trans (Step.le (by assumption)) ?_)) (fun u5_0 hu5_0 => ?_)
    exact Rg.nil ⟨rfl, rfl, _, rfl, by assumption, Step.refl _ _⟩
   refine Obls.cons ?_ ?_
   ·intro wD E sD
    intro v0 hv0
    refine Rg.loadi64 (M := M) Tryz.underlying3 rfl rfl (by assumption) (by repeat (first | exact Le.refl _ _ | refine Le.trans (Step.le (by assumption)) ?_)) (fun in5_1 => ?_)
    exact Rg.nil ⟨rfl, rfl, _, rfl, rfl, Step.refl _ _⟩
   refine Obls.cons ?_ ?_
   ·intro wD E sD
    refine Rg.fieldAddr (M := M) (A := RT.bl) (B := RT.int .i64) Tryz.underlying195 rfl rfl I3 (by decide) (bl1) rfl rfl (by decide) (by assumption) (by repeat (first | exact Le.refl _ _ | refine Le.trans (Step.le (by assumption)) ?_)) (fun u5_2 hu5_2 => ?_)
    exact Rg.nil ⟨rfl, rfl, _, rfl, by assumption, Step.refl _ _⟩
   refine Obls.cons ?_ ?_
   ·intro wD E sD
    intro v2 hv2
    refine Rg.loadi64 (M := M) Tryz.underlying3 rfl rfl (by assumption) (by repeat (first | exact Le.refl _ _ | refine Le.trans (Step.le (by assumption)) ?_)) (fun in5_3 => ?_)
    exact Rg.nil ⟨rfl, rfl, _, rfl, rfl, Step.refl _ _⟩
   refine Obls.cons ?_ ?_
   ·intro wD E sD
    intro x_ hx_; have hx_ : x_ = _ := hx_; subst x_
    intro v0 hv0
    intro x_ hx_; have hx_ : x_ = _ := hx_; subst x_
    refine Rg.assign rfl rfl ?_
    exact Rg.nil ⟨rfl, rfl, _, rfl, rfl, Step.refl _ _⟩
   refine Obls.cons ?_ ?_
   ·intro wD E sD
    intro x_ hx_; have hx_ : x_ = _ := hx_; subst x_
    intro x_ hx_; have hx_ : x_ = _ := hx_; subst x_
    intro v0 hv0
    intro x_ hx_; have hx_ : x_ = _ := hx_; subst x_
    intro v2 hv2
    intro x_ hx_; have hx_ : x_ = _ := hx_; subst x_
    intro x_ hx_; have hx_ : x_ = _ := hx_; subst x_
    refine Rg.assign rfl rfl ?_
    exact Rg.nil ⟨rfl, rfl, _, rfl, rfl, Step.refl _ _⟩
   exact Obls.nil
  ·intro wD5 sD5
   intro v5_0 hv5_0
   intro x_ hx_; have hx_ : x_ = _ := hx_; subst x_
   intro v5_2 hv5_2
   intro x_ hx_; have hx_ : x_ = _ := hx_; subst x_
   intro x_ hx_; have hx_ : x_ = _ := hx_; subst x_
   intro x_ hx_; have hx_ : x_ = _ := hx_; subst x_
   refine T.block ?_
   have hz5 := s3_7.size
   refine T.loop (σ := Nat × Value) (fun s => [(0, v), (5, u3_7), (6, s.2), (7, .int .i64 (putPo (-1) (l.take (8 * j + s.1))).length), (8, .int .i64 (lastPo (-1) (l.take (8 * j + s.1))))]) (fun s w => s.1 ≤ ((l.drop (8 * j)).take 8).length ∧ ∃ M1, Lt M1 w ∧ Step M w0 M1 w none' ∧ Step M w3_7 M1 w none' ∧ Own RT.po 153 M1 w w3_7.heap.size s.2 (((l.drop (8 * j)).take 8).take s.1)) (fun s => ((l.drop (8 * j)).take 8).length - s.1) (0, _) (.cons rfl (.cons rfl (.cons rfl (.cons rfl (.cons rfl .nil))))) ?_ ?_
   ·exact ⟨Nat.zero_le _, M, sD5.lt (s3_7.lt hM), s3_7.trans0 sD5, sD5, Own.nil _ _ _ _ _⟩
   ·rintro ⟨i, u0⟩ w1 ⟨hi, M1, hM1, S, S5, ho⟩
    dsimp only at hi ho ⊢
    refine T.seq ?_
    refine T.seq ?_
    refine T.region ?_
    refine Rg.move rfl rfl ?_
    refine Rg.lenown Tryz.underlying107 rfl ho rfl ?_
    refine Rg.eqv (v' := .int .i64 i) (by rw [List.length_take, Nat.min_eq_left hi]) ?_
    refine Rg.fieldAddr (M := M1) (A := RT.bl) (B := RT.int .i64) Tryz.underlying195 rfl rfl I3 (by decide) (bl3) rfl rfl (by decide) (by assumption) (by repeat (first | exact Le.refl _ _ | refine Le.trans (Step.le (by assumption)) ?_)) (fun u6_2 hu6_2 => ?_)
    refine Rg.loadi64 (M := M1) Tryz.underlying3 rfl rfl hu6_2 (Le.refl _ _) (fun in6_3 => ?_)
    refine Rg.eqv (v' := .int .i64 ((l.drop (8 * j)).take 8).length) rfl ?_
    refine Rg.ilt rfl rfl rfl ?_
    refine Rg.nil ?_
    refine T.ifp rfl (fun c6 => ?_) (fun c6 => ?_)
    ·refine T.skip ?_
     refine T.block ?_
     refine T.seq ?_
     refine T.region ?_
     refine Rg.move rfl rfl ?_
     refine Rg.nilCheck rfl (PtrTo.isPtr (by assumption)) rfl ?_
     refine Rg.fieldAddr (M := M1) (A := RT.li) (B := RT.u8.sl) Tryz.underlying193 rfl rfl I147 (by decide) (li0) rfl rfl (by decide) (by assumption) (by repeat (first | exact Le.refl _ _ | refine Le.trans (Step.le (by assumption)) ?_)) (fun u7_2 hu7_2 => ?_)
     refine Rg.load (M := M1) Tryz.underlying147 rfl rfl rfl rfl rfl (by assumption) (by repeat (first | exact Le.refl _ _ | refine Le.trans (Step.le (by assumption)) ?_)) (fun v7_3 hv7_3 => ?_)
     refine Rg.move rfl rfl ?_
     refine Rg.move rfl rfl ?_
     obtain ⟨⟨d, ps⟩, hx⟩ : ∃ x, l[8 * j + i]? = some x := ⟨_, List.getElem?_eq_getElem (by rw [List.length_take, List.length_drop] at c6; omega)⟩
     obtain ⟨f1, f2, f3, f4, f5, f6⟩ := may_at hmay hx
     have htk : takeP (mkLi l).1 _ _ = _ := takeP_at hmay hx (hps _ (List.mem_of_getElem? hx))
     have hpre : (putPo (-1) (l.take (8 * j + i))).length ≤ (putPo (-1) l).length := by rw [putPo_split (l := l) (i := 8 * j + i) (-1)]; simp
     refine Rg.call rfl rfl E215 (take5_spec (M := M1) hM1 hv7_3 (by omega) (by omega) hbl) (fun r7 w7 h7 => ?_)
     obtain ⟨p7, h7e, hp7, s7⟩ := h7
     rw [htk] at h7e hp7
     subst h7e
     change RT.po.V M1 w7 (d, ps) p7 at hp7
     replace S := S.trans0 s7
     replace S5 := S5.trans0 s7
     replace ho := ho.step0 s7
     replace hM1 := s7.lt hM1
     have hci : ((l.drop (8 * j)).take 8)[i]? = some (d, ps) := by rw [List.getElem?_take, if_pos (by omega), List.getElem?_drop]; exact hx
     refine Rg.move rfl rfl ?_
     refine Rg.extract rfl rfl rfl ?_
     refine Rg.extract rfl rfl rfl ?_
     refine Rg.extract rfl rfl rfl ?_
     refine Rg.newagg (A := RT.po) (M := M1) I153 rfl rfl rfl rfl rfl (by assumption) (by repeat (first | exact Le.refl _ _ | refine Le.trans (Step.le (by assumption)) ?_)) (by first | assumption | exact Step.lt (by assumption) (by assumption) | exact Step.lt (by assumption) (Step.lt (by assumption) (by assumption))) (fun u7_11 w7_11 hu7_11 s7_11 z7_11 => ?_)
     refine Rg.assign rfl rfl ?_
     refine Rg.assign rfl rfl ?_
     refine Rg.nil ?_
     refine T.seq ?_
     refine T.region ?_
     refine Rg.move rfl rfl ?_
     replace S := S.trans0 s7_11
     replace S5 := S5.trans0 s7_11
     replace ho := ho.step0 s7_11
     replace hM1 := s7_11.lt hM1
     clear hp7
     refine Rg.loadagg (M := M1) (A := RT.po) Tryz.underlying153 rfl I153 (by decide) rfl rfl rfl hu7_11 (Le.refl _ _) (fun v8 hv8 => ?_)
     refine Rg.sl1 (A := RT.po) (hn := by decide) (M := M1) Tryz.underlying107 I153 (by decide) rfl rfl hM1 hv8 (.inl rfl) (fun u2 w2 hu2 s2 => ?_)
     refine Rg.append (M := M1) (base := w3_7.heap.size) Tryz.underlying107 I153 rfl rfl rfl rfl (ho.step0 s2) hu2 (Le.refl _ _) (by simp; omega) (by simp; omega) (Nat.le_trans S5.size s2.size) (fun v3 M3 w3 ho3 s3 => ?_)
     replace S := (S.trans0 s2).transBlk s3 (ho.step0 s2) hz5
     have hu9 := (hu7_11.le (by decide) s2.le).le (by decide) s3.le
     have hM3 := s3.lt (s2.lt hM1)
     replace S5 := (S5.trans0 s2).transBlk s3 (ho.step0 s2) (Nat.le_refl _)
     refine Rg.assign rfl rfl ?_
     refine Rg.nil ?_
     apply T.draw (M := M3) mixed [Asr.eq _, Asr.ptr (RT.int .i64) d, Asr.eq _, Asr.eq _, Asr.eq _]
     ·rfl
     ·refine Obls.cons ?_ ?_
      ·intro wD E sD
       refine Rg.move rfl rfl ?_
       exact Rg.nil ⟨rfl, rfl, _, rfl, rfl, Step.refl _ _⟩
      refine Obls.cons ?_ ?_
      ·intro wD E sD
       refine Rg.fieldAddr (M := M3) (A := RT.po) (B := RT.int .i64) Tryz.underlying153 rfl rfl I3 (by decide) (po0) rfl rfl (by decide) hu9 sD.le (fun u9_1 hu9_1 => ?_)
       exact Rg.nil ⟨rfl, rfl, _, rfl, hu9_1, Step.refl _ _⟩
      refine Obls.cons ?_ ?_
      ·intro wD E sD
       intro v1 hv1
       refine Rg.loadi64 (M := M3) Tryz.underlying3 rfl rfl (by assumption) (by repeat (first | exact Le.refl _ _ | refine Le.trans (Step.le (by assumption)) ?_)) (fun in9_2 => ?_)
       exact Rg.nil ⟨rfl, rfl, _, rfl, rfl, Step.refl _ _⟩
      refine Obls.cons ?_ ?_
      ·intro wD E sD
       intro x_ hx_; have hx_ : x_ = _ := hx_; subst x_
       intro x_ hx_; have hx_ : x_ = _ := hx_; subst x_
       refine Rg.assign rfl rfl ?_
       exact Rg.nil ⟨rfl, rfl, _, rfl, rfl, Step.refl _ _⟩
      refine Obls.cons ?_ ?_
      ·intro wD E sD
       intro x_ hx_; have hx_ : x_ = _ := hx_; subst x_
       intro x_ hx_; have hx_ : x_ = _ := hx_; subst x_
       intro x_ hx_; have hx_ : x_ = _ := hx_; subst x_
       intro v1 hv1
       intro x_ hx_; have hx_ : x_ = _ := hx_; subst x_
       intro x_ hx_; have hx_ : x_ = _ := hx_; subst x_
       refine Rg.assign rfl rfl ?_
       exact Rg.nil ⟨rfl, rfl, _, rfl, rfl, Step.refl _ _⟩
      exact Obls.nil
     ·intro wD9 sD9
      intro x_ hx_; have hx_ : x_ = _ := hx_; subst x_
      intro v9_1 hv9_1
      intro x_ hx_; have hx_ : x_ = _ := hx_; subst x_
      intro x_ hx_; have hx_ : x_ = _ := hx_; subst x_
      intro x_ hx_; have hx_ : x_ = _ := hx_; subst x_
      refine ⟨rfl, (i + 1, v3), (.cons rfl (.cons rfl (.cons rfl (.cons rfl (.cons (by rw [← f5]; rfl) .nil))))), ?_, ?_⟩
      ·refine ⟨by simp only; omega, M3, sD9.lt hM3, S.trans0 sD9, S5.trans0 sD9, ?_⟩
       simp only
       obtain ⟨hc1, hc2⟩ := List.getElem?_eq_some_iff.1 hci
       rw [List.take_succ_eq_append_getElem hc1, hc2]
       exact ho3.step0 sD9
      ·simp only; omega
    ·refine T.exit ?_
     refine T.seq ?_
     refine T.region ?_
     refine Rg.move rfl rfl ?_
     refine Rg.assign rfl rfl ?_
     refine Rg.nil ?_
     refine T.ret ?_
     refine Kret1 rfl rfl ⟨S.back, ?_⟩
     rw [if_pos (by unfold isB; rw [hbl2] at c1; simpa using c1), Int.toNat_natCast]
     rw [List.take_of_length_le (by omega)] at ho
     exact Own.close hM S (ho.rebase hz5) (by omega)
end Go.K
namespace Go.K
open Go.Proofs
set_option linter.unusedVariables false
set_option linter.unusedSimpArgs false
set_option maxRecDepth 10000
theorem prises_spec {M : PSet} {w0 : World} {v : Value} {l : List Int} (hv : ((RT.int .i64).sl).V M w0 l v) :
  Spec Tryz.prog 212 #[v] w0 (fun v' w' => v' = .bool (risesB l) ∧ w0 = w') := by
 have hlen := V_sl_len hv
 refine spec_of (args := [_]) (fn := Tryz.f212) Tryz.func212 rfl (n := 32) Tryz.ntmps212 ?_
 refine T.seq ?_
 refine T.region ?_
 refine Rg.assign rfl rfl ?_
 refine Rg.nil ?_
 refine T.seq ?_
 refine T.seq ?_
 refine T.region ?_
 refine Rg.move rfl rfl ?_
 first | refine Rg.lensl Tryz.underlying32 rfl (by assumption) rfl ?_ | refine Rg.lenown Tryz.underlying32 rfl (by assumption) rfl ?_
 refine Rg.move rfl rfl ?_
 refine Rg.nil ?_
 refine T.block ?_
 refine T.loop (σ := Nat × Int) (fun s => [(0, v), (5, v), (6, .int .i64 l.length), (7, .int .i64 s.1)]) (fun s w => w0 = w ∧ s.1 ≤ l.length ∧ risesB l = (rises s.2 (l.drop s.1) && (l.drop s.1).all (fun n => decide (n < 2147483648))) ∧ -1 ≤ s.2 ∧ (s.1 = 0 → s.2 = -1) ∧ (0 < s.1 → l[s.1 - 1]? = some s.2)) (fun s => l.length - s.1) (0, -1) (.cons rfl (.cons rfl (.cons rfl (.cons rfl .nil)))) ?_ ?_
 ·exact ⟨rfl, Nat.zero_le _, rfl, by decide, fun _ => rfl, fun h => absurd h (Nat.lt_irrefl 0)⟩
 ·rintro ⟨k, last⟩ w1 ⟨rfl, hk, hr, hl0, h0, h1⟩
  dsimp only at hk hr hl0 h0 h1 ⊢
  refine T.seq ?_
  refine T.region ?_
  refine Rg.ilt rfl rfl rfl ?_
  refine Rg.nil ?_
  refine T.seq ?_
  refine T.ifp rfl (fun c2 => ?_) (fun c2 => ?_)
  ·refine T.skip ?_
   refine T.seq ?_
   refine T.block ?_
   refine T.seq ?_
   refine T.region ?_
   refine Rg.move rfl rfl ?_
   obtain ⟨x, hx⟩ : ∃ x, l[k]? = some x := ⟨_, List.getElem?_eq_getElem (by omega)⟩
   refine Rg.idx (M := M) Tryz.underlying32 I3 rfl rfl rfl hv (Le.refl _ _) (by omega) (fun u3_1 a3_1 hg3_1 hu3_1 => ?_)
   obtain rfl : x = a3_1 := Eq.symm (Option.some.inj (hg3_1.symm.trans (by simpa using hx)))
   refine Rg.loadi64 (M := M) Tryz.underlying3 rfl rfl (by assumption) (by repeat (first | exact Le.refl _ _ | refine Le.trans (Step.le (by assumption)) ?_)) (fun in3_2 => ?_)
   refine Rg.assign rfl rfl ?_
   refine Rg.assign rfl rfl ?_
   refine Rg.nil ?_
   refine T.seq ?_
   refine T.region ?_
   refine Rg.move rfl rfl ?_
   refine Rg.ilt rfl rfl rfl ?_
   refine Rg.move rfl rfl ?_
   refine Rg.gsplitp (g := 14) rfl (fun g4_2 => ?_) (fun g4_2 => ?_)
   ·refine Rg.gno rfl rfl rfl rfl ?_
    refine Rg.gno rfl rfl rfl rfl ?_
    refine Rg.pickt rfl rfl rfl ?_
    refine Rg.move rfl rfl ?_
    refine Rg.gno rfl rfl rfl rfl ?_
    refine Rg.gno rfl rfl rfl rfl ?_
    refine Rg.gno rfl rfl rfl rfl ?_
    refine Rg.gnox rfl rfl rfl ?_
    refine Rg.gnox rfl rfl rfl ?_
    refine Rg.gnox rfl rfl rfl ?_
    refine Rg.gnox rfl rfl rfl ?_
    refine Rg.gnox rfl rfl rfl ?_
    refine Rg.gnox rfl rfl rfl ?_
    refine Rg.gnox rfl rfl rfl ?_
    refine Rg.gno rfl rfl rfl rfl ?_
    refine Rg.pickt rfl rfl rfl ?_
    refine Rg.nil ?_
    refine T.ift rfl ?_
    refine T.seq ?_
    refine T.region ?_
    refine Rg.assign rfl rfl ?_
    refine Rg.nil ?_
    refine T.ret ?_
    refine Kret1 rfl rfl ⟨congrArg Value.bool (Eq.symm ?_), rfl⟩
    rw [hr, rises_drop hx, all_drop _ hx]
    by_cases h7 : last < x
    ·have h2 : ¬ x < 2147483648 := by omega
     simp [h2]
    ·simp [h7]
   ·refine Rg.gyes rfl rfl ?_
    refine Rg.move rfl rfl ?_
    refine Rg.gyes rfl rfl ?_
    refine Rg.ige rfl rfl rfl ?_
    refine Rg.pickf rfl rfl rfl ?_
    refine Rg.move rfl rfl ?_
    refine Rg.gsplitp (g := 18) rfl (fun g4_6 => ?_) (fun g4_6 => ?_)
    ·refine Rg.gno rfl rfl rfl rfl ?_
     refine Rg.gno rfl rfl rfl rfl ?_
     refine Rg.gno rfl rfl rfl rfl ?_
     refine Rg.gnox rfl rfl rfl ?_
     refine Rg.gnox rfl rfl rfl ?_
     refine Rg.gnox rfl rfl rfl ?_
     refine Rg.gnox rfl rfl rfl ?_
     refine Rg.gnox rfl rfl rfl ?_
     refine Rg.gnox rfl rfl rfl ?_
     refine Rg.gnox rfl rfl rfl ?_
     refine Rg.gno rfl rfl rfl rfl ?_
     refine Rg.pickt rfl rfl rfl ?_
     refine Rg.nil ?_
     refine T.ift rfl ?_
     refine T.seq ?_
     refine T.region ?_
     refine Rg.assign rfl rfl ?_
     refine Rg.nil ?_
     refine T.ret ?_
     refine Kret1 rfl rfl ⟨congrArg Value.bool (Eq.symm ?_), rfl⟩
     rw [hr, rises_drop hx, all_drop _ hx]
     by_cases h7 : last < x
     ·have h2 : ¬ x < 2147483648 := by omega
      simp [h2]
     ·simp [h7]
    ·refine Rg.gyes rfl rfl ?_
     refine Rg.move rfl rfl ?_
     refine Rg.gyes rfl rfl ?_
     refine Rg.igt rfl rfl rfl ?_
     refine Rg.gyes rfl rfl ?_
     refine Rg.move rfl rfl ?_
     refine Rg.gsplitp (g := 21) rfl (fun g4_9 => ?_) (fun g4_9 => ?_)
     ·refine Rg.gyes rfl rfl ?_
      refine Rg.move rfl rfl ?_
      refine Rg.gyes rfl rfl ?_
      refine Rg.move rfl rfl ?_
      refine Rg.gyes rfl rfl ?_
      refine Rg.move rfl rfl ?_
      refine Rg.gyes rfl rfl ?_
      refine Rg.isub rfl rfl rfl (by omega) ?_
      refine Rg.gyes rfl rfl ?_
      refine Rg.idx (M := M) Tryz.underlying32 I3 rfl rfl rfl hv (Le.refl _ _) (by omega) (fun u4_14 a4_14 hg4_14 hu4_14 => ?_)
      obtain rfl : last = a4_14 := Eq.symm (Option.some.inj (hg4_14.symm.trans (by rw [show ((k : Int) - 1).toNat = k - 1 from by omega]; exact h1 (by omega))))
      refine Rg.gyes rfl rfl ?_
      refine Rg.loadi64 (M := M) Tryz.underlying3 rfl rfl (by assumption) (by repeat (first | exact Le.refl _ _ | refine Le.trans (Step.le (by assumption)) ?_)) (fun in4_15 => ?_)
      refine Rg.gyes rfl rfl ?_
      refine Rg.ile rfl rfl rfl ?_
      refine Rg.gyes rfl rfl ?_
      refine Rg.pickt rfl rfl rfl ?_
      refine Rg.pickf rfl rfl rfl ?_
      refine Rg.nil ?_
      refine T.ifp rfl (fun c4 => ?_) (fun c4 => ?_)
      ·refine T.seq ?_
       refine T.region ?_
       refine Rg.assign rfl rfl ?_
       refine Rg.nil ?_
       refine T.ret ?_
       refine Kret1 rfl rfl ⟨congrArg Value.bool (Eq.symm ?_), rfl⟩
       rw [hr, rises_drop hx, all_drop _ hx]
       by_cases h7 : last < x
       ·have h2 : ¬ x < 2147483648 := by omega
        simp [h2]
       ·simp [h7]
      ·refine T.skip ?_
       refine T.region ?_
       refine Rg.iadd rfl rfl rfl (by omega) ?_
       refine Rg.move rfl rfl ?_
       refine Rg.nil ?_
       refine ⟨rfl, (k + 1, x), (.cons rfl (.cons rfl (.cons rfl (.cons rfl .nil)))), ?_, ?_⟩
       ·refine ⟨rfl, by simp only; omega, ?_, by simp only; omega, fun h => by simp at h, fun _ => by simpa using hx⟩
        rw [hr, rises_drop hx, all_drop _ hx, decide_eq_true (show last < x by omega), decide_eq_true (show x < 2147483648 by omega), Bool.true_and, Bool.true_and]
       ·simp only; omega
     ·refine Rg.gno rfl rfl rfl rfl ?_
      refine Rg.gno rfl rfl rfl rfl ?_
      refine Rg.gno rfl rfl rfl rfl ?_
      refine Rg.gno rfl rfl rfl rfl ?_
      refine Rg.gno rfl rfl rfl rfl ?_
      refine Rg.gno rfl rfl rfl rfl ?_
      refine Rg.gno rfl rfl rfl rfl ?_
      refine Rg.gyes rfl rfl ?_
      refine Rg.pickf rfl rfl rfl ?_
      refine Rg.pickf rfl rfl rfl ?_
      refine Rg.nil ?_
      refine T.iff rfl ?_
      refine T.skip ?_
      refine T.region ?_
      refine Rg.iadd rfl rfl rfl (by omega) ?_
      refine Rg.move rfl rfl ?_
      refine Rg.nil ?_
      refine ⟨rfl, (k + 1, x), (.cons rfl (.cons rfl (.cons rfl (.cons rfl .nil)))), ?_, ?_⟩
      ·refine ⟨rfl, by simp only; omega, ?_, by simp only; omega, fun h => by simp at h, fun _ => by simpa using hx⟩
       rw [hr, rises_drop hx, all_drop _ hx, decide_eq_true (show last < x by omega), decide_eq_true (show x < 2147483648 by omega), Bool.true_and, Bool.true_and]
      ·simp only; omega
  ·refine T.exit ?_
   refine T.seq ?_
   refine T.region ?_
   refine Rg.assign rfl rfl ?_
   refine Rg.nil ?_
   refine T.ret ?_
   refine Kret1 rfl rfl ⟨congrArg Value.bool (Eq.symm ?_), rfl⟩
   rw [hr, List.drop_eq_nil_of_le (by omega)]; rfl
theorem pMay_spec {M : PSet} {w0 : World} {v : Value} {l : List Po} (hM : Lt M w0) (hv : ((RT.po).sl).V M w0 l v) :
  Spec Tryz.prog 171 #[v] w0 (fun v' w' => v' = .bool (mayPo (-1) l) ∧ Step M w0 M w' none') := by
 have hlen := V_sl_len hv
 refine spec_of (args := [_]) (fn := Tryz.f171) Tryz.func171 rfl (n := 36) Tryz.ntmps171 ?_
 refine T.seq ?_
 refine T.region ?_
 refine Rg.assign rfl rfl ?_
 refine Rg.nil ?_
 refine T.seq ?_
 refine T.region ?_
 refine Rg.assign rfl rfl ?_
 refine Rg.nil ?_
 refine T.seq ?_
 refine T.seq ?_
 refine T.region ?_
 refine Rg.move rfl rfl ?_
 first | refine Rg.lensl Tryz.underlying107 rfl (by assumption) rfl ?_ | refine Rg.lenown Tryz.underlying107 rfl (by assumption) rfl ?_
 refine Rg.move rfl rfl ?_
 refine Rg.nil ?_
 refine T.block ?_
 refine T.loop (σ := Nat × Int) (fun s => [(6, v), (7, .int .i64 l.length), (8, .int .i64 s.1), (3, .int .i64 s.2)]) (fun s w => Step M w0 M w none' ∧ s.1 ≤ l.length ∧ mayPo (-1) l = mayPo s.2 (l.drop s.1)) (fun s => l.length - s.1) (0, -1) (.cons rfl (.cons rfl (.cons rfl (.cons rfl .nil)))) ?_ ?_
 ·exact ⟨Step.refl _ _, Nat.zero_le _, rfl⟩
 ·rintro ⟨k, last⟩ w1 ⟨S, hk, hr⟩
  dsimp only at hk hr ⊢
  have hMw := S.lt hM
  refine T.seq ?_
  refine T.region ?_
  refine Rg.ilt rfl rfl rfl ?_
  refine Rg.nil ?_
  refine T.seq ?_
  refine T.ifp rfl (fun c3 => ?_) (fun c3 => ?_)
  ·refine T.skip ?_
   refine T.seq ?_
   refine T.block ?_
   refine T.seq ?_
   refine T.region ?_
   obtain ⟨⟨d, ps⟩, hx⟩ : ∃ x, l[k]? = some x := ⟨_, List.getElem?_eq_getElem (by omega)⟩
   refine Rg.idx (M := M) Tryz.underlying107 I153 rfl rfl rfl (hv.le S.le) (Le.refl _ _) (by omega) (fun u4_0 a4_0 hg4_0 hu4_0 => ?_)
   obtain rfl : a4_0 = (d, ps) := Option.some.inj (hg4_0.symm.trans (by simpa using hx))
   refine Rg.loadagg (M := M) (A := RT.po) Tryz.underlying153 rfl I153 (by decide) rfl rfl rfl (by assumption) (by repeat (first | exact Le.refl _ _ | refine Le.trans (Step.le (by assumption)) ?_)) (fun v4_1 hv4_1 => ?_)
   refine Rg.newagg (A := RT.po) (M := M) I153 rfl rfl rfl rfl rfl (by assumption) (by repeat (first | exact Le.refl _ _ | refine Le.trans (Step.le (by assumption)) ?_)) (by first | assumption | exact Step.lt (by assumption) (by assumption) | exact Step.lt (by assumption) (Step.lt (by assumption) (by assumption))) (fun u4_2 w4_2 hu4_2 s4_2 z4_2 => ?_)
   refine Rg.nil ?_
   refine T.seq ?_
   refine T.seq ?_
   refine T.region ?_
   refine Rg.fieldAddr (M := M) (A := RT.po) (B := RT.int .i64) Tryz.underlying153 rfl rfl I3 (by decide) (po0) rfl rfl (by decide) (by assumption) (by repeat (first | exact Le.refl _ _ | refine Le.trans (Step.le (by assumption)) ?_)) (fun u5_0 hu5_0 => ?_)
   refine Rg.loadi64 (M := M) Tryz.underlying3 rfl rfl hu5_0 (Le.refl _ _) (fun in5_1 => ?_)
   refine Rg.eqv (v' := .int .i64 d) rfl ?_
   simp only at in5_1
   refine Rg.move rfl rfl ?_
   refine Rg.ile rfl rfl rfl ?_
   refine Rg.move rfl rfl ?_
   refine Rg.gsplitp (g := 16) rfl (fun g5_4 => ?_) (fun g5_4 => ?_)
   ·refine Rg.gno rfl rfl rfl rfl ?_
    refine Rg.gno rfl rfl rfl rfl ?_
    refine Rg.gno rfl rfl rfl rfl ?_
    refine Rg.pickt rfl rfl rfl ?_
    refine Rg.move rfl rfl ?_
    refine Rg.gno rfl rfl rfl rfl ?_
    refine Rg.gno rfl rfl rfl rfl ?_
    refine Rg.gno rfl rfl rfl rfl ?_
    refine Rg.gno rfl rfl rfl rfl ?_
    refine Rg.pickt rfl rfl rfl ?_
    refine Rg.move rfl rfl ?_
    refine Rg.gno rfl rfl rfl rfl ?_
    refine Rg.gno rfl rfl rfl rfl ?_
    refine Rg.gno rfl rfl rfl rfl ?_
    refine Rg.gno rfl rfl rfl rfl ?_
    refine Rg.pickt rfl rfl rfl ?_
    refine Rg.nil ?_
    refine T.ift rfl ?_
    refine T.seq ?_
    refine T.region ?_
    refine Rg.assign rfl rfl ?_
    refine Rg.nil ?_
    refine T.ret ?_
    refine Kret1 rfl rfl ⟨congrArg Value.bool (Eq.symm ?_), S.trans0 s4_2⟩
    rw [hr, mayPo_drop hx]
    first
    |(rw [decide_eq_false (show ¬ last < d by omega)]; simp; done)
    |(rw [decide_eq_false (show ¬ d < 2147483648 by omega)]; simp; done)
    |(rw [show ps = [] from List.length_eq_zero_iff.1 (by omega)]; simp; done)
    |(simp [c5]; done)
   ·refine Rg.gyes rfl rfl ?_
    refine Rg.fieldAddr (M := M) (A := RT.po) (B := RT.int .i64) Tryz.underlying153 rfl rfl I3 (by decide) (po0) rfl rfl (by decide) (by assumption) (by repeat (first | exact Le.refl _ _ | refine Le.trans (Step.le (by assumption)) ?_)) (fun u5_5 hu5_5 => ?_)
    refine Rg.gyes rfl rfl ?_
    refine Rg.loadi64 (M := M) Tryz.underlying3 rfl rfl hu5_5 (Le.refl _ _) (fun in5_6 => ?_)
    refine Rg.eqv (v' := .int .i64 d) rfl ?_
    refine Rg.gyes rfl rfl ?_
    refine Rg.ige rfl rfl rfl ?_
    refine Rg.pickf rfl rfl rfl ?_
    refine Rg.move rfl rfl ?_
    refine Rg.gsplitp (g := 21) rfl (fun g5_9 => ?_) (fun g5_9 => ?_)
    ·refine Rg.gno rfl rfl rfl rfl ?_
     refine Rg.gno rfl rfl rfl rfl ?_
     refine Rg.gno rfl rfl rfl rfl ?_
     refine Rg.gno rfl rfl rfl rfl ?_
     refine Rg.pickt rfl rfl rfl ?_
     refine Rg.move rfl rfl ?_
     refine Rg.gno rfl rfl rfl rfl ?_
     refine Rg.gno rfl rfl rfl rfl ?_
     refine Rg.gno rfl rfl rfl rfl ?_
     refine Rg.gno rfl rfl rfl rfl ?_
     refine Rg.pickt rfl rfl rfl ?_
     refine Rg.nil ?_
     refine T.ift rfl ?_
     refine T.seq ?_
     refine T.region ?_
     refine Rg.assign rfl rfl ?_
     refine Rg.nil ?_
     refine T.ret ?_
     refine Kret1 rfl rfl ⟨congrArg Value.bool (Eq.symm ?_), S.trans0 s4_2⟩
     rw [hr, mayPo_drop hx]
     first
     |(rw [decide_eq_false (show ¬ last < d by omega)]; simp; done)
     |(rw [decide_eq_false (show ¬ d < 2147483648 by omega)]; simp; done)
     |(rw [show ps = [] from List.length_eq_zero_iff.1 (by omega)]; simp; done)
     |(simp [c5]; done)
    ·refine Rg.gyes rfl rfl ?_
     refine Rg.fieldAddr (M := M) (A := RT.po) (B := (RT.int .i64).sl) Tryz.underlying153 rfl rfl I32 (by decide) (po1) rfl rfl (by decide) (by assumption) (by repeat (first | exact Le.refl _ _ | refine Le.trans (Step.le (by assumption)) ?_)) (fun u5_10 hu5_10 => ?_)
     refine Rg.gyes rfl rfl ?_
     refine Rg.load (M := M) Tryz.underlying32 rfl rfl rfl rfl rfl (by assumption) (by repeat (first | exact Le.refl _ _ | refine Le.trans (Step.le (by assumption)) ?_)) (fun v5_11 hv5_11 => ?_)
     refine Rg.gyes rfl rfl ?_
     refine Rg.lensl Tryz.underlying32 rfl hv5_11 rfl ?_
     refine Rg.eqv (v' := .int .i64 ps.length) rfl ?_
     refine Rg.gyes rfl rfl ?_
     refine Rg.ieq rfl rfl rfl ?_
     refine Rg.pickf rfl rfl rfl ?_
     refine Rg.move rfl rfl ?_
     refine Rg.gsplitp (g := 27) rfl (fun g5_15 => ?_) (fun g5_15 => ?_)
     ·refine Rg.gno rfl rfl rfl rfl ?_
      refine Rg.gno rfl rfl rfl rfl ?_
      refine Rg.gno rfl rfl rfl rfl ?_
      refine Rg.gno rfl rfl rfl rfl ?_
      refine Rg.pickt rfl rfl rfl ?_
      refine Rg.nil ?_
      refine T.ift rfl ?_
      refine T.seq ?_
      refine T.region ?_
      refine Rg.assign rfl rfl ?_
      refine Rg.nil ?_
      refine T.ret ?_
      refine Kret1 rfl rfl ⟨congrArg Value.bool (Eq.symm ?_), S.trans0 s4_2⟩
      rw [hr, mayPo_drop hx]
      first
      |(rw [decide_eq_false (show ¬ last < d by omega)]; simp; done)
      |(rw [decide_eq_false (show ¬ d < 2147483648 by omega)]; simp; done)
      |(rw [show ps = [] from List.length_eq_zero_iff.1 (by omega)]; simp; done)
      |(simp [c5]; done)
     ·refine Rg.gyes rfl rfl ?_
      refine Rg.fieldAddr (M := M) (A := RT.po) (B := (RT.int .i64).sl) Tryz.underlying153 rfl rfl I32 (by decide) (po1) rfl rfl (by decide) (by assumption) (by repeat (first | exact Le.refl _ _ | refine Le.trans (Step.le (by assumption)) ?_)) (fun u5_16 hu5_16 => ?_)
      refine Rg.gyes rfl rfl ?_
      refine Rg.load (M := M) Tryz.underlying32 rfl rfl rfl rfl rfl (by assumption) (by repeat (first | exact Le.refl _ _ | refine Le.trans (Step.le (by assumption)) ?_)) (fun v5_17 hv5_17 => ?_)
      refine Rg.gyes rfl rfl ?_
      refine Rg.call rfl rfl E212 (prises_spec hv5_17) (fun r5 w5 h5 => ?_)
      obtain ⟨rfl, rfl⟩ := h5
      refine Rg.gyes rfl rfl ?_
      refine Rg.not rfl rfl ?_
      refine Rg.eqv (v' := .bool (decide (¬ risesB ps = true))) (by simp) ?_
      refine Rg.pickf rfl rfl rfl ?_
      refine Rg.nil ?_
      refine T.ifp rfl (fun c5 => ?_) (fun c5 => ?_)
      ·refine T.seq ?_
       refine T.region ?_
       refine Rg.assign rfl rfl ?_
       refine Rg.nil ?_
       refine T.ret ?_
       refine Kret1 rfl rfl ⟨congrArg Value.bool (Eq.symm ?_), S.trans0 s4_2⟩
       rw [hr, mayPo_drop hx]
       first
       |(rw [decide_eq_false (show ¬ last < d by omega)]; simp; done)
       |(rw [decide_eq_false (show ¬ d < 2147483648 by omega)]; simp; done)
       |(rw [show ps = [] from List.length_eq_zero_iff.1 (by omega)]; simp; done)
       |(simp [c5]; done)
      ·refine T.skip ?_
       refine T.region ?_
       refine Rg.fieldAddr (M := M) (A := RT.po) (B := RT.int .i64) Tryz.underlying153 rfl rfl I3 (by decide) (po0) rfl rfl (by decide) (by assumption) (by repeat (first | exact Le.refl _ _ | refine Le.trans (Step.le (by assumption)) ?_)) (fun u7_0 hu7_0 => ?_)
       refine Rg.loadi64 (M := M) Tryz.underlying3 rfl rfl hu7_0 (Le.refl _ _) (fun in7_1 => ?_)
       refine Rg.eqv (v' := .int .i64 d) rfl ?_
       refine Rg.assign rfl rfl ?_
       refine Rg.nil ?_
       refine T.region ?_
       refine Rg.iadd rfl rfl rfl (by omega) ?_
       refine Rg.move rfl rfl ?_
       refine Rg.nil ?_
       refine ⟨rfl, (k + 1, d), (.cons rfl (.cons rfl (.cons rfl (.cons rfl .nil)))), ?_, ?_⟩
       ·refine ⟨S.trans0 s4_2, by simp only; omega, ?_⟩
        have hne : ps.isEmpty = false := by cases ps with
         |nil => simp at g5_15
         |cons a t => rfl
        rw [hr, mayPo_drop hx, decide_eq_true (show last < d by omega), decide_eq_true (show d < 2147483648 by omega), hne, Decidable.not_not.1 c5]; rfl
       ·simp only; omega
  ·refine T.exit ?_
   refine T.seq ?_
   refine T.region ?_
   refine Rg.assign rfl rfl ?_
   refine Rg.nil ?_
   refine T.ret ?_
   refine Kret1 rfl rfl ⟨congrArg Value.bool (Eq.symm ?_), S⟩
   rw [hr, List.drop_eq_nil_of_le (by omega)]; rfl
theorem Chunk_spec {M : PSet} {w0 : World} {v : Value} {l : List Po} (hM : Lt M w0) (hv : ((RT.po).sl).V M w0 l v) :
  Spec Tryz.prog 172 #[v, .int .i64 8] w0 (fun v' w' => ∃ bs bn, v' = .func (.func 213) [].toArray [.pointer (some ⟨bs, 0, none⟩), .pointer (some ⟨bn, 0, none⟩)].toArray ∧ w'.heap[bs]? = some (.cells #[v] 107 (0, 0)) ∧ w'.heap[bn]? = some (.cells #[.int .i64 8] 3 (0, 0)) ∧ w0.heap.size ≤ bs ∧ w0.heap.size ≤ bn ∧ Step M w0 M w' none') := by
 refine spec_of (args := [_, _]) (fn := Tryz.f172) Tryz.func172 rfl (n := 9) Tryz.ntmps172 ?_
 refine T.seq ?_
 refine T.region ?_
 refine Rg.box M rfl rfl (fun bs w1 h1 h1' hS s1 => ?_)
 rw [V_cells hv] at hS
 refine Rg.box (ins M bs) rfl rfl (fun bn w2 h2 h2' hN s2 => ?_)
 have hS2 := s2.same0 hS
 have hz1 := s1.size
 refine Rg.assign rfl rfl ?_
 refine Rg.nil ?_
 refine T.seq ?_
 refine T.seq ?_
 refine T.region ?_
 refine Rg.loadc Tryz.underlying3 rfl rfl rfl hN rfl ?_
 refine Rg.ilt rfl rfl rfl ?_
 refine Rg.nil ?_
 refine T.iffp rfl ((by decide)) ?_
 refine T.skip ?_
 refine T.seq ?_
 refine T.region ?_
 refine Rg.makeFunc (xs := []) (ys := [.tmp 2, .tmp 3]) rfl rfl rfl ?_
 refine Rg.assign rfl rfl ?_
 refine Rg.nil ?_
 refine T.ret ?_
 exact Kret1 rfl rfl ⟨bs, bn, rfl, hS2, hN, h1, by omega, (s1.trans0 s2).back⟩
theorem Chunk1_spec {w0 : World} {bs bn yl : Nat} {v : Value} {l : List Po} {M : PSet} {wv : World} {J : Nat → World → Prop} {Jx : World → Prop} (hv : ((RT.po).sl).V M wv l v) (hst : ∀ i w w', J i w → Step none' w none' w' none' → J i w') (hbx : ∀ i w, J i w → w.heap[bs]? = some (.cells #[v] 107 (0, 0)) ∧ w.heap[bn]? = some (.cells #[.int .i64 8] 3 (0, 0))) (hy : ∀ (i : Nat) (w : World) (u : Value), J i w → i < l.length → ((RT.po).sl).V M wv ((l.drop i).take 8) u → Yield Tryz.prog yl [u].toArray w (fun r w' => ∃ b, r = .bool b ∧ (b = true → J (min (i + 8) l.length) w') ∧ (b = false → Jx w'))) (h0 : J 0 w0) :
  Spec Tryz.prog 213 #[.func (.yield yl) #[] #[], .pointer (some ⟨bs, 0, none⟩), .pointer (some ⟨bn, 0, none⟩)] w0 (fun _ w' => J l.length w' ∨ Jx w') := by
 have hlen := V_sl_len hv
 refine spec_of (args := [_, _, _]) (fn := Tryz.f213) Tryz.func213 rfl (n := 31) Tryz.ntmps213 ?_
 refine T.seq ?_
 refine T.region ?_
 refine Rg.assign rfl rfl ?_
 refine Rg.nil ?_
 refine T.block ?_
 refine T.loop (σ := Nat) (fun s => [(0, .func (.yield yl) #[] #[]), (1, .pointer (some ⟨bs, 0, none⟩)), (2, .pointer (some ⟨bn, 0, none⟩)), (4, .int .i64 s)]) (fun s w => J (min s l.length) w ∧ s ≤ l.length + 8) (fun s => l.length + 8 - s) 0 (.cons rfl (.cons rfl (.cons rfl (.cons rfl .nil)))) ?_ ?_
 ·exact ⟨by rw [Nat.zero_min]; exact h0, Nat.zero_le _⟩
 ·rintro k w1 ⟨hJ, hk⟩
  obtain ⟨hb1, hb2⟩ := hbx _ _ hJ
  refine T.seq ?_
  refine T.seq ?_
  refine T.region ?_
  refine Rg.move rfl rfl ?_
  refine Rg.loadc Tryz.underlying107 rfl rfl rfl hb1 rfl ?_
  first | refine Rg.lensl Tryz.underlying107 rfl (by assumption) rfl ?_ | refine Rg.lenown Tryz.underlying107 rfl (by assumption) rfl ?_
  refine Rg.ilt rfl rfl rfl ?_
  refine Rg.nil ?_
  refine T.ifp rfl (fun c1 => ?_) (fun c1 => ?_)
  ·refine T.skip ?_
   refine T.seq ?_
   refine T.block ?_
   refine T.seq ?_
   apply T.draw (M := none') mixed [Asr.eq _, Asr.eq _, Asr.eq _, Asr.pure (fun v => ((RT.po).sl).V M wv (l.drop k) v), Asr.eq _, Asr.eq _, Asr.eq _]
   ·rfl
   ·refine Obls.cons ?_ ?_
    ·intro wD E sD
     refine Rg.loadc Tryz.underlying3 rfl rfl rfl (Step.same0 sD hb2) rfl ?_
     exact Rg.nil ⟨rfl, rfl, _, rfl, rfl, Step.refl _ _⟩
    refine Obls.cons ?_ ?_
    ·intro wD E sD
     refine Rg.loadc Tryz.underlying107 rfl rfl rfl (Step.same0 sD hb1) rfl ?_
     exact Rg.nil ⟨rfl, rfl, _, rfl, rfl, Step.refl _ _⟩
    refine Obls.cons ?_ ?_
    ·intro wD E sD
     refine Rg.move rfl rfl ?_
     exact Rg.nil ⟨rfl, rfl, _, rfl, rfl, Step.refl _ _⟩
    refine Obls.cons ?_ ?_
    ·intro wD E sD
     intro x_ hx_; have hx_ : x_ = _ := hx_; subst x_
     intro x_ hx_; have hx_ : x_ = _ := hx_; subst x_
     refine Rg.slice_l (A := RT.po) (hn := by decide) Tryz.underlying107 I153 rfl rfl rfl hv (by omega) (fun u hu => ?_)
     rw [Int.toNat_natCast] at hu
     exact Rg.nil ⟨rfl, rfl, _, rfl, hu, Step.refl _ _⟩
    refine Obls.cons ?_ ?_
    ·intro wD E sD
     intro v3 hv3
     have hv3' : ((RT.po).sl).V M wv (l.drop k) v3 := hv3
     refine Rg.lensl Tryz.underlying107 rfl hv3' rfl ?_
     exact Rg.nil ⟨rfl, rfl, _, rfl, rfl, Step.refl _ _⟩
    refine Obls.cons ?_ ?_
    ·intro wD E sD
     intro x_ hx_; have hx_ : x_ = _ := hx_; subst x_
     intro x_ hx_; have hx_ : x_ = _ := hx_; subst x_
     refine Rg.min2 rfl rfl rfl ?_
     exact Rg.nil ⟨rfl, rfl, _, rfl, rfl, Step.refl _ _⟩
    refine Obls.cons ?_ ?_
    ·intro wD E sD
     intro x_ hx_; have hx_ : x_ = _ := hx_; subst x_
     intro x_ hx_; have hx_ : x_ = _ := hx_; subst x_
     intro x_ hx_; have hx_ : x_ = _ := hx_; subst x_
     intro x_ hx_; have hx_ : x_ = _ := hx_; subst x_
     intro v3 hv3
     intro x_ hx_; have hx_ : x_ = _ := hx_; subst x_
     intro x_ hx_; have hx_ : x_ = _ := hx_; subst x_
     refine Rg.assign rfl rfl ?_
     exact Rg.nil ⟨rfl, rfl, _, rfl, rfl, Step.refl _ _⟩
    exact Obls.nil
   ·intro wD3 sD3
    intro x_ hx_; have hx_ : x_ = _ := hx_; subst x_
    intro x_ hx_; have hx_ : x_ = _ := hx_; subst x_
    intro x_ hx_; have hx_ : x_ = _ := hx_; subst x_
    intro v3_3 hv3_3
    intro x_ hx_; have hx_ : x_ = _ := hx_; subst x_
    intro x_ hx_; have hx_ : x_ = _ := hx_; subst x_
    intro x_ hx_; have hx_ : x_ = _ := hx_; subst x_
    rw [show min k l.length = k from by omega] at hJ
    have hJ3 := hst _ _ _ hJ sD3
    obtain ⟨hb3, hb4⟩ := hbx _ _ hJ3
    refine T.seq ?_
    refine T.region ?_
    refine Rg.move rfl rfl ?_
    refine Rg.loadc Tryz.underlying107 rfl rfl rfl hb3 rfl ?_
    refine Rg.move rfl rfl ?_
    refine Rg.move rfl rfl ?_
    refine Rg.move rfl rfl ?_
    refine Rg.iadd rfl rfl rfl (by omega) ?_
    refine Rg.move rfl rfl ?_
    refine Rg.move rfl rfl ?_
    refine Rg.iadd rfl rfl rfl (by omega) ?_
    refine Rg.slice_lhm (A := RT.po) (hn := by decide) Tryz.underlying107 I153 rfl rfl rfl rfl rfl hv (by rw [List.length_drop]; omega) (fun u hu => ?_)
    have he : (l.take ((k : Int) + min 8 ((l.drop k).length : Int)).toNat).drop (k : Int).toNat = (l.drop k).take 8 := by
     rw [Int.toNat_natCast, List.drop_take, List.length_drop, show ((k : Int) + min 8 ((l.length - k : Nat) : Int)).toNat - k = min 8 (l.length - k) from by omega, List.take_eq_take_iff, List.length_drop]; omega
    rw [he] at hu
    refine Rg.yield rfl (vs := [u]) rfl rfl (hy k _ u hJ3 (by omega) hu) (fun r4 w4 h4 => ?_)
    obtain ⟨b, rfl, hb5, hb6⟩ := h4
    refine Rg.not rfl rfl ?_
    refine Rg.eqv (v' := .bool (decide (¬ b = true))) (by simp) ?_
    refine Rg.nil ?_
    refine T.ifp rfl (fun c4 => ?_) (fun c4 => ?_)
    ·refine T.ret ?_
     exact Kret0 rfl (.inr (hb6 (by simpa using c4)))
    ·refine T.skip ?_
     refine T.region ?_
     refine Rg.move rfl rfl ?_
     have hJ5 := hb5 (Decidable.not_not.1 c4)
     refine Rg.loadc Tryz.underlying3 rfl rfl rfl (hbx _ _ hJ5).2 rfl ?_
     refine Rg.iadd rfl rfl rfl (by omega) ?_
     refine Rg.assign rfl rfl ?_
     refine Rg.nil ?_
     refine ⟨rfl, k + 8, (.cons rfl (.cons rfl (.cons rfl (.cons rfl .nil)))), ?_, ?_⟩
     ·exact ⟨hJ5, by omega⟩
     ·show l.length + 8 - (k + 8) < l.length + 8 - k; omega
  ·refine T.exit ?_
   rw [show min k l.length = l.length from by omega] at hJ
   change Kret Tryz.prog Tryz.f213 (fun _ w' => J l.length w' ∨ Jx w') .normal _ [] _
   exact Kret0n rfl (.inl hJ)
end Go.K

/- What the law 'EraseLater' needs of walks and plain Lean, part 3: nothing is assumed beyond the texts that it imports. -/
import Derived.Deep.Draws
import Derived.DeepKeys4
import Derived.Ground.Names2Prog
import Derived.Ground.SlsfProg
import Derived.KernelRfl
import Derived.Lib.Bytealg
import Derived.Shelf.SlGeneric
import Derived.Shelf.SlSortCmp.NoneTotal
import Derived.Shelf.Strings.SlTrimAscii
import Derived.Sort.Grow
import Derived.Sort.KeysCollected
import Derived.Sort.Walk0
import Derived.Test.YtohfoenhmkfjkaaGreatDoorProg
import Derived.Test.YtohfoenhmkfjkaaGreatDoorZEraseLater1
import Derived.Test.YtohfoenhmkfjkaaGreatDoorZEraseLater2
namespace Go.K
open Go.Proofs
set_option linter.unusedVariables false
set_option linter.unusedSimpArgs false
set_option maxRecDepth 10000
def tokE : Nat → List (List UInt8) → Int
 |_, [] => 0
 |i, w :: ws => if 30 < w.length then 3 else if 500 ≤ i then 7 else tokE (i + 1) ws
theorem tokE_at {i k : Nat} {ws : List (List UInt8)} {x : List UInt8} (h : ws[k]? = some x) : tokE i (ws.drop k) = if 30 < x.length then 3 else if 500 ≤ i then 7 else tokE (i + 1) (ws.drop (k + 1)) := by
 have hlt := (List.getElem?_eq_some_iff.1 h).1
 rw [List.drop_eq_getElem_cons hlt, (List.getElem?_eq_some_iff.1 h).2]
 rfl
theorem V_strE {M : PSet} {w : World} {x : List UInt8} {v : Value} (h : RT.str.V M w x v) : v = .string ⟨x.toArray⟩ := (V_str.1 h).1
theorem toks_spec {M : PSet} {l : List UInt8} (w0 : World) (hM : Lt M w0) (hl : l.length ≤ 900000) :
  Spec Tryz.prog 150 #[.string ⟨l.toArray⟩] w0 (fun v w => (∃ u, v = .tuple #[u, .int .i64 (tokE 0 (words l))] ∧ (tokE 0 (words l) = 0 → ∃ a cap, u = .slice a (words l).length cap)) ∧ Step M w0 M w none') := by
 have hM0 := hM
 refine spec_of (args := [_]) (fn := Tryz.f150) Tryz.func150 rfl (n := 30) Tryz.ntmps150 ?_
 have S : Step M w0 M w0 none' := (Step.refl _ _).widen (fun _ h => h.elim) (fun _ h => h.elim)
 refine T.seq ?_
 refine T.region ?_
 refine Rg.assign rfl rfl ?_
 refine Rg.assign rfl rfl ?_
 refine Rg.nil ?_
 refine T.seq ?_
 refine T.region ?_
 refine Rg.assign rfl rfl ?_
 refine Rg.nil ?_
 refine T.seq ?_
 refine T.seq ?_
 refine T.region ?_
 refine Rg.move rfl rfl ?_
 refine Rg.call rfl rfl E192 (words_spec _ hM hl) (fun v1 w1 hc => ?_)
 obtain ⟨hv, s1⟩ := hc --@step s1
 --@vf hv
 replace hM := s1.lt hM
 have := S.size
 replace S := S.trans0 s1
 refine Rg.lensl Tryz.underlying55 rfl hv rfl ?_
 refine Rg.move rfl rfl ?_
 refine Rg.nil ?_
 refine T.block ?_
 refine T.loop (σ := Nat × Value) (fun q => [(8, v1), (4, q.2), (9, .int .i64 ((words l).length : Int)), (10, .int .i64 (q.1 : Int))]) (fun q w => (∃ M' xs, Lt M' w ∧ Step M w0 M' w none' ∧ Own (RT.pair RT.str (RT.int .i64)) 256 M' w w0.heap.size q.2 xs ∧ xs.length = q.1 ∧ (RT.str.sl).V M' w (words l) v1) ∧ tokE 0 (words l) = tokE q.1 ((words l).drop q.1) ∧ q.1 ≤ (words l).length ∧ q.1 ≤ 500) (fun q => (words l).length - q.1) (0, .slice none 0 0) (.cons rfl (.cons rfl (.cons rfl (.cons rfl .nil)))) ?_ ?_
 ·exact ⟨⟨M, [], hM, S, Own.nil _ _ _ _ _, rfl, hv⟩, rfl, Nat.zero_le _, Nat.zero_le _⟩
 ·rintro ⟨i, u⟩ w ⟨⟨M1, xs, hM, S, ho, hxl, hv⟩, hte, hi, hi5⟩
  dsimp only at ho hxl hte hi hi5 ⊢
  refine T.seq ?_
  refine T.region ?_
  refine Rg.ilt rfl rfl rfl ?_
  refine Rg.nil ?_
  refine T.seq ?_
  refine T.ifp rfl (fun c3 => ?_) (fun c3 => ?_)
  ·refine T.skip ?_
   refine T.seq ?_
   refine T.block ?_
   refine T.seq ?_
   refine T.region ?_
   refine Rg.move rfl rfl ?_
   refine Rg.idx (M := M1) Tryz.underlying55 I9 rfl rfl rfl hv (Le.refl _ _) (by omega) (fun u4_1 x hgx hux => ?_) --@ptr RT.str ;; x
   refine Rg.load (M := M1) Tryz.underlying9 rfl rfl rfl rfl rfl hux (Le.refl _ _) (fun vx hvx => ?_)
   rw [Int.toNat_natCast] at hgx
   obtain rfl := V_strE hvx
   have ht := tokE_at (i := i) hgx --@vf hvx
   refine Rg.assign rfl rfl ?_
   refine Rg.assign rfl rfl ?_
   refine Rg.nil ?_
   refine T.seq ?_
   refine T.block ?_
   refine T.seq ?_
   refine T.region ?_
   refine Rg.move rfl rfl ?_
   refine Rg.lenstr Tryz.underlying9 rfl rfl ?_
   refine Rg.eqv (v' := .int .i64 (x.length : Int)) (by simp [ByteArray.size]) ?_
   refine Rg.igt rfl rfl rfl ?_
   refine Rg.assign rfl rfl ?_
   refine Rg.nil ?_
   refine T.ifp rfl (fun c5 => ?_) (fun c5 => ?_)
   ·refine T.seq ?_
    refine T.region ?_
    refine Rg.assign rfl rfl ?_
    refine Rg.assign rfl rfl ?_
    refine Rg.nil ?_
    refine T.ret ?_
    rw [hte, ht, if_pos (by omega)]
    exact Kret2 rfl rfl rfl ⟨⟨_, rfl, fun h => by cases h⟩, S.back⟩
   ·refine T.seq ?_
    refine T.region ?_
    refine Rg.move rfl rfl ?_
    refine Rg.ieq rfl rfl rfl ?_
    refine Rg.assign rfl rfl ?_
    refine Rg.nil ?_
    refine T.ifp rfl (fun c7 => ?_) (fun c7 => ?_)
    ·refine T.seq ?_
     refine T.region ?_
     refine Rg.assign rfl rfl ?_
     refine Rg.assign rfl rfl ?_
     refine Rg.nil ?_
     refine T.ret ?_
     rw [hte, ht, if_neg (by omega), if_pos (by omega)]
     exact Kret2 rfl rfl rfl ⟨⟨_, rfl, fun h => by cases h⟩, S.back⟩
    ·refine T.skip ?_
     refine T.region ?_
     refine Rg.move rfl rfl ?_
     refine Rg.move rfl rfl ?_
     refine Rg.move rfl rfl ?_
     refine Rg.build (places := [(0, 1), (1, 1)]) Tryz.underlying256 I256 B256 rfl ⟨_, _, rfl, rfl, _, _, rfl, rfl, rfl⟩ (out := [_, _]) ⟨0, [_], rfl, rfl, by simp [Value.cells], 1, [_], rfl, rfl, by simp [Value.cells], rfl⟩ ?_
     refine Rg.sl1 (A := (RT.pair RT.str (RT.int .i64))) (hn := by decide) (M := M1) Tryz.underlying222 I256 (by decide) rfl rfl hM (V_pair_mk hvx (V_i64 (x := (i : Int)) (by omega)) rfl rfl rfl rfl) (.inl rfl) (fun u9_4 w9_4 hu9_4 s9_4 => ?_)
     replace hv := hv.le s9_4.le
     replace hvx := hvx.le s9_4.le
     replace ho := ho.step0 s9_4
     replace hM := s9_4.lt hM
     have := S.size
     replace S := S.trans0 s9_4
     refine Rg.append (M := M1) (base := w0.heap.size) Tryz.underlying222 I256 rfl rfl rfl rfl ho hu9_4 (Le.refl _ _) (by simp; omega) (by simp; omega) (S.size) (fun u9_5 M9_5 w9_5 ho9_5 s9_5 => ?_)
     replace hv := hv.le s9_5.le
     replace hvx := hvx.le s9_5.le
     replace hu9_4 := hu9_4.le s9_5.le
     replace hM := s9_5.lt hM
     have := S.size
     replace S := S.transBlk s9_5 ho (Nat.le_refl _)
     replace ho := ho9_5
     refine Rg.assign rfl rfl ?_
     refine Rg.nil ?_
     refine T.region ?_
     refine Rg.iadd rfl rfl rfl (by omega) ?_
     refine Rg.move rfl rfl ?_
     refine Rg.nil ?_
     refine ⟨rfl, (i + 1, u9_5), (.cons rfl (.cons rfl (.cons rfl (.cons rfl .nil)))), ?_, ?_⟩
     ·exact ⟨⟨M9_5, _, hM, S, ho, by simp [hxl], hv⟩, by rw [hte, ht, if_neg (by omega), if_neg (by omega)], by dsimp only; omega, by dsimp only; omega⟩
     ·dsimp only; omega
  ·refine T.exit ?_
   refine T.seq ?_
   refine T.region ?_
   refine Rg.move rfl rfl ?_
   refine Rg.assign rfl rfl ?_
   refine Rg.assign rfl rfl ?_
   refine Rg.nil ?_
   refine T.ret ?_
   have e : tokE 0 (words l) = 0 := by rw [hte, List.drop_of_length_le (by omega)]; rfl
   rw [e]
   obtain ⟨a, cap, he, _⟩ := ho.isSlice
   exact Kret2 rfl rfl rfl ⟨⟨u, rfl, fun _ => ⟨a, cap, by rw [he, hxl]; congr 1; omega⟩⟩, S.back⟩
theorem rtoks_spec {M : PSet} {l : List UInt8} (w0 : World) (hM : Lt M w0) (hl : l.length ≤ 900000) :
  Spec Tryz.prog 167 #[.string ⟨l.toArray⟩] w0 (fun v w => (∃ u, v = .tuple #[u, .int .i64 (tokE 0 (words l))] ∧ (tokE 0 (words l) = 0 → ∃ a cap, u = .slice a (words l).length cap)) ∧ Step M w0 M w none') := by
 have hM0 := hM
 refine spec_of (args := [_]) (fn := Tryz.f167) Tryz.func167 rfl (n := 33) Tryz.ntmps167 ?_
 have S : Step M w0 M w0 none' := (Step.refl _ _).widen (fun _ h => h.elim) (fun _ h => h.elim)
 refine T.seq ?_
 refine T.region ?_
 refine Rg.assign rfl rfl ?_
 refine Rg.assign rfl rfl ?_
 refine Rg.nil ?_
 refine T.seq ?_
 refine T.region ?_
 refine Rg.move rfl rfl ?_
 refine Rg.call rfl rfl E191 (rwords_spec _ hM hl) (fun v1 w1 hc => ?_)
 obtain ⟨hv, s1⟩ := hc --@step s1
 --@vf hv
 replace hM := s1.lt hM
 have := S.size
 replace S := S.trans0 s1
 refine Rg.assign rfl rfl ?_
 refine Rg.nil ?_
 refine T.seq ?_
 refine T.region ?_
 refine Rg.assign rfl rfl ?_
 refine Rg.nil ?_
 refine T.seq ?_
 refine T.seq ?_
 refine T.region ?_
 refine Rg.assign rfl rfl ?_
 refine Rg.nil ?_
 refine T.block ?_
 refine T.loop (σ := Nat × Value) (fun q => [(4, v1), (5, q.2), (6, .int .i64 (q.1 : Int))]) (fun q w => (∃ M' xs, Lt M' w ∧ Step M w0 M' w none' ∧ Own (RT.pair RT.str (RT.int .i64)) 256 M' w w0.heap.size q.2 xs ∧ xs.length = q.1 ∧ (RT.str.sl).V M' w (words l) v1) ∧ tokE 0 (words l) = tokE q.1 ((words l).drop q.1) ∧ q.1 ≤ (words l).length ∧ q.1 ≤ 500) (fun q => (words l).length - q.1) (0, .slice none 0 0) (.cons rfl (.cons rfl (.cons rfl .nil))) ?_ ?_
 ·exact ⟨⟨M, [], hM, S, Own.nil _ _ _ _ _, rfl, hv⟩, rfl, Nat.zero_le _, Nat.zero_le _⟩
 ·rintro ⟨i, u⟩ w ⟨⟨M1, xs, hM, S, ho, hxl, hv⟩, hte, hi, hi5⟩
  dsimp only at ho hxl hte hi hi5 ⊢
  refine T.seq ?_
  refine T.seq ?_
  refine T.region ?_
  refine Rg.move rfl rfl ?_
  refine Rg.move rfl rfl ?_
  refine Rg.lensl Tryz.underlying55 rfl hv rfl ?_
  refine Rg.ilt rfl rfl rfl ?_
  refine Rg.nil ?_
  refine T.ifp rfl (fun c4 => ?_) (fun c4 => ?_)
  ·refine T.skip ?_
   refine T.seq ?_
   refine T.block ?_
   refine T.seq ?_
   refine T.seq ?_
   refine T.region ?_
   refine Rg.move rfl rfl ?_
   refine Rg.move rfl rfl ?_
   refine Rg.idx (M := M1) Tryz.underlying55 I9 rfl rfl rfl hv (Le.refl _ _) (by omega) (fun u6_2 x hgx hux => ?_) --@ptr RT.str ;; x
   refine Rg.load (M := M1) Tryz.underlying9 rfl rfl rfl rfl rfl hux (Le.refl _ _) (fun vx hvx => ?_)
   rw [Int.toNat_natCast] at hgx
   obtain rfl := V_strE hvx
   have ht := tokE_at (i := i) hgx --@vf hvx
   refine Rg.lenstr Tryz.underlying9 rfl rfl ?_
   refine Rg.eqv (v' := .int .i64 (x.length : Int)) (by simp [ByteArray.size]) ?_
   refine Rg.igt rfl rfl rfl ?_
   refine Rg.nil ?_
   refine T.ifp rfl (fun c6 => ?_) (fun c6 => ?_)
   ·refine T.seq ?_
    refine T.region ?_
    refine Rg.assign rfl rfl ?_
    refine Rg.assign rfl rfl ?_
    refine Rg.nil ?_
    refine T.ret ?_
    rw [hte, ht, if_pos (by omega)]
    exact Kret2 rfl rfl rfl ⟨⟨_, rfl, fun h => by cases h⟩, S.back⟩
   ·refine T.skip ?_
    refine T.seq ?_
    refine T.seq ?_
    refine T.region ?_
    refine Rg.move rfl rfl ?_
    refine Rg.ige rfl rfl rfl ?_
    refine Rg.nil ?_
    refine T.ifp rfl (fun c8 => ?_) (fun c8 => ?_)
    ·refine T.seq ?_
     refine T.region ?_
     refine Rg.assign rfl rfl ?_
     refine Rg.assign rfl rfl ?_
     refine Rg.nil ?_
     refine T.ret ?_
     rw [hte, ht, if_neg (by omega), if_pos (by omega)]
     exact Kret2 rfl rfl rfl ⟨⟨_, rfl, fun h => by cases h⟩, S.back⟩
    ·refine T.skip ?_
     refine T.region ?_
     refine Rg.move rfl rfl ?_
     refine Rg.move rfl rfl ?_
     refine Rg.move rfl rfl ?_
     refine Rg.idx (M := M1) Tryz.underlying55 I9 rfl rfl rfl hv (Le.refl _ _) (by omega) (fun u10_3 y hgy huy => ?_) --@ptr RT.str ;; y
     refine Rg.load (M := M1) Tryz.underlying9 rfl rfl rfl rfl rfl huy (Le.refl _ _) (fun vy hvy => ?_)
     rw [Int.toNat_natCast] at hgy
     obtain rfl := V_strE hvy
     obtain rfl : x = y := by rw [hgx] at hgy; exact Option.some.inj hgy --@vf hvy
     refine Rg.move rfl rfl ?_
     refine Rg.build (places := [(0, 1), (1, 1)]) Tryz.underlying256 I256 B256 rfl ⟨_, _, rfl, rfl, _, _, rfl, rfl, rfl⟩ (out := [_, _]) ⟨0, [_], rfl, rfl, by simp [Value.cells], 1, [_], rfl, rfl, by simp [Value.cells], rfl⟩ ?_
     refine Rg.sl1 (A := (RT.pair RT.str (RT.int .i64))) (hn := by decide) (M := M1) Tryz.underlying222 I256 (by decide) rfl rfl hM (V_pair_mk hvy (V_i64 (x := (i : Int)) (by omega)) rfl rfl rfl rfl) (.inl rfl) (fun u10_7 w10_7 hu10_7 s10_7 => ?_)
     replace hv := hv.le s10_7.le
     replace hvx := hvx.le s10_7.le
     replace hvy := hvy.le s10_7.le
     replace ho := ho.step0 s10_7
     replace hM := s10_7.lt hM
     have := S.size
     replace S := S.trans0 s10_7
     refine Rg.append (M := M1) (base := w0.heap.size) Tryz.underlying222 I256 rfl rfl rfl rfl ho hu10_7 (Le.refl _ _) (by simp; omega) (by simp; omega) (S.size) (fun u10_8 M10_8 w10_8 ho10_8 s10_8 => ?_)
     replace hv := hv.le s10_8.le
     replace hvx := hvx.le s10_8.le
     replace hvy := hvy.le s10_8.le
     replace hu10_7 := hu10_7.le s10_8.le
     replace hM := s10_8.lt hM
     have := S.size
     replace S := S.transBlk s10_8 ho (Nat.le_refl _)
     replace ho := ho10_8
     refine Rg.assign rfl rfl ?_
     refine Rg.nil ?_
     refine T.region ?_
     refine Rg.move rfl rfl ?_
     refine Rg.iadd rfl rfl rfl (by omega) ?_
     refine Rg.assign rfl rfl ?_
     refine Rg.nil ?_
     refine ⟨rfl, (i + 1, u10_8), (.cons rfl (.cons rfl (.cons rfl .nil))), ?_, ?_⟩
     ·exact ⟨⟨M10_8, _, hM, S, ho, by simp [hxl], hv⟩, by rw [hte, ht, if_neg (by omega), if_neg (by omega)], by dsimp only; omega, by dsimp only; omega⟩
     ·dsimp only; omega
  ·refine T.exit ?_
   refine T.seq ?_
   refine T.region ?_
   refine Rg.move rfl rfl ?_
   refine Rg.assign rfl rfl ?_
   refine Rg.assign rfl rfl ?_
   refine Rg.nil ?_
   refine T.ret ?_
   have e : tokE 0 (words l) = 0 := by rw [hte, List.drop_of_length_le (by omega)]; rfl
   rw [e]
   obtain ⟨a, cap, he, _⟩ := ho.isSlice
   exact Kret2 rfl rfl rfl ⟨⟨u, rfl, fun _ => ⟨a, cap, by rw [he, hxl]; congr 1; omega⟩⟩, S.back⟩
end Go.K
namespace Go.K
set_option linter.unusedVariables false
abbrev Fd := List UInt8 × List UInt8
abbrev Dc := Int × List Fd
abbrev En := Dc × Int
abbrev RT.fd : RT Fd := RT.pair RT.str RT.str
abbrev RT.dc : RT Dc := RT.pair (RT.int .i64) (RT.fd.sl)
abbrev RT.en : RT En := RT.pair RT.dc (RT.int .i64)
theorem fd0 : Part RT.fd RT.str (fun p => p.1) 0 := Part.fst _ _
theorem fd1 : Part RT.fd RT.str (fun p => p.2) 1 := Part.snd _ _
theorem dc0 : Part RT.dc (RT.int .i64) (fun p => p.1) 0 := Part.fst _ _
theorem dc1 : Part RT.dc (RT.fd.sl) (fun p => p.2) 1 := Part.snd _ _
theorem en0 : Part RT.en RT.dc (fun p => p.1) 0 := Part.fst _ _
theorem en1 : Part RT.en (RT.int .i64) (fun p => p.2) 2 := Part.snd _ _
theorem dc_val {M : PSet} {w : World} {p : Dc} {v : Value} (h : RT.dc.V M w p v) : ∃ u, v = .agg #[.int .i64 p.1, u] := by
 obtain ⟨vs, ⟨va, vb, rfl, ⟨rfl, _⟩, hb⟩, rfl⟩ := h
 have := (RT.fd.sl (by decide)).len hb
 match vb, this with
 |[u], _ => exact ⟨u, rfl⟩
theorem en_mk {M : PSet} {w : World} {p : Dc} {u : Value} {s : Int} (h : RT.dc.V M w p (.agg #[.int .i64 p.1, u])) (hs : -9223372036854775808 ≤ s ∧ s ≤ 9223372036854775807) : RT.en.V M w (p, s) (.agg [.int .i64 p.1, u, .int .i64 s].toArray) := by
 obtain ⟨vs, h1, h2⟩ := h
 have h3 : vs = [.int .i64 p.1, u] := by
  have : Value.agg #[.int .i64 p.1, u] = .agg vs.toArray := h2
  injection this with this
  simpa using (congrArg Array.toList this).symm
 subst h3
 exact ⟨_, ⟨[.int .i64 p.1, u], [.int .i64 s], rfl, h1, rfl, hs.1, hs.2⟩, rfl⟩
theorem Own.nilOf {α : Type} (A : RT α) (e : TypeId) (base : Nat) {M : PSet} {w : World} (h : Lt M w) : Own A e M w base (.slice none 0 0) [] := Own.nil _ _ _ _ _
section
variable {P : Program} {r : Option Nat} {n : Nat} {L : Sl} {ds : List Deferred} {w : World} {K : Kt} {ops : Array Oper} {rest : List Oper} {d : Nat} {x : Operand} {ty : TypeId} {pos : String} {af : Array Edge}
theorem Rg.boxp {α : Type} {A : RT α} {e : TypeId} {v : Value} {a : α} {M : PSet} (hx : ev L x = some v) (hd : Nat.blt d n = true) (hM : Lt M w) (hv : A.V M w a v) (hg : A.agg = true)
  (k : ∀ u w', PtrTo A M w' u a → Step M w M w' none' → w.heap.size ≤ w'.heap.size → Rg P r n ops rest ((d, u) :: L) ds w' K) :
  Rg P r n ops ({ dst := some d, op := .box e x, type := ty, pos, after := af, guard := none } :: rest) L ds w K := by
 refine Rg.box M hx hd (fun b w' h1 h2 hb s => ?_)
 obtain ⟨vs, h3, h4⟩ := hv
 have hc : v.cells = vs.toArray := by subst h4; simp [RT.val, hg, Value.cells]
 rw [hc] at hb
 refine k _ w' ⟨b, 0, vs, rfl, fun hm => ?_, A.le s.back.le h3, fun j u hj => ?_⟩ s.back s.size
 ·have := hM b hm; omega
 ·rw [Nat.zero_add]; exact cell_at hb (by simpa using hj)
end
end Go.K
namespace Go.Proofs
open Go.Shelf
def Tryz.lays160_ren : Go.Shelf.Ren := ⟨fun | 160 => 193 | 232 => 227 | 231 => 226 | 227 => 228 | 234 => 230 | 233 => 229 | 236 => 232 | 235 => 231 | 228 => 257 | 271 => 260 | 151 => 259 | 197 => 258 | 120 => 280 | 152 => 279 | 260 => 278 | 137 => 287 | 119 => 277 | 224 => 288 | 225 => 289 | 217 => 291 | 266 => 292 | n => n, fun | 9 => 9 | 4 => 4 | 3 => 3 | 5 => 5 | 117 => 283 | 116 => 282 | 0 => 0 | 124 => 286 | 21 => 21 | 105 => 317 | 46 => 183 | 119 => 338 | 139 => 341 | 138 => 340 | n => n, fun | 3 => 2 | 4 => 3 | n => n⟩
theorem Tryz.lays160 : Go.Proofs.Lays.n160 Tryz.prog Tryz.lays160_ren := {
 mixed := by kernel_rfl
 f119 := Tryz.func277.trans (congrArg some (by kernel_rfl))
 f120 := Tryz.func280.trans (congrArg some (by kernel_rfl))
 f137 := Tryz.func287.trans (congrArg some (by kernel_rfl))
 f151 := Tryz.func259.trans (congrArg some (by kernel_rfl))
 f152 := Tryz.func279.trans (congrArg some (by kernel_rfl))
 f160 := Tryz.func193.trans (congrArg some (by kernel_rfl))
 f197 := Tryz.func258.trans (congrArg some (by kernel_rfl))
 f217 := Tryz.func291.trans (congrArg some (by kernel_rfl))
 f224 := Tryz.func288.trans (congrArg some (by kernel_rfl))
 f225 := Tryz.func289.trans (congrArg some (by kernel_rfl))
 f227 := Tryz.func228.trans (congrArg some (by kernel_rfl))
 f228 := Tryz.func257.trans (congrArg some (by kernel_rfl))
 f231 := Tryz.func226.trans (congrArg some (by kernel_rfl))
 f232 := Tryz.func227.trans (congrArg some (by kernel_rfl))
 f233 := Tryz.func229.trans (congrArg some (by kernel_rfl))
 f234 := Tryz.func230.trans (congrArg some (by kernel_rfl))
 f235 := Tryz.func231.trans (congrArg some (by kernel_rfl))
 f236 := Tryz.func232.trans (congrArg some (by kernel_rfl))
 f260 := Tryz.func278.trans (congrArg some (by kernel_rfl))
 f266 := Tryz.func292.trans (congrArg some (by kernel_rfl))
 f271 := Tryz.func260.trans (congrArg some (by kernel_rfl))
 t0 := Tryz.underlying0
 a0 := Tryz.isAgg0
 z0 := Tryz.sizeOf0
 v0 := Tryz.zeroValue0
 t3 := Tryz.underlying3
 a3 := Tryz.isAgg3
 z3 := Tryz.sizeOf3
 v3 := Tryz.zeroValue3
 t4 := Tryz.underlying4
 a4 := Tryz.isAgg4
 z4 := Tryz.sizeOf4
 v4 := Tryz.zeroValue4
 t5 := Tryz.underlying5
 a5 := Tryz.isAgg5
 z5 := Tryz.sizeOf5
 v5 := Tryz.zeroValue5
 t9 := Tryz.underlying9
 a9 := Tryz.isAgg9
 z9 := Tryz.sizeOf9
 v9 := Tryz.zeroValue9
 t21 := Tryz.underlying21
 a21 := Tryz.isAgg21
 z21 := Tryz.sizeOf21
 v21 := Tryz.zeroValue21
 t46 := Tryz.underlying183
 a46 := Tryz.isAgg183
 z46 := Tryz.sizeOf183
 v46 := Tryz.zeroValue183
 t105 := Tryz.underlying317
 a105 := Tryz.isAgg317
 z105 := Tryz.sizeOf317
 v105 := Tryz.zeroValue317
 t116 := Tryz.underlying282
 a116 := Tryz.isAgg282
 z116 := Tryz.sizeOf282
 t117 := Tryz.underlying283
 a117 := Tryz.isAgg283
 z117 := Tryz.sizeOf283
 v117 := Tryz.zeroValue283
 t119 := Tryz.underlying338
 a119 := Tryz.isAgg338
 z119 := Tryz.sizeOf338
 t124 := Tryz.underlying286
 a124 := Tryz.isAgg286
 z124 := Tryz.sizeOf286
 v124 := Tryz.zeroValue286
 t138 := Tryz.underlying340
 a138 := Tryz.isAgg340
 z138 := Tryz.sizeOf340
 v138 := Tryz.zeroValue340
 t139 := Tryz.underlying341
 a139 := Tryz.isAgg341
 z139 := Tryz.sizeOf341
 v139 := Tryz.zeroValue341
 g3 := by kernel_rfl
 g4 := by kernel_rfl }
end Go.Proofs
namespace Go.K
open Go.Proofs
set_option linter.unusedVariables false
set_option linter.unusedSimpArgs false
set_option maxRecDepth 10000
open Go.RowKit Go.Shelf
def small26 : List UInt8 := [97, 98, 99, 100, 101, 102, 103, 104, 105, 106, 107, 108, 109, 110, 111, 112, 113, 114, 115, 116, 117, 118, 119, 120, 121, 122]
def smallB (b : UInt8) : Bool := decide (97 ≤ b.toNat ∧ b.toNat ≤ 122)
def nameB (s : List UInt8) : Bool := decide (1 ≤ s.length ∧ s.length ≤ 12) && s.all smallB
theorem small_is (b : UInt8) : small26.contains b = smallB b := by
 have key : ∀ n : Fin 256, small26.contains (UInt8.ofNat n) = smallB (UInt8.ofNat n) := by decide
 have := key ⟨b.toNat, UInt8.toNat_lt b⟩
 simpa using this
theorem drop_nil {α : Type} (p : α → Bool) : ∀ l : List α, l.dropWhile p = [] ↔ ∀ x ∈ l, p x = true
 |[] => by simp
 |x :: l => by
  rw [List.dropWhile_cons]
  by_cases h : p x = true
  ·rw [if_pos h, drop_nil p l]; simp [h]
  ·rw [if_neg h]; simp [h]
theorem trim_nil (s : List UInt8) : Lib.trimS s small26 = [] ↔ s.all smallB = true := by
 have e : (fun b => small26.contains b) = smallB := funext small_is
 unfold Lib.trimS Lib.trimLeftS Lib.trimRightS
 rw [e, drop_nil, List.all_eq_true]
 constructor
 ·intro h
  have h2 : s.reverse.dropWhile smallB = [] := by
   cases hd : s.reverse.dropWhile smallB with
   |nil => rfl
   |cons x r =>
    have h3 := h x (by rw [hd]; simp)
    have h4 := List.head?_dropWhile_not smallB s.reverse
    rw [hd] at h4
    simp [h3] at h4
  intro x hx
  exact (drop_nil _ _).1 h2 x (List.mem_reverse.2 hx)
 ·intro h x hx
  rw [(drop_nil smallB s.reverse).2 (fun y hy => h y (List.mem_reverse.1 hy))] at hx
  cases hx
theorem trim_spec (s : List UInt8) (hs : s.length ≤ 140737488355328) (w : World) : Spec Tryz.prog 193 #[.string ⟨s.toArray⟩, .string ⟨small26.toArray⟩] w (fun v w' => v = .string ⟨(Lib.trimS s small26).toArray⟩ ∧ ∀ M, Step M w M w' none') :=
 (Any.strings_Trim_ascii Tryz.lays160 Tryz.zeroValue282 (by kernel_rfl) ⟨s.toArray⟩ ⟨small26.toArray⟩ w (by simp [ByteArray.size]; omega) (by decide) (fun j b hj => by
  have hm : b ∈ small26 := List.mem_of_getElem? hj
  have := small_is b
  rw [List.contains_iff_mem.2 hm] at this
  have h2 : 97 ≤ b.toNat ∧ b.toNat ≤ 122 := by simpa [smallB] using this.symm
  omega)).mono fun e w' ⟨h1, h2⟩ => ⟨_, h1, rfl, fun M => .below' h2 M⟩
theorem name_spec (s : List UInt8) (hs : s.length ≤ 140737488355328) (w0 : World) :
  Spec Tryz.prog 151 #[.string ⟨s.toArray⟩] w0 (fun v w => v = .bool (nameB s) ∧ ∀ M, Step M w0 M w none') := by
 refine spec_of (args := [_]) (fn := Tryz.f151) Tryz.func151 rfl (n := 15) Tryz.ntmps151 ?_
 refine T.seq ?_
 refine T.region ?_
 refine Rg.assign rfl rfl ?_
 refine Rg.nil ?_
 refine T.seq ?_
 refine T.region ?_
 refine Rg.move rfl rfl ?_
 refine Rg.strne (p := s) (q := []) rfl rfl rfl ?_
 refine Rg.move rfl rfl ?_
 refine Rg.gsplitp (g := 5) rfl (fun g1_2 => ?_) (fun g1_2 => ?_)
 ·refine Rg.gyes rfl rfl ?_
  refine Rg.move rfl rfl ?_
  refine Rg.gyes rfl rfl ?_
  refine Rg.lenstr Tryz.underlying9 rfl rfl ?_
  refine Rg.eqv (v' := .int .i64 (s.length : Int)) (by simp [ByteArray.size]) ?_
  refine Rg.gyes rfl rfl ?_
  refine Rg.ile rfl rfl rfl ?_
  refine Rg.pickt rfl rfl rfl ?_
  refine Rg.move rfl rfl ?_
  refine Rg.gsplitp (g := 10) rfl (fun g1_7 => ?_) (fun g1_7 => ?_)
  ·refine Rg.gyes rfl rfl ?_
   refine Rg.move rfl rfl ?_
   refine Rg.gyes rfl rfl ?_
   refine Rg.call rfl rfl E193 (trim_spec s hs _) (fun r w9 hc => ?_)
   obtain ⟨rfl, s9⟩ := hc
   refine Rg.gyes rfl rfl ?_
   refine Rg.streq (p := Lib.trimS s small26) (q := []) rfl rfl rfl ?_
   refine Rg.pickt rfl rfl rfl ?_
   refine Rg.assign rfl rfl ?_
   refine Rg.nil ?_
   refine T.ret ?_
   first
   |exact Kret1 rfl rfl ⟨by rw [nameB, decide_eq_true (p := 1 ≤ s.length ∧ s.length ≤ 12) ⟨List.length_pos_iff.2 g1_2, by omega⟩, Bool.true_and]; exact congrArg Value.bool (by rw [Bool.eq_iff_iff, decide_eq_true_eq]; exact trim_nil s), s9⟩
   |exact Kret1 rfl rfl ⟨by rw [nameB, decide_eq_false (p := 1 ≤ s.length ∧ s.length ≤ 12) (by omega), Bool.false_and], fun M => Step.refl _ _⟩
   |(have hs0 : s = [] := Classical.not_not.1 g1_2
     subst hs0
     exact Kret1 rfl rfl ⟨rfl, fun M => Step.refl _ _⟩)
  ·refine Rg.gno rfl rfl rfl rfl ?_
   refine Rg.gno rfl rfl rfl rfl ?_
   refine Rg.gno rfl rfl rfl rfl ?_
   refine Rg.pickf rfl rfl rfl ?_
   refine Rg.assign rfl rfl ?_
   refine Rg.nil ?_
   refine T.ret ?_
   first
   |exact Kret1 rfl rfl ⟨by rw [nameB, decide_eq_true (p := 1 ≤ s.length ∧ s.length ≤ 12) ⟨List.length_pos_iff.2 g1_2, by omega⟩, Bool.true_and]; exact congrArg Value.bool (by rw [Bool.eq_iff_iff, decide_eq_true_eq]; exact trim_nil s), s9⟩
   |exact Kret1 rfl rfl ⟨by rw [nameB, decide_eq_false (p := 1 ≤ s.length ∧ s.length ≤ 12) (by omega), Bool.false_and], fun M => Step.refl _ _⟩
   |(have hs0 : s = [] := Classical.not_not.1 g1_2
     subst hs0
     exact Kret1 rfl rfl ⟨rfl, fun M => Step.refl _ _⟩)
 ·refine Rg.gno rfl rfl rfl rfl ?_
  refine Rg.gno rfl rfl rfl rfl ?_
  refine Rg.gno rfl rfl rfl rfl ?_
  refine Rg.pickf rfl rfl rfl ?_
  refine Rg.move rfl rfl ?_
  refine Rg.gno rfl rfl rfl rfl ?_
  refine Rg.gno rfl rfl rfl rfl ?_
  refine Rg.gno rfl rfl rfl rfl ?_
  refine Rg.pickf rfl rfl rfl ?_
  refine Rg.assign rfl rfl ?_
  refine Rg.nil ?_
  refine T.ret ?_
  first
  |exact Kret1 rfl rfl ⟨by rw [nameB, decide_eq_true (p := 1 ≤ s.length ∧ s.length ≤ 12) ⟨List.length_pos_iff.2 g1_2, by omega⟩, Bool.true_and]; exact congrArg Value.bool (by rw [Bool.eq_iff_iff, decide_eq_true_eq]; exact trim_nil s), s9⟩
  |exact Kret1 rfl rfl ⟨by rw [nameB, decide_eq_false (p := 1 ≤ s.length ∧ s.length ≤ 12) (by omega), Bool.false_and], fun M => Step.refl _ _⟩
  |(have hs0 : s = [] := Classical.not_not.1 g1_2
    subst hs0
    exact Kret1 rfl rfl ⟨rfl, fun M => Step.refl _ _⟩)
theorem all_at {s : List UInt8} (h : ∀ (k : Nat) c, s[k]? = some c → smallB c = true) : s.all smallB = true := List.all_eq_true.2 fun c hc => by
 obtain ⟨k, hk⟩ := List.mem_iff_getElem?.1 hc
 exact h k c hk
theorem getD_at {s : List UInt8} {i : Nat} (h : i < s.length) : s[i]? = some (s.getD i 0) := by rw [List.getD_eq_getElem?_getD, List.getElem?_eq_getElem h]; rfl
theorem fd_val {M : PSet} {w : World} {p : Fd} {v : Value} (h : RT.fd.V M w p v) : v = .agg #[.string ⟨p.1.toArray⟩, .string ⟨p.2.toArray⟩] := by
 obtain ⟨vs, ⟨va, vb, rfl, ⟨rfl, _⟩, ⟨rfl, _⟩⟩, rfl⟩ := h
 rfl
theorem fd_len {M : PSet} {w : World} {p : Fd} {v : Value} (h : RT.fd.V M w p v) : p.1.length ≤ 140737488355328 ∧ p.2.length ≤ 140737488355328 := by
 obtain ⟨vs, ⟨va, vb, rfl, ⟨rfl, h1⟩, ⟨rfl, h2⟩⟩, _⟩ := h
 exact ⟨h1, h2⟩
def mayL : List Fd → List Fd → Nat → Int
 |_, [], n => if 500 < n then 7 else 0
 |seen, f :: fs, n => if nameB f.1 = false then 4 else if (seen.any fun g => decide (g.1 = f.1)) = true then 5 else if tokE 0 (words f.2) ≠ 0 then tokE 0 (words f.2) else mayL (seen ++ [f]) fs (n + (words f.2).length)
def mayD (d : Dc) : Int := if 8 < d.2.length then 7 else mayL [] d.2 0
theorem mayL_at {fs : List Fd} {i n : Nat} {x : Fd} (h : fs[i]? = some x) : mayL (fs.take i) (fs.drop i) n = if nameB x.1 = false then 4 else if ((fs.take i).any fun g => decide (g.1 = x.1)) = true then 5 else if tokE 0 (words x.2) ≠ 0 then tokE 0 (words x.2) else mayL (fs.take (i + 1)) (fs.drop (i + 1)) (n + (words x.2).length) := by
 have hlt := (List.getElem?_eq_some_iff.1 h).1
 rw [List.drop_eq_getElem_cons hlt, (List.getElem?_eq_some_iff.1 h).2, List.take_add_one, h]
 rfl
theorem mayL_end {fs : List Fd} {i n : Nat} (h : fs.length ≤ i) : mayL (fs.take i) (fs.drop i) n = if 500 < n then 7 else 0 := by
 rw [List.drop_of_length_le h]; rfl
theorem rname_spec (s : List UInt8) (hs : s.length ≤ 140737488355328) (w0 : World) :
  Spec Tryz.prog 116 #[.string ⟨s.toArray⟩] w0 (fun v w => v = .bool (nameB s) ∧ w = w0) := by
 refine spec_of (args := [_]) (fn := Tryz.f116) Tryz.func116 rfl (n := 28) Tryz.ntmps116 ?_
 refine T.seq ?_
 refine T.region ?_
 refine Rg.assign rfl rfl ?_
 refine Rg.nil ?_
 refine T.seq ?_
 refine T.seq ?_
 refine T.region ?_
 refine Rg.assign rfl rfl ?_
 refine Rg.nil ?_
 refine T.block ?_
 refine T.loop (σ := Nat) (fun i => [(0, .string ⟨s.toArray⟩), (3, .int .i64 (i : Int))]) (fun i w => w = w0 ∧ i ≤ s.length ∧ ∀ k c, k < i → s[k]? = some c → smallB c = true) (fun i => s.length - i) 0 (.cons rfl (.cons rfl .nil)) ?_ ?_
 ·exact ⟨rfl, Nat.zero_le _, fun k c h => absurd h (Nat.not_lt_zero k)⟩
 ·rintro i w ⟨rfl, hi, hok⟩
  refine T.seq ?_
  refine T.seq ?_
  refine T.region ?_
  refine Rg.move rfl rfl ?_
  refine Rg.move rfl rfl ?_
  refine Rg.lenstr Tryz.underlying9 rfl rfl ?_
  refine Rg.eqv (v' := .int .i64 (s.length : Int)) (by simp [ByteArray.size]) ?_
  refine Rg.ilt rfl rfl rfl ?_
  refine Rg.nil ?_
  refine T.ifp rfl (fun c2 => ?_) (fun c2 => ?_)
  ·refine T.skip ?_
   refine T.seq ?_
   refine T.block ?_
   refine T.seq ?_
   refine T.region ?_
   refine Rg.move rfl rfl ?_
   refine Rg.move rfl rfl ?_
   refine Rg.strAt (c := s.getD i 0) Tryz.underlying9 rfl rfl rfl (by omega) (by rw [Int.toNat_natCast]; exact getD_at (by omega)) ?_
   refine Rg.ilt rfl rfl rfl ?_
   refine Rg.move rfl rfl ?_
   refine Rg.gsplitp (g := 14) rfl (fun g4_4 => ?_) (fun g4_4 => ?_)
   ·refine Rg.gno rfl rfl rfl rfl ?_
    refine Rg.gno rfl rfl rfl rfl ?_
    refine Rg.gno rfl rfl rfl rfl ?_
    refine Rg.gno rfl rfl rfl rfl ?_
    refine Rg.pickt rfl rfl rfl ?_
    refine Rg.nil ?_
    refine T.ift rfl ?_
    refine T.seq ?_
    refine T.region ?_
    refine Rg.assign rfl rfl ?_
    refine Rg.nil ?_
    refine T.ret ?_
    have hx : s.all smallB = false := Bool.eq_false_iff.2 fun h => by
     have h2 := List.all_eq_true.1 h _ (List.mem_of_getElem? (getD_at (s := s) (i := i) (by omega)))
     simp only [smallB, decide_eq_true_eq] at h2
     omega
    exact Kret1 rfl rfl ⟨by rw [nameB, hx, Bool.and_false], rfl⟩
   ·refine Rg.gyes rfl rfl ?_
    refine Rg.move rfl rfl ?_
    refine Rg.gyes rfl rfl ?_
    refine Rg.move rfl rfl ?_
    refine Rg.gyes rfl rfl ?_
    refine Rg.strAt (c := s.getD i 0) Tryz.underlying9 rfl rfl rfl (by omega) (by rw [Int.toNat_natCast]; exact getD_at (by omega)) ?_
    refine Rg.gyes rfl rfl ?_
    refine Rg.igt rfl rfl rfl ?_
    refine Rg.pickf rfl rfl rfl ?_
    refine Rg.nil ?_
    refine T.ifp rfl (fun c4 => ?_) (fun c4 => ?_)
    ·refine T.seq ?_
     refine T.region ?_
     refine Rg.assign rfl rfl ?_
     refine Rg.nil ?_
     refine T.ret ?_
     have hx : s.all smallB = false := Bool.eq_false_iff.2 fun h => by
      have h2 := List.all_eq_true.1 h _ (List.mem_of_getElem? (getD_at (s := s) (i := i) (by omega)))
      simp only [smallB, decide_eq_true_eq] at h2
      omega
     exact Kret1 rfl rfl ⟨by rw [nameB, hx, Bool.and_false], rfl⟩
    ·refine T.skip ?_
     refine T.region ?_
     refine Rg.move rfl rfl ?_
     refine Rg.iadd rfl rfl rfl (by omega) ?_
     refine Rg.assign rfl rfl ?_
     refine Rg.nil ?_
     refine ⟨rfl, i + 1, (.cons rfl (.cons rfl .nil)), ?_, ?_⟩
     ·exact ⟨rfl, by omega, fun k c h hc => by
       rcases Nat.lt_or_ge k i with h2 | h2
       ·exact hok k c h2 hc
       ·obtain rfl : k = i := by omega
        rw [getD_at (by omega)] at hc; cases hc
        simp only [smallB, decide_eq_true_eq]; omega⟩
     ·omega
  ·refine T.exit ?_
   refine T.seq ?_
   refine T.region ?_
   refine Rg.move rfl rfl ?_
   refine Rg.lenstr Tryz.underlying9 rfl rfl ?_
   refine Rg.eqv (v' := .int .i64 (s.length : Int)) (by simp [ByteArray.size]) ?_
   refine Rg.ige rfl rfl rfl ?_
   refine Rg.move rfl rfl ?_
   refine Rg.gsplitp (g := 23) rfl (fun g6_3 => ?_) (fun g6_3 => ?_)
   ·refine Rg.gyes rfl rfl ?_
    refine Rg.move rfl rfl ?_
    refine Rg.gyes rfl rfl ?_
    refine Rg.lenstr Tryz.underlying9 rfl rfl ?_
    refine Rg.eqv (v' := .int .i64 (s.length : Int)) (by simp [ByteArray.size]) ?_
    refine Rg.gyes rfl rfl ?_
    refine Rg.ile rfl rfl rfl ?_
    refine Rg.pickt rfl rfl rfl ?_
    refine Rg.assign rfl rfl ?_
    refine Rg.nil ?_
    refine T.ret ?_
    have ha : s.all smallB = true := all_at fun k c hc => hok k c (by have := (List.getElem?_eq_some_iff.1 hc).1; omega) hc
    first
    |exact Kret1 rfl rfl ⟨by rw [nameB, ha, Bool.and_true]; exact congrArg Value.bool (decide_eq_decide.2 (by omega)), rfl⟩
    |exact Kret1 rfl rfl ⟨by rw [nameB, ha, Bool.and_true]; exact congrArg Value.bool (decide_eq_false (by omega)).symm, rfl⟩
   ·refine Rg.gno rfl rfl rfl rfl ?_
    refine Rg.gno rfl rfl rfl rfl ?_
    refine Rg.gno rfl rfl rfl rfl ?_
    refine Rg.pickf rfl rfl rfl ?_
    refine Rg.assign rfl rfl ?_
    refine Rg.nil ?_
    refine T.ret ?_
    have ha : s.all smallB = true := all_at fun k c hc => hok k c (by have := (List.getElem?_eq_some_iff.1 hc).1; omega) hc
    first
    |exact Kret1 rfl rfl ⟨by rw [nameB, ha, Bool.and_true]; exact congrArg Value.bool (decide_eq_decide.2 (by omega)), rfl⟩
    |exact Kret1 rfl rfl ⟨by rw [nameB, ha, Bool.and_true]; exact congrArg Value.bool (decide_eq_false (by omega)).symm, rfl⟩
theorem may1_spec {M : PSet} {o : Fd} {v0 : Value} (w0 : World) (hM : Lt M w0) (hv : RT.fd.V M w0 o v0) {nm : List UInt8} {t : Value} {bf : Nat} (g : w0.heap[bf]? = some (.cells #[.string ⟨nm.toArray⟩, t] 127 (0, 0))) (m_g : M bf) :
  Spec Tryz.prog 153 #[v0, .pointer (some ⟨bf, 0, none⟩)] w0 (fun v w => v = .bool (decide (o.1 = nm)) ∧ Step M w0 M w none') := by
 refine spec_of (args := [_, _]) (fn := Tryz.f153) Tryz.func153 rfl (n := 9) Tryz.ntmps153 ?_
 have S : Step M w0 M w0 none' := (Step.refl _ _).widen (fun _ h => h.elim) (fun _ h => h.elim)
 refine T.seq ?_
 refine T.region ?_
 refine Rg.boxp (A := RT.fd) rfl rfl hM hv rfl (fun u0 w1 hu0 s0 _ => ?_) --@step s0
 --@vf hu0*
 --@ptr RT.fd ;; o
 have := lt_of_get g
 replace m_g := (s0.mem _ this).2 m_g
 replace g := s0.same0 g
 replace hM := s0.lt hM
 have := S.size
 replace S := S.trans0 s0
 refine Rg.assign rfl rfl ?_
 refine Rg.nil ?_
 refine T.seq ?_
 refine T.region ?_
 refine Rg.fieldAddr (M := M) (A := RT.fd) (B := RT.str) Tryz.underlying127 rfl rfl I9 (by decide) (fd0) rfl rfl (by decide) (by assumption) (by repeat (first | exact Le.refl _ _ | refine Le.trans (Step.le (by assumption)) ?_)) (fun u1_0 hu1_0 => ?_)
 refine Rg.load (M := M) Tryz.underlying9 rfl rfl rfl rfl rfl hu1_0 (Le.refl _ _) (fun v1 hv1 => ?_)
 obtain rfl := V_strE hv1
 refine Rg.fieldc (o' := 0) Tryz.underlying127 rfl rfl I9 (by decide) rfl rfl ?_
 refine Rg.loadc Tryz.underlying9 rfl rfl rfl (by assumption) rfl ?_
 refine Rg.streq (p := o.1) (q := nm) rfl rfl rfl ?_
 refine Rg.assign rfl rfl ?_
 refine Rg.nil ?_
 refine T.ret ?_
 exact Kret1 rfl rfl ⟨rfl, S⟩
theorem mayix_spec {M : PSet} {fs : List Fd} {v0 : Value} (w0 : World) (hM : Lt M w0) (hv : (RT.fd.sl).V M w0 fs v0) {nm : List UInt8} {t : Value} {bf : Nat} (g : w0.heap[bf]? = some (.cells #[.string ⟨nm.toArray⟩, t] 127 (0, 0))) (m_g : M bf) :
  Spec Tryz.prog 194 #[v0, .func (.func 153) #[] #[.pointer (some ⟨bf, 0, none⟩)]] w0 (fun v w => (∃ k : Int, v = .int .i64 k ∧ (0 ≤ k ↔ (fs.any fun g => decide (g.1 = nm)) = true) ∧ -1 ≤ k ∧ k ≤ 9223372036854775807) ∧ Step M w0 M w none') := by
 have hfl := V_sl_len hv
 refine spec_of (args := [_, _]) (fn := Tryz.f194) Tryz.func194 rfl (n := 19) Tryz.ntmps194 ?_
 have S : Step M w0 M w0 none' := (Step.refl _ _).widen (fun _ h => h.elim) (fun _ h => h.elim)
 refine T.seq ?_
 refine T.region ?_
 refine Rg.assign rfl rfl ?_
 refine Rg.nil ?_
 refine T.seq ?_
 refine T.seq ?_
 refine T.region ?_
 refine Rg.move rfl rfl ?_
 refine Rg.lensl Tryz.underlying39 rfl hv rfl ?_
 refine Rg.move rfl rfl ?_
 refine Rg.nil ?_
 refine T.block ?_
 refine T.loop (σ := Nat) (fun i => [(0, v0), (1, .func (.func 153) #[] #[.pointer (some ⟨bf, 0, none⟩)]), (6, v0), (7, .int .i64 (fs.length : Int)), (8, .int .i64 (i : Int))]) (fun i w => Lt M w ∧ Step M w0 M w none' ∧ (w.heap[bf]? = some (.cells #[.string ⟨nm.toArray⟩, t] 127 (0, 0))) ∧ (RT.fd.sl).V M w fs v0 ∧ i ≤ fs.length ∧ ∀ k o, k < i → fs[k]? = some o → o.1 ≠ nm) (fun i => fs.length - i) 0 (.cons rfl (.cons rfl (.cons rfl (.cons rfl (.cons rfl .nil))))) ?_ ?_
 ·exact ⟨hM, S, g, hv, Nat.zero_le _, fun k c h => absurd h (Nat.not_lt_zero k)⟩
 ·rintro i w ⟨hM, S, g, hv, hi, hok⟩
  refine T.seq ?_
  refine T.region ?_
  refine Rg.ilt rfl rfl rfl ?_
  refine Rg.nil ?_
  refine T.seq ?_
  refine T.ifp rfl (fun c2 => ?_) (fun c2 => ?_)
  ·refine T.skip ?_
   refine T.seq ?_
   refine T.block ?_
   refine T.seq ?_
   refine T.region ?_
   refine Rg.move rfl rfl ?_
   refine Rg.assign rfl rfl ?_
   refine Rg.nil ?_
   refine T.seq ?_
   refine T.region ?_
   refine Rg.move rfl rfl ?_
   refine Rg.move rfl rfl ?_
   refine Rg.move rfl rfl ?_
   refine Rg.idx (M := M) Tryz.underlying39 I127 rfl rfl rfl hv (Le.refl _ _) (by omega) (fun u4 o hg4 hu4 => ?_) --@ptr RT.fd ;; o
   refine Rg.loadagg (M := M) (A := RT.fd) Tryz.underlying127 rfl I127 (by decide) rfl rfl rfl hu4 (Le.refl _ _) (fun v4 hv4 => ?_)
   rw [Int.toNat_natCast] at hg4
   refine Rg.callv (first := []) (captured := [.pointer (some ⟨bf, 0, none⟩)]) rfl rfl rfl E153 (may1_spec _ hM hv4 g m_g) (fun r5 w5 hc => ?_)
   obtain ⟨rfl, s5⟩ := hc --@step s5
   have := lt_of_get g
   replace m_g := (s5.mem _ this).2 m_g
   replace g := s5.same0 g
   replace hv := hv.le s5.le
   replace hM := s5.lt hM
   have := S.size
   replace S := S.trans0 s5
   refine Rg.nil ?_
   refine T.ifp rfl (fun c4 => ?_) (fun c4 => ?_)
   ·refine T.seq ?_
    refine T.region ?_
    refine Rg.move rfl rfl ?_
    refine Rg.assign rfl rfl ?_
    refine Rg.nil ?_
    refine T.ret ?_
    exact Kret1 rfl rfl ⟨⟨_, rfl, ⟨fun _ => List.any_eq_true.2 ⟨o, List.mem_of_getElem? hg4, by simpa using (by assumption)⟩, fun _ => by omega⟩, by omega, by omega⟩, S.back⟩
   ·refine T.skip ?_
    refine T.region ?_
    refine Rg.iadd rfl rfl rfl (by omega) ?_
    refine Rg.move rfl rfl ?_
    refine Rg.nil ?_
    refine ⟨rfl, i + 1, (.cons rfl (.cons rfl (.cons rfl (.cons rfl (.cons rfl .nil))))), ?_, ?_⟩
    ·exact ⟨hM, S, g, hv, by omega, fun k o' h hc => by
      rcases Nat.lt_or_ge k i with h2 | h2
      ·exact hok k o' h2 hc
      ·obtain rfl : k = i := by omega
       rw [hg4] at hc; cases hc; assumption⟩
    ·omega
  ·refine T.exit ?_
   refine T.seq ?_
   refine T.region ?_
   refine Rg.assign rfl rfl ?_
   refine Rg.nil ?_
   refine T.ret ?_
   exact Kret1 rfl rfl ⟨⟨-1, rfl, ⟨fun h => by omega, fun h => by
    obtain ⟨o, ho, he⟩ := List.any_eq_true.1 h
    obtain ⟨k, hk⟩ := List.mem_iff_getElem?.1 ho
    exact absurd (by simpa using he) (hok k o (by have := (List.getElem?_eq_some_iff.1 hk).1; omega) hk)⟩, by omega, by omega⟩, S.back⟩
theorem mayhas_spec {M : PSet} {fs : List Fd} {v0 : Value} (w0 : World) (hM : Lt M w0) (hv : (RT.fd.sl).V M w0 fs v0) {nm : List UInt8} {t : Value} {bf : Nat} (g : w0.heap[bf]? = some (.cells #[.string ⟨nm.toArray⟩, t] 127 (0, 0))) (m_g : M bf) :
  Spec Tryz.prog 152 #[v0, .func (.func 153) #[] #[.pointer (some ⟨bf, 0, none⟩)]] w0 (fun v w => v = .bool (fs.any fun g => decide (g.1 = nm)) ∧ Step M w0 M w none') := by
 refine spec_of (args := [_, _]) (fn := Tryz.f152) Tryz.func152 rfl (n := 9) Tryz.ntmps152 ?_
 have S : Step M w0 M w0 none' := (Step.refl _ _).widen (fun _ h => h.elim) (fun _ h => h.elim)
 refine T.seq ?_
 refine T.region ?_
 refine Rg.assign rfl rfl ?_
 refine Rg.nil ?_
 refine T.seq ?_
 refine T.region ?_
 refine Rg.move rfl rfl ?_
 refine Rg.move rfl rfl ?_
 refine Rg.call rfl rfl E194 (mayix_spec _ hM hv g m_g) (fun r1 w1 hc => ?_)
 obtain ⟨⟨k, rfl, hk, _⟩, s1⟩ := hc --@step s1
 have := lt_of_get g
 replace m_g := (s1.mem _ this).2 m_g
 replace g := s1.same0 g
 replace hv := hv.le s1.le
 replace hM := s1.lt hM
 have := S.size
 replace S := S.trans0 s1
 refine Rg.ige rfl rfl rfl ?_
 refine Rg.assign rfl rfl ?_
 refine Rg.nil ?_
 refine T.ret ?_
 exact Kret1 rfl rfl ⟨congrArg Value.bool (by rw [Bool.eq_iff_iff, decide_eq_true_eq]; exact hk), S⟩
theorem may_spec {M : PSet} {d : Dc} {v0 : Value} (w0 : World) (hM : Lt M w0) (hv : RT.dc.V M w0 d v0) (hl : ∀ f ∈ d.2, f.1.length ≤ 900000 ∧ f.2.length ≤ 900000) :
  Spec Tryz.prog 107 #[v0] w0 (fun v w => v = .int .i64 (mayD d) ∧ Step M w0 M w none') := by
 have hM0 := hM
 refine spec_of (args := [_]) (fn := Tryz.f107) Tryz.func107 rfl (n := 49) Tryz.ntmps107 ?_
 have S : Step M w0 M w0 none' := (Step.refl _ _).widen (fun _ h => h.elim) (fun _ h => h.elim)
 refine T.seq ?_
 refine T.region ?_
 refine Rg.boxp (A := RT.dc) rfl rfl hM hv rfl (fun u0 w1 hu0 s0 _ => ?_) --@step s0
 --@vf hu0*
 --@ptr RT.dc ;; d
 replace hM := s0.lt hM
 have := S.size
 replace S := S.trans0 s0
 refine Rg.assign rfl rfl ?_
 refine Rg.nil ?_
 refine T.seq ?_
 refine T.seq ?_
 refine T.region ?_
 refine Rg.fieldAddr (M := M) (A := RT.dc) (B := (RT.fd).sl) Tryz.underlying41 rfl rfl I39 (by decide) (dc1) rfl rfl (by decide) (by assumption) (by repeat (first | exact Le.refl _ _ | refine Le.trans (Step.le (by assumption)) ?_)) (fun u1_0 hu1_0 => ?_)
 refine Rg.load (M := M) Tryz.underlying39 rfl rfl rfl rfl rfl (by assumption) (by repeat (first | exact Le.refl _ _ | refine Le.trans (Step.le (by assumption)) ?_)) (fun v1_1 hv1_1 => ?_)
 refine Rg.lensl Tryz.underlying39 rfl hv1_1 rfl ?_
 refine Rg.igt rfl rfl rfl ?_
 refine Rg.nil ?_
 refine T.ifp rfl (fun c1 => ?_) (fun c1 => ?_)
 ·refine T.seq ?_
  refine T.region ?_
  refine Rg.assign rfl rfl ?_
  refine Rg.nil ?_
  refine T.ret ?_
  exact Kret1 rfl rfl ⟨by rw [mayD, if_pos (by omega)], S.back⟩
 ·refine T.skip ?_
  refine T.seq ?_
  refine T.region ?_
  refine Rg.assign rfl rfl ?_
  refine Rg.nil ?_
  refine T.seq ?_
  refine T.seq ?_
  refine T.region ?_
  refine Rg.fieldAddr (M := M) (A := RT.dc) (B := (RT.fd).sl) Tryz.underlying41 rfl rfl I39 (by decide) (dc1) rfl rfl (by decide) (by assumption) (by repeat (first | exact Le.refl _ _ | refine Le.trans (Step.le (by assumption)) ?_)) (fun u4_0 hu4_0 => ?_)
  refine Rg.load (M := M) Tryz.underlying39 rfl rfl rfl rfl rfl (by assumption) (by repeat (first | exact Le.refl _ _ | refine Le.trans (Step.le (by assumption)) ?_)) (fun v4_1 hv4_1 => ?_)
  refine Rg.lensl Tryz.underlying39 rfl hv4_1 rfl ?_
  refine Rg.move rfl rfl ?_
  refine Rg.nil ?_
  refine T.block ?_
  refine T.loop (σ := Nat × Nat) (fun q => [(1, u0), (3, .int .i64 (q.2 : Int)), (13, v4_1), (14, .int .i64 (d.2.length : Int)), (15, .int .i64 (q.1 : Int))]) (fun q w => ∃ M', Lt M' w ∧ Step M w0 M' w none' ∧ PtrTo RT.dc M' w u0 d ∧ (RT.fd.sl).V M' w d.2 v4_1 ∧ mayD d = mayL (d.2.take q.1) (d.2.drop q.1) q.2 ∧ q.1 ≤ d.2.length ∧ q.2 ≤ 900001 * q.1) (fun q => d.2.length - q.1) (0, 0) (.cons rfl (.cons rfl (.cons rfl (.cons rfl (.cons rfl .nil))))) ?_ ?_
  ·exact ⟨M, hM, S, hu0, hv4_1, by rw [mayD, if_neg (by omega)]; rfl, Nat.zero_le _, Nat.le_refl _⟩
  ·rintro ⟨i, n⟩ w ⟨M1, hM, S, hu0, hvs, hmd, hi, hn⟩
   dsimp only at hmd hi hn ⊢
   refine T.seq ?_
   refine T.region ?_
   refine Rg.ilt rfl rfl rfl ?_
   refine Rg.nil ?_
   refine T.seq ?_
   refine T.ifp rfl (fun c5 => ?_) (fun c5 => ?_)
   ·refine T.skip ?_
    refine T.seq ?_
    refine T.block ?_
    refine T.seq ?_
    refine T.region ?_
    refine Rg.move rfl rfl ?_
    refine Rg.idx (M := M1) Tryz.underlying39 I127 rfl rfl rfl hvs (Le.refl _ _) (by omega) (fun u6 x hg6 hu6 => ?_) --@ptr RT.fd ;; x
    refine Rg.loadagg (M := M1) (A := RT.fd) Tryz.underlying127 rfl I127 (by decide) rfl rfl rfl hu6 (Le.refl _ _) (fun v6 hv6 => ?_)
    rw [Int.toNat_natCast] at hg6
    obtain rfl := fd_val hv6
    have hst := mayL_at (n := n) hg6
    have hxl := hl _ (List.mem_of_getElem? hg6)
    refine Rg.alloc M1 I127 rfl (fun b6_3 w6_3 p6_3 q6_3 g6_3 s6_3 => ?_)
    obtain ⟨M_6_3, eM_6_3⟩ : ∃ M', M' = ins M1 b6_3 := ⟨_, rfl⟩
    rw [← eM_6_3] at s6_3
    have m_g6_3 : M_6_3 b6_3 := by rw [eM_6_3]; exact .inl rfl
    change w6_3.heap[b6_3]? = some (.cells #[.string ⟨#[]⟩, .string ⟨#[]⟩] _ _) at g6_3
    replace hu0 := hu0.le (by decide) s6_3.le
    replace hvs := hvs.le s6_3.le
    replace hM := s6_3.lt hM
    have := S.size
    replace S := S.trans0 s6_3
    refine Rg.assign rfl rfl ?_
    refine Rg.storeaggc (M := M_6_3) (vs := [.string ⟨x.1.toArray⟩, .string ⟨x.2.toArray⟩]) I127 rfl rfl (by intro u hu; simp at hu; rcases hu with rfl | rfl <;> rfl) rfl rfl g6_3 m_g6_3 (fun w6 g6 s6 => ?_) --@wrote s6 g6_3 g6
    have := lt_of_get g6_3
    replace m_g6_3 := (s6.mem _ this).2 m_g6_3
    replace hu0 := hu0.le (by decide) s6.le
    replace hvs := hvs.le s6.le
    replace hM := s6.lt hM
    have := S.size
    replace S := S.trans s6 (fun k hk h => by have h : _ = _ := h; subst h; first | (exfalso; omega) | (show _ ≤ _; omega) | exact ⟨by omega, (S.mem _ hk).1 ((s6.mem _ (lt_of_get g6_3)).1 m_g6_3)⟩ | exact .inl rfl | exact .inr rfl | exact .inr (.inl rfl) | exact .inr (.inr rfl) | exact rfl)
    have g6_3_ := g6
    clear g6_3
    have g6_3 := g6_3_
    clear g6_3_
    refine Rg.nil ?_
    refine T.seq ?_
    refine T.region ?_
    refine Rg.fieldc (o' := 1) Tryz.underlying127 rfl rfl I9 (by decide) rfl rfl ?_
    refine Rg.loadc Tryz.underlying9 rfl rfl rfl (by assumption) rfl ?_
    refine Rg.call rfl rfl E150 (toks_spec _ hM hxl.2) (fun r7 w7 hc => ?_)
    obtain ⟨⟨u7, rfl, hu7⟩, s7⟩ := hc --@step s7
    have := lt_of_get g6_3
    replace m_g6_3 := (s7.mem _ this).2 m_g6_3
    replace g6_3 := s7.same0 g6_3
    replace hu0 := hu0.le (by decide) s7.le
    replace hvs := hvs.le s7.le
    replace hM := s7.lt hM
    have := S.size
    replace S := S.trans0 s7
    refine Rg.move rfl rfl ?_
    refine Rg.extract rfl rfl rfl ?_
    refine Rg.extract rfl rfl rfl ?_
    refine Rg.assign rfl rfl ?_
    refine Rg.assign rfl rfl ?_
    refine Rg.nil ?_
    refine T.seq ?_
    refine T.block ?_
    refine T.seq ?_
    refine T.region ?_
    refine Rg.fieldc (o' := 0) Tryz.underlying127 rfl rfl I9 (by decide) rfl rfl ?_
    refine Rg.loadc Tryz.underlying9 rfl rfl rfl (by assumption) rfl ?_
    refine Rg.call rfl rfl E151 (name_spec x.1 (by omega) _) (fun r8 w8 hc => ?_)
    obtain ⟨rfl, s8_⟩ := hc
    have s8 := s8_ M_6_3 --@step s8
    have := lt_of_get g6_3
    replace m_g6_3 := (s8.mem _ this).2 m_g6_3
    replace g6_3 := s8.same0 g6_3
    replace hu0 := hu0.le (by decide) s8.le
    replace hvs := hvs.le s8.le
    replace hM := s8.lt hM
    have := S.size
    replace S := S.trans0 s8
    refine Rg.not rfl rfl ?_
    refine Rg.eqv (v' := .bool (decide (nameB x.1 = false))) (by cases nameB x.1 <;> rfl) ?_
    refine Rg.assign rfl rfl ?_
    refine Rg.nil ?_
    refine T.ifp rfl (fun c8 => ?_) (fun c8 => ?_)
    ·refine T.seq ?_
     refine T.region ?_
     refine Rg.assign rfl rfl ?_
     refine Rg.nil ?_
     refine T.ret ?_
     exact Kret1 rfl rfl ⟨by rw [hmd, hst, if_pos (by assumption)], S.back⟩
    ·refine T.seq ?_
     refine T.region ?_
     refine Rg.fieldAddr (M := M_6_3) (A := RT.dc) (B := (RT.fd).sl) Tryz.underlying41 rfl rfl I39 (by decide) (dc1) rfl rfl (by decide) (by assumption) (by repeat (first | exact Le.refl _ _ | refine Le.trans (Step.le (by assumption)) ?_)) (fun u10_0 hu10_0 => ?_)
     refine Rg.load (M := M_6_3) Tryz.underlying39 rfl rfl rfl rfl rfl (by assumption) (by repeat (first | exact Le.refl _ _ | refine Le.trans (Step.le (by assumption)) ?_)) (fun v10_1 hv10_1 => ?_)
     refine Rg.move rfl rfl ?_
     refine Rg.slice_h Tryz.underlying39 I127 rfl rfl rfl hv10_1 (by omega) (fun u10 hu10 => ?_)
     rw [Int.toNat_natCast] at hu10
     refine Rg.makeFunc (xs := []) (ys := [.tmp 5]) rfl rfl rfl ?_
     refine Rg.call rfl rfl E152 (mayhas_spec _ hM hu10 g6_3 m_g6_3) (fun r10 w10 hc => ?_)
     obtain ⟨rfl, s10⟩ := hc --@step s10
     have := lt_of_get g6_3
     replace m_g6_3 := (s10.mem _ this).2 m_g6_3
     replace g6_3 := s10.same0 g6_3
     replace hu0 := hu0.le (by decide) s10.le
     replace hvs := hvs.le s10.le
     replace hM := s10.lt hM
     have := S.size
     replace S := S.trans0 s10
     refine Rg.assign rfl rfl ?_
     refine Rg.eqv (v' := .bool (decide (((d.2.take i).any fun g => decide (g.1 = x.1)) = true))) (by cases ((d.2.take i).any fun g => decide (g.1 = x.1)) <;> rfl) ?_
     refine Rg.nil ?_
     refine T.ifp rfl (fun c10 => ?_) (fun c10 => ?_)
     ·refine T.seq ?_
      refine T.region ?_
      refine Rg.assign rfl rfl ?_
      refine Rg.nil ?_
      refine T.ret ?_
      exact Kret1 rfl rfl ⟨by rw [hmd, hst, if_neg (by assumption), if_pos (by assumption)], S.back⟩
     ·refine T.seq ?_
      refine T.region ?_
      refine Rg.move rfl rfl ?_
      refine Rg.ine rfl rfl rfl ?_
      refine Rg.assign rfl rfl ?_
      refine Rg.nil ?_
      refine T.ifp rfl (fun c12 => ?_) (fun c12 => ?_)
      ·refine T.seq ?_
       refine T.region ?_
       refine Rg.move rfl rfl ?_
       refine Rg.assign rfl rfl ?_
       refine Rg.nil ?_
       refine T.ret ?_
       exact Kret1 rfl rfl ⟨by rw [hmd, hst, if_neg (by assumption), if_neg (by assumption), if_pos (by assumption)]; rfl, S.back⟩
      ·refine T.skip ?_
       refine T.region ?_
       refine Rg.move rfl rfl ?_
       have htk : tokE 0 (words x.2) = 0 := Classical.not_not.1 c12
       obtain ⟨a, cap, rfl⟩ := hu7 htk
       have hwl := words_len x.2
       refine Rg.move rfl rfl ?_
       refine Rg.lenraw Tryz.underlying222 rfl rfl ?_
       refine Rg.iadd rfl rfl rfl (by omega) ?_
       refine Rg.assign rfl rfl ?_
       refine Rg.nil ?_
       refine T.region ?_
       refine Rg.iadd rfl rfl rfl (by omega) ?_
       refine Rg.move rfl rfl ?_
       refine Rg.nil ?_
       refine ⟨rfl, (i + 1, n + (words x.2).length), (.cons rfl (.cons rfl (.cons rfl (.cons rfl (.cons rfl .nil))))), ?_, ?_⟩
       ·exact ⟨_, hM, S, hu0, hvs, by rw [hmd, hst, if_neg (by assumption), if_neg (by assumption), if_neg c12], by dsimp only; omega, by dsimp only; omega⟩
       ·dsimp only; omega
   ·refine T.exit ?_
    refine T.seq ?_
    refine T.seq ?_
    refine T.region ?_
    refine Rg.move rfl rfl ?_
    refine Rg.igt rfl rfl rfl ?_
    refine Rg.nil ?_
    refine T.ifp rfl (fun c16 => ?_) (fun c16 => ?_)
    ·refine T.seq ?_
     refine T.region ?_
     refine Rg.assign rfl rfl ?_
     refine Rg.nil ?_
     refine T.ret ?_
     exact Kret1 rfl rfl ⟨by rw [hmd, mayL_end (by omega), if_pos (by omega)], S.back⟩
    ·refine T.skip ?_
     refine T.seq ?_
     refine T.region ?_
     refine Rg.assign rfl rfl ?_
     refine Rg.nil ?_
     refine T.ret ?_
     exact Kret1 rfl rfl ⟨by rw [hmd, mayL_end (by omega), if_neg (by omega)], S.back⟩
end Go.K
namespace Go.K
open Go.Proofs
set_option linter.unusedVariables false
set_option linter.unusedSimpArgs false
set_option maxRecDepth 10000
theorem rmay_spec {M : PSet} {d : Dc} {v0 : Value} (w0 : World) (hM : Lt M w0) (hv : RT.dc.V M w0 d v0) (hl : ∀ f ∈ d.2, f.1.length ≤ 900000 ∧ f.2.length ≤ 900000) :
  Spec Tryz.prog 117 #[v0] w0 (fun v w => v = .int .i64 (mayD d) ∧ Step M w0 M w none') := by
 have hM0 := hM
 refine spec_of (args := [_]) (fn := Tryz.f117) Tryz.func117 rfl (n := 66) Tryz.ntmps117 ?_
 have S : Step M w0 M w0 none' := (Step.refl _ _).widen (fun _ h => h.elim) (fun _ h => h.elim)
 refine T.seq ?_
 refine T.region ?_
 refine Rg.boxp (A := RT.dc) rfl rfl hM hv rfl (fun u0 w1 hu0 s0 _ => ?_) --@step s0
 --@vf hu0*
 --@ptr RT.dc ;; d
 replace hM := s0.lt hM
 have := S.size
 replace S := S.trans0 s0
 refine Rg.assign rfl rfl ?_
 refine Rg.nil ?_
 refine T.seq ?_
 refine T.seq ?_
 refine T.region ?_
 refine Rg.fieldAddr (M := M) (A := RT.dc) (B := (RT.fd).sl) Tryz.underlying41 rfl rfl I39 (by decide) (dc1) rfl rfl (by decide) (by assumption) (by repeat (first | exact Le.refl _ _ | refine Le.trans (Step.le (by assumption)) ?_)) (fun u1_0 hu1_0 => ?_)
 refine Rg.load (M := M) Tryz.underlying39 rfl rfl rfl rfl rfl (by assumption) (by repeat (first | exact Le.refl _ _ | refine Le.trans (Step.le (by assumption)) ?_)) (fun v1_1 hv1_1 => ?_)
 refine Rg.lensl Tryz.underlying39 rfl hv1_1 rfl ?_
 refine Rg.igt rfl rfl rfl ?_
 refine Rg.nil ?_
 refine T.ifp rfl (fun c1 => ?_) (fun c1 => ?_)
 ·refine T.seq ?_
  refine T.region ?_
  refine Rg.assign rfl rfl ?_
  refine Rg.nil ?_
  refine T.ret ?_
  exact Kret1 rfl rfl ⟨by rw [mayD, if_pos (by omega)], S.back⟩
 ·refine T.skip ?_
  refine T.seq ?_
  refine T.region ?_
  refine Rg.assign rfl rfl ?_
  refine Rg.nil ?_
  refine T.seq ?_
  refine T.seq ?_
  refine T.region ?_
  refine Rg.assign rfl rfl ?_
  refine Rg.nil ?_
  refine T.block ?_
  refine T.loop (σ := Nat × Nat) (fun q => [(1, u0), (3, .int .i64 (q.2 : Int)), (4, .int .i64 (q.1 : Int))]) (fun q w => Lt M w ∧ Step M w0 M w none' ∧ PtrTo RT.dc M w u0 d ∧ mayD d = mayL (d.2.take q.1) (d.2.drop q.1) q.2 ∧ q.1 ≤ d.2.length ∧ q.2 ≤ 900001 * q.1 ∧ d.2.length ≤ 8) (fun q => d.2.length - q.1) (0, 0) (.cons rfl (.cons rfl (.cons rfl .nil))) ?_ ?_
  ·exact ⟨hM, S, hu0, by rw [mayD, if_neg (by omega)]; rfl, Nat.zero_le _, Nat.le_refl _, by omega⟩
  ·rintro ⟨i, n⟩ w ⟨hM, S, hu0, hmd, hi, hn, hd8⟩
   dsimp only at hmd hi hn ⊢
   refine T.seq ?_
   refine T.seq ?_
   refine T.region ?_
   refine Rg.move rfl rfl ?_
   refine Rg.fieldAddr (M := M) (A := RT.dc) (B := (RT.fd).sl) Tryz.underlying41 rfl rfl I39 (by decide) (dc1) rfl rfl (by decide) (by assumption) (by repeat (first | exact Le.refl _ _ | refine Le.trans (Step.le (by assumption)) ?_)) (fun u5_1 hu5_1 => ?_)
   refine Rg.load (M := M) Tryz.underlying39 rfl rfl rfl rfl rfl (by assumption) (by repeat (first | exact Le.refl _ _ | refine Le.trans (Step.le (by assumption)) ?_)) (fun v5_2 hv5_2 => ?_)
   refine Rg.lensl Tryz.underlying39 rfl hv5_2 rfl ?_
   refine Rg.ilt rfl rfl rfl ?_
   refine Rg.nil ?_
   refine T.ifp rfl (fun c5 => ?_) (fun c5 => ?_)
   ·refine T.skip ?_
    refine T.seq ?_
    refine T.block ?_
    refine T.seq ?_
    refine T.region ?_
    refine Rg.fieldAddr (M := M) (A := RT.dc) (B := (RT.fd).sl) Tryz.underlying41 rfl rfl I39 (by decide) (dc1) rfl rfl (by decide) (by assumption) (by repeat (first | exact Le.refl _ _ | refine Le.trans (Step.le (by assumption)) ?_)) (fun u7_0 hu7_0 => ?_)
    refine Rg.load (M := M) Tryz.underlying39 rfl rfl rfl rfl rfl (by assumption) (by repeat (first | exact Le.refl _ _ | refine Le.trans (Step.le (by assumption)) ?_)) (fun v7_1 hv7_1 => ?_)
    refine Rg.move rfl rfl ?_
    refine Rg.idx (M := M) Tryz.underlying39 I127 rfl rfl rfl hv7_1 (Le.refl _ _) (by omega) (fun u7_3 x hg7_3 hu7_3 => ?_)
    rw [Int.toNat_natCast] at hg7_3 --@ptr RT.fd ;; x
    refine Rg.fieldAddr (M := M) (A := RT.fd) (B := RT.str) Tryz.underlying127 rfl rfl I9 (by decide) (fd0) rfl rfl (by decide) (by assumption) (by repeat (first | exact Le.refl _ _ | refine Le.trans (Step.le (by assumption)) ?_)) (fun u7_4 hu7_4 => ?_)
    refine Rg.load (M := M) Tryz.underlying9 rfl rfl rfl rfl rfl hu7_4 (Le.refl _ _) (fun v7_5 hv7_5 => ?_)
    obtain rfl := V_strE hv7_5
    have hst := mayL_at (n := n) hg7_3
    have hxl := hl _ (List.mem_of_getElem? hg7_3)
    refine Rg.call rfl rfl E116 (rname_spec x.1 (by omega) _) (fun r7 w7 hc => ?_)
    obtain ⟨rfl, rfl⟩ := hc
    refine Rg.assign rfl rfl ?_
    refine Rg.nil ?_
    refine T.seq ?_
    refine T.seq ?_
    refine T.region ?_
    refine Rg.move rfl rfl ?_
    refine Rg.not rfl rfl ?_
    refine Rg.eqv (v' := .bool (decide (nameB x.1 = false))) (by cases nameB x.1 <;> rfl) ?_
    refine Rg.nil ?_
    refine T.ifp rfl (fun c8 => ?_) (fun c8 => ?_)
    ·refine T.seq ?_
     refine T.region ?_
     refine Rg.assign rfl rfl ?_
     refine Rg.nil ?_
     refine T.ret ?_
     exact Kret1 rfl rfl ⟨by rw [hmd, hst, if_pos (by assumption)], S.back⟩
    ·refine T.skip ?_
     refine T.seq ?_
     refine T.seq ?_
     refine T.region ?_
     refine Rg.assign rfl rfl ?_
     refine Rg.nil ?_
     refine T.block ?_
     refine T.loop (σ := Nat) (fun j => [(1, u0), (3, .int .i64 (n : Int)), (4, .int .i64 (i : Int)), (6, .int .i64 (j : Int))]) (fun j w => Lt M w ∧ Step M w0 M w none' ∧ PtrTo RT.dc M w u0 d ∧ j ≤ i ∧ ∀ k y, k < j → d.2[k]? = some y → y.1 ≠ x.1) (fun j => i - j) 0 (.cons rfl (.cons rfl (.cons rfl (.cons rfl .nil)))) ?_ ?_
     ·exact ⟨hM, S, hu0, Nat.zero_le _, fun k c h => absurd h (Nat.not_lt_zero k)⟩
     ·rintro j w ⟨hM, S, hu0, hj, hno⟩
      refine T.seq ?_
      refine T.seq ?_
      refine T.region ?_
      refine Rg.move rfl rfl ?_
      refine Rg.move rfl rfl ?_
      refine Rg.ilt rfl rfl rfl ?_
      refine Rg.nil ?_
      refine T.ifp rfl (fun c11 => ?_) (fun c11 => ?_)
      ·refine T.skip ?_
       refine T.seq ?_
       refine T.block ?_
       refine T.seq ?_
       apply T.drawQ0 mixed rfl rfl
       intro wD13 sA13
       have sD13 := sA13 M
       replace hu0 := hu0.le (by decide) sD13.le
       replace hM := sD13.lt hM
       have := S.size
       replace S := S.trans0 sD13
       refine Rg.fieldAddr (M := M) (A := RT.dc) (B := (RT.fd).sl) Tryz.underlying41 rfl rfl I39 (by decide) (dc1) rfl rfl (by decide) (by assumption) (by repeat (first | exact Le.refl _ _ | refine Le.trans (Step.le (by assumption)) ?_)) (fun u13_0 hu13_0 => ?_)
       refine Rg.nil ⟨rfl, rfl, rfl, ?_⟩
       refine Rg.load (M := M) Tryz.underlying39 rfl rfl rfl rfl rfl (by assumption) (by repeat (first | exact Le.refl _ _ | refine Le.trans (Step.le (by assumption)) ?_)) (fun v13_1 hv13_1 => ?_)
       refine Rg.nil ⟨rfl, rfl, rfl, ?_⟩
       refine Rg.move rfl rfl ?_
       refine Rg.nil ⟨rfl, rfl, rfl, ?_⟩
       refine Rg.idx (M := M) Tryz.underlying39 I127 rfl rfl rfl hv13_1 (Le.refl _ _) (by omega) (fun u13_3 y hg13_3 hu13_3 => ?_)
       rw [Int.toNat_natCast] at hg13_3 --@ptr RT.fd ;; y
       refine Rg.nil ⟨rfl, rfl, rfl, ?_⟩
       refine Rg.fieldAddr (M := M) (A := RT.fd) (B := RT.str) Tryz.underlying127 rfl rfl I9 (by decide) (fd0) rfl rfl (by decide) (by assumption) (by repeat (first | exact Le.refl _ _ | refine Le.trans (Step.le (by assumption)) ?_)) (fun u13_4 hu13_4 => ?_)
       refine Rg.nil ⟨rfl, rfl, rfl, ?_⟩
       refine Rg.load (M := M) Tryz.underlying9 rfl rfl rfl rfl rfl hu13_4 (Le.refl _ _) (fun v13_5 hv13_5 => ?_)
       obtain rfl := V_strE hv13_5
       refine Rg.nil ⟨rfl, rfl, rfl, ?_⟩
       refine Rg.fieldAddr (M := M) (A := RT.dc) (B := (RT.fd).sl) Tryz.underlying41 rfl rfl I39 (by decide) (dc1) rfl rfl (by decide) (by assumption) (by repeat (first | exact Le.refl _ _ | refine Le.trans (Step.le (by assumption)) ?_)) (fun u13_6 hu13_6 => ?_)
       refine Rg.nil ⟨rfl, rfl, rfl, ?_⟩
       refine Rg.load (M := M) Tryz.underlying39 rfl rfl rfl rfl rfl (by assumption) (by repeat (first | exact Le.refl _ _ | refine Le.trans (Step.le (by assumption)) ?_)) (fun v13_7 hv13_7 => ?_)
       refine Rg.nil ⟨rfl, rfl, rfl, ?_⟩
       refine Rg.move rfl rfl ?_
       refine Rg.nil ⟨rfl, rfl, rfl, ?_⟩
       refine Rg.idx (M := M) Tryz.underlying39 I127 rfl rfl rfl hv13_7 (Le.refl _ _) (by omega) (fun u13_9 z hg13_9 hu13_9 => ?_)
       rw [Int.toNat_natCast] at hg13_9 --@ptr RT.fd ;; z
       refine Rg.nil ⟨rfl, rfl, rfl, ?_⟩
       refine Rg.fieldAddr (M := M) (A := RT.fd) (B := RT.str) Tryz.underlying127 rfl rfl I9 (by decide) (fd0) rfl rfl (by decide) (by assumption) (by repeat (first | exact Le.refl _ _ | refine Le.trans (Step.le (by assumption)) ?_)) (fun u13_10 hu13_10 => ?_)
       refine Rg.nil ⟨rfl, rfl, rfl, ?_⟩
       refine Rg.load (M := M) Tryz.underlying9 rfl rfl rfl rfl rfl hu13_10 (Le.refl _ _) (fun v13_11 hv13_11 => ?_)
       obtain rfl := V_strE hv13_11
       refine Rg.nil ⟨rfl, rfl, rfl, ?_⟩
       refine Rg.streq (p := y.1) (q := z.1) rfl rfl rfl ?_
       obtain rfl : x = z := Option.some.inj (hg7_3.symm.trans hg13_9)
       refine Rg.nil ⟨rfl, rfl, rfl, ?_⟩
       refine QRg.nil ?_
       refine T.ifp rfl (fun c13 => ?_) (fun c13 => ?_)
       ·refine T.seq ?_
        refine T.region ?_
        refine Rg.assign rfl rfl ?_
        refine Rg.nil ?_
        refine T.ret ?_
        have hany : ((d.2.take i).any fun g => decide (g.1 = x.1)) = true := List.any_eq_true.2 ⟨y, List.mem_of_getElem? (i := j) (by rw [List.getElem?_take, if_pos (by omega)]; exact hg13_3), by simpa using (by assumption)⟩
        exact Kret1 rfl rfl ⟨by rw [hmd, hst, if_neg (by assumption), if_pos hany], S.back⟩
       ·refine T.skip ?_
        refine T.region ?_
        refine Rg.move rfl rfl ?_
        refine Rg.iadd rfl rfl rfl (by omega) ?_
        refine Rg.assign rfl rfl ?_
        refine Rg.nil ?_
        refine ⟨rfl, j + 1, (.cons rfl (.cons rfl (.cons rfl (.cons rfl .nil)))), ?_, ?_⟩
        ·exact ⟨hM, S, hu0, by omega, fun k y' h hc => by
          rcases Nat.lt_or_ge k j with h2 | h2
          ·exact hno k y' h2 hc
          ·obtain rfl : k = j := by omega
           rw [hg13_3] at hc; cases hc; assumption⟩
        ·omega
      ·refine T.exit ?_
       refine T.seq ?_
       refine T.region ?_
       refine Rg.fieldAddr (M := M) (A := RT.dc) (B := (RT.fd).sl) Tryz.underlying41 rfl rfl I39 (by decide) (dc1) rfl rfl (by decide) (by assumption) (by repeat (first | exact Le.refl _ _ | refine Le.trans (Step.le (by assumption)) ?_)) (fun u15_0 hu15_0 => ?_)
       refine Rg.load (M := M) Tryz.underlying39 rfl rfl rfl rfl rfl (by assumption) (by repeat (first | exact Le.refl _ _ | refine Le.trans (Step.le (by assumption)) ?_)) (fun v15_1 hv15_1 => ?_)
       refine Rg.move rfl rfl ?_
       refine Rg.idx (M := M) Tryz.underlying39 I127 rfl rfl rfl hv15_1 (Le.refl _ _) (by omega) (fun u15_3 z hg15_3 hu15_3 => ?_)
       rw [Int.toNat_natCast] at hg15_3 --@ptr RT.fd ;; z
       refine Rg.fieldAddr (M := M) (A := RT.fd) (B := RT.str) Tryz.underlying127 rfl rfl I9 (by decide) (fd1) rfl rfl (by decide) (by assumption) (by repeat (first | exact Le.refl _ _ | refine Le.trans (Step.le (by assumption)) ?_)) (fun u15_4 hu15_4 => ?_)
       refine Rg.load (M := M) Tryz.underlying9 rfl rfl rfl rfl rfl hu15_4 (Le.refl _ _) (fun v15_5 hv15_5 => ?_)
       obtain rfl := V_strE hv15_5
       obtain rfl : x = z := Option.some.inj (hg7_3.symm.trans hg15_3)
       refine Rg.call rfl rfl E167 (rtoks_spec _ hM hxl.2) (fun r15 w15 hc => ?_)
       obtain ⟨⟨u15, rfl, hu15⟩, s15⟩ := hc --@step s15
       replace hu0 := hu0.le (by decide) s15.le
       replace hM := s15.lt hM
       have := S.size
       replace S := S.trans0 s15
       refine Rg.move rfl rfl ?_
       refine Rg.extract rfl rfl rfl ?_
       refine Rg.extract rfl rfl rfl ?_
       refine Rg.assign rfl rfl ?_
       refine Rg.assign rfl rfl ?_
       refine Rg.nil ?_
       refine T.seq ?_
       refine T.seq ?_
       refine T.region ?_
       refine Rg.move rfl rfl ?_
       refine Rg.ine rfl rfl rfl ?_
       refine Rg.nil ?_
       refine T.ifp rfl (fun c16 => ?_) (fun c16 => ?_)
       ·refine T.seq ?_
        refine T.region ?_
        refine Rg.move rfl rfl ?_
        refine Rg.assign rfl rfl ?_
        refine Rg.nil ?_
        refine T.ret ?_
        have hany : ((d.2.take i).any fun g => decide (g.1 = x.1)) = false := Bool.eq_false_iff.2 fun h => by
         obtain ⟨y, hy, he⟩ := List.any_eq_true.1 h
         obtain ⟨k, hk⟩ := List.mem_iff_getElem?.1 hy
         rw [List.getElem?_take] at hk
         split at hk
         ·exact hno k y (by omega) hk (by simpa using he)
         ·cases hk
        exact Kret1 rfl rfl ⟨by rw [hmd, hst, if_neg (by assumption), if_neg (by rw [hany]; simp), if_pos c16]; rfl, S.back⟩
       ·refine T.skip ?_
        refine T.region ?_
        refine Rg.move rfl rfl ?_
        have htk : tokE 0 (words x.2) = 0 := Classical.not_not.1 c16
        obtain ⟨a, cap, rfl⟩ := hu15 htk
        have hwl := words_len x.2
        refine Rg.move rfl rfl ?_
        refine Rg.lenraw Tryz.underlying222 rfl rfl ?_
        refine Rg.iadd rfl rfl rfl (by omega) ?_
        refine Rg.assign rfl rfl ?_
        refine Rg.nil ?_
        refine T.region ?_
        refine Rg.move rfl rfl ?_
        refine Rg.iadd rfl rfl rfl (by omega) ?_
        refine Rg.assign rfl rfl ?_
        refine Rg.nil ?_
        have hany : ((d.2.take i).any fun g => decide (g.1 = x.1)) = false := Bool.eq_false_iff.2 fun h => by
         obtain ⟨y, hy, he⟩ := List.any_eq_true.1 h
         obtain ⟨k, hk⟩ := List.mem_iff_getElem?.1 hy
         rw [List.getElem?_take] at hk
         split at hk
         ·exact hno k y (by omega) hk (by simpa using he)
         ·cases hk
        refine ⟨rfl, (i + 1, n + (words x.2).length), (.cons rfl (.cons rfl (.cons rfl .nil))), ?_, ?_⟩
        ·exact ⟨hM, S, hu0, by rw [hmd, hst, if_neg (by assumption), if_neg (by rw [hany]; simp), if_neg c16], by dsimp only; omega, by dsimp only; omega, hd8⟩
        ·dsimp only; omega
   ·refine T.exit ?_
    refine T.seq ?_
    refine T.seq ?_
    refine T.region ?_
    refine Rg.move rfl rfl ?_
    refine Rg.igt rfl rfl rfl ?_
    refine Rg.nil ?_
    refine T.ifp rfl (fun c19 => ?_) (fun c19 => ?_)
    ·refine T.seq ?_
     refine T.region ?_
     refine Rg.assign rfl rfl ?_
     refine Rg.nil ?_
     refine T.ret ?_
     exact Kret1 rfl rfl ⟨by rw [hmd, mayL_end (by omega), if_pos (by omega)], S.back⟩
    ·refine T.skip ?_
     refine T.seq ?_
     refine T.region ?_
     refine Rg.assign rfl rfl ?_
     refine Rg.nil ?_
     refine T.ret ?_
     exact Kret1 rfl rfl ⟨by rw [hmd, mayL_end (by omega), if_neg (by omega)], S.back⟩
def poolT : List (List UInt8) := [[116], [117], [118], [119]]
def fixF (i : Nat) (x : Fd) : Fd := (if nameB x.1 = true then x.1 else poolT.getD i [], x.2.take 40)
def goodF (id : Int) : Nat → List Fd → List Fd → List Fd
 |_, out, [] => out
 |i, out, x :: fs => if i < 4 then (if mayD (id, out ++ [fixF i x]) = 0 then goodF id (i + 1) (out ++ [fixF i x]) fs else goodF id (i + 1) out fs) else out
def goodD (d : Dc) : Dc := (d.1, goodF d.1 0 [] d.2)
def SmallF (l : List Fd) : Prop := ∀ x ∈ l, x.1.length ≤ 12 ∧ x.2.length ≤ 40
theorem name_len {s : List UInt8} (h : nameB s = true) : s.length ≤ 12 := by
 simp only [nameB, Bool.and_eq_true, decide_eq_true_eq] at h; omega
theorem fixF_small {i : Nat} (x : Fd) (hi : i < 4) : (fixF i x).1.length ≤ 12 ∧ (fixF i x).2.length ≤ 40 := by
 refine ⟨?_, by simp only [fixF, List.length_take]; omega⟩
 unfold fixF
 dsimp only
 split
 ·exact name_len (by assumption)
 ·have h : i = 0 ∨ i = 1 ∨ i = 2 ∨ i = 3 := by omega
  rcases h with rfl | rfl | rfl | rfl <;> decide
theorem SmallF.snoc {l : List Fd} {x : Fd} (h : SmallF l) (hx : x.1.length ≤ 12 ∧ x.2.length ≤ 40) : SmallF (l ++ [x]) := fun y hy => by
 rcases List.mem_append.1 hy with hy | hy
 ·exact h y hy
 ·rw [List.mem_singleton.1 hy]; exact hx
theorem goodF_at {id : Int} {fs : List Fd} {i : Nat} {out : List Fd} {x : Fd} (h : fs[i]? = some x) (hi : i < 4) : goodF id i out (fs.drop i) = if mayD (id, out ++ [fixF i x]) = 0 then goodF id (i + 1) (out ++ [fixF i x]) (fs.drop (i + 1)) else goodF id (i + 1) out (fs.drop (i + 1)) := by
 have hlt := (List.getElem?_eq_some_iff.1 h).1
 rw [List.drop_eq_getElem_cons hlt, (List.getElem?_eq_some_iff.1 h).2]
 show (if i < 4 then _ else _) = _
 rw [if_pos hi]
theorem goodF_end {id : Int} {fs : List Fd} {i : Nat} {out : List Fd} (h : fs.length ≤ i ∨ 4 ≤ i) : goodF id i out (fs.drop i) = out := by
 cases hd : fs.drop i with
 |nil => rfl
 |cons x r =>
  show (if i < 4 then _ else _) = _
  rw [if_neg]
  rcases h with h | h
  ·rw [List.drop_of_length_le h] at hd; cases hd
  ·omega
theorem take_min (l : List UInt8) : l.take (min (l.length : Int) 40).toNat = l.take 40 := by
 by_cases h : l.length ≤ 40
 ·rw [List.take_of_length_le (by omega), List.take_of_length_le h]
 ·congr 1; omega
theorem good_spec {M : PSet} {d : Dc} {v0 : Value} (w0 : World) (hM : Lt M w0) (hv : RT.dc.V M w0 d v0) :
  Spec Tryz.prog 65 #[v0] w0 (fun v w => RT.dc.V M w (goodD d) v ∧ Step M w0 M w none') := by
 have hM0 := hM
 have hdi : -9223372036854775808 ≤ d.1 ∧ d.1 ≤ 9223372036854775807 := by
  obtain ⟨vs, ⟨va, vb, _, ⟨_, h1, h2⟩, _⟩, _⟩ := hv
  exact ⟨h1, h2⟩
 refine spec_of (args := [_]) (fn := Tryz.f65) Tryz.func65 rfl (n := 67) Tryz.ntmps65 ?_
 have S : Step M w0 M w0 none' := (Step.refl _ _).widen (fun _ h => h.elim) (fun _ h => h.elim)
 refine T.seq ?_
 refine T.region ?_
 refine Rg.boxp (A := RT.dc) rfl rfl hM hv rfl (fun u0 w1 hu0 s0 _ => ?_) --@step s0
 --@vf hu0*
 --@ptr RT.dc ;; d
 replace hM := s0.lt hM
 have := S.size
 replace S := S.trans0 s0
 refine Rg.alloc M I41 rfl (fun b0_1 w0_1 p0_1 q0_1 g0_1 s0_1 => ?_)
 obtain ⟨M_0_1, eM_0_1⟩ : ∃ M', M' = ins M b0_1 := ⟨_, rfl⟩
 rw [← eM_0_1] at s0_1
 have m_g0_1 : M_0_1 b0_1 := by rw [eM_0_1]; exact .inl rfl
 change w0_1.heap[b0_1]? = some (.cells #[.int .i64 0, .slice none 0 0] _ _) at g0_1
 replace hu0 := hu0.le (by decide) s0_1.le
 replace hM := s0_1.lt hM
 have := S.size
 replace S := S.trans0 s0_1
 refine Rg.nil ?_
 refine T.seq ?_
 refine T.region ?_
 refine Rg.fieldAddr (M := M_0_1) (A := RT.dc) (B := RT.int .i64) Tryz.underlying41 rfl rfl I3 (by decide) (dc0) rfl rfl (by decide) (by assumption) (by repeat (first | exact Le.refl _ _ | refine Le.trans (Step.le (by assumption)) ?_)) (fun u1_0 hu1_0 => ?_)
 refine Rg.loadi64 (M := M_0_1) Tryz.underlying3 rfl rfl (by assumption) (by repeat (first | exact Le.refl _ _ | refine Le.trans (Step.le (by assumption)) ?_)) (fun in1_1 => ?_)
 refine Rg.build (places := [(0, 1), (1, 1)]) Tryz.underlying41 I41 B41 rfl ⟨_, _, rfl, rfl, rfl⟩ (out := [_, .slice none 0 0]) ⟨0, [_], rfl, rfl, by simp [Value.cells], rfl⟩ ?_
 refine Rg.alloc M_0_1 I41 rfl (fun b1_3 w1_3 p1_3 q1_3 g1_3 s1_3 => ?_)
 obtain ⟨M_1_3, eM_1_3⟩ : ∃ M', M' = ins M_0_1 b1_3 := ⟨_, rfl⟩
 rw [← eM_1_3] at s1_3
 have m_g1_3 : M_1_3 b1_3 := by rw [eM_1_3]; exact .inl rfl
 change w1_3.heap[b1_3]? = some (.cells #[.int .i64 0, .slice none 0 0] _ _) at g1_3
 have := lt_of_get g0_1
 replace m_g0_1 := (s1_3.mem _ this).2 m_g0_1
 replace g0_1 := s1_3.same0 g0_1
 replace hu0 := hu0.le (by decide) s1_3.le
 replace hM := s1_3.lt hM
 have := S.size
 replace S := S.trans0 s1_3
 refine Rg.storeaggc (M := M_1_3) (vs := [.int .i64 d.1, .slice none 0 0]) I41 rfl rfl (by intro u hu; simp at hu; rcases hu with rfl | rfl <;> first | rfl | exact V_one (by assumption) rfl rfl) rfl rfl g1_3 m_g1_3 (fun w1b gx1b s1b => ?_) --@wrote s1b g1_3 gx1b
 have := lt_of_get g0_1
 replace m_g0_1 := (s1b.mem _ this).2 m_g0_1
 replace g0_1 := s1b.keep g0_1 (fun hk => by have hk : _ = _ := hk; omega)
 have := lt_of_get g1_3
 replace m_g1_3 := (s1b.mem _ this).2 m_g1_3
 replace hu0 := hu0.le (by decide) s1b.le
 replace hM := s1b.lt hM
 have := S.size
 replace S := S.trans s1b (fun k hk h => by have h : _ = _ := h; subst h; first | (exfalso; omega) | (show _ ≤ _; omega) | exact ⟨by omega, (S.mem _ hk).1 ((s1b.mem _ (lt_of_get g1_3)).1 m_g1_3)⟩ | exact .inl rfl | exact .inr rfl | exact .inr (.inl rfl) | exact .inr (.inr rfl) | exact rfl)
 have g1_3_ := gx1b
 clear g1_3
 have g1_3 := g1_3_
 clear g1_3_
 refine Rg.nil ?_
 refine T.seq ?_
 refine T.region ?_
 refine Rg.sln (A := RT.str) (hn := by decide) (M := M_1_3) (xs := poolT) Tryz.underlying55 I9 rfl (by decide) rfl ⟨_, _, _, rfl, rfl, rfl, V_str.2 ⟨rfl, by decide⟩, _, _, _, rfl, rfl, rfl, V_str.2 ⟨rfl, by decide⟩, _, _, _, rfl, rfl, rfl, V_str.2 ⟨rfl, by decide⟩, _, _, _, rfl, rfl, rfl, V_str.2 ⟨rfl, by decide⟩, rfl⟩ rfl hM (.inr ⟨rfl, rfl⟩) (by decide) (fun u2 w2 hpool s2 => ?_) --@step s2
 --@vf hpool
 have := lt_of_get g0_1
 replace m_g0_1 := (s2.mem _ this).2 m_g0_1
 replace g0_1 := s2.same0 g0_1
 have := lt_of_get g1_3
 replace m_g1_3 := (s2.mem _ this).2 m_g1_3
 replace g1_3 := s2.same0 g1_3
 replace hu0 := hu0.le (by decide) s2.le
 replace hM := s2.lt hM
 have := S.size
 replace S := S.trans0 s2
 refine Rg.assign rfl rfl ?_
 refine Rg.nil ?_
 refine T.seq ?_
 refine T.seq ?_
 refine T.region ?_
 refine Rg.assign rfl rfl ?_
 refine Rg.nil ?_
 refine T.block ?_
 refine T.loop (σ := Nat × List Fd) (fun q => [(1, u0), (2, .pointer (some ⟨b0_1, 0, none⟩)), (3, .pointer (some ⟨b1_3, 0, none⟩)), (4, u2), (5, .int .i64 (q.1 : Int))]) (fun q w => ∃ M' uo, Lt M' w ∧ Step M w0 M' w none' ∧ PtrTo RT.dc M' w u0 d ∧ (RT.str.sl).V M' w poolT u2 ∧ w.heap[b0_1]? = some (.cells #[.int .i64 0, .slice none 0 0] 41 (0, 0)) ∧ M' b0_1 ∧ w.heap[b1_3]? = some (.cells #[.int .i64 d.1, uo] 41 (0, 0)) ∧ M' b1_3 ∧ (RT.fd.sl).V M' w q.2 uo ∧ goodF d.1 0 [] d.2 = goodF d.1 q.1 q.2 (d.2.drop q.1) ∧ q.1 ≤ d.2.length ∧ q.1 ≤ 4 ∧ SmallF q.2 ∧ q.2.length ≤ q.1) (fun q => d.2.length - q.1) (0, []) (.cons rfl (.cons rfl (.cons rfl (.cons rfl (.cons rfl .nil))))) ?_ ?_
 ·exact ⟨_, .slice none 0 0, hM, S, hu0, hpool, g0_1, m_g0_1, g1_3, m_g1_3, V_nil, rfl, Nat.zero_le _, Nat.zero_le _, (fun x hx => by cases hx), Nat.le_refl _⟩
 ·rintro ⟨i, out⟩ w ⟨M1, uo, hM, S, hu0, hpool, g2, m_g2, g3, m_g3, hvo, hgd, hi, hi44, hsm, hol⟩
  dsimp only at g3 hvo hgd hi hi44 hsm hol ⊢
  refine T.seq ?_
  refine T.seq ?_
  refine T.region ?_
  refine Rg.move rfl rfl ?_
  refine Rg.fieldAddr (M := M1) (A := RT.dc) (B := (RT.fd).sl) Tryz.underlying41 rfl rfl I39 (by decide) (dc1) rfl rfl (by decide) (by assumption) (by repeat (first | exact Le.refl _ _ | refine Le.trans (Step.le (by assumption)) ?_)) (fun u4_1 hu4_1 => ?_)
  refine Rg.load (M := M1) Tryz.underlying39 rfl rfl rfl rfl rfl (by assumption) (by repeat (first | exact Le.refl _ _ | refine Le.trans (Step.le (by assumption)) ?_)) (fun v4_2 hv4_2 => ?_)
  refine Rg.lensl Tryz.underlying39 rfl hv4_2 rfl ?_
  refine Rg.ilt rfl rfl rfl ?_
  refine Rg.move rfl rfl ?_
  refine Rg.gsplitp (g := 18) rfl (fun g4_5 => ?_) (fun g4_5 => ?_)
  ·refine Rg.gyes rfl rfl ?_
   refine Rg.move rfl rfl ?_
   refine Rg.gyes rfl rfl ?_
   refine Rg.ilt rfl rfl rfl ?_
   refine Rg.pickt rfl rfl rfl ?_
   refine Rg.nil ?_
   refine T.ifp rfl (fun c4 => ?_) (fun c4 => ?_)
   ·refine T.skip ?_
    refine T.seq ?_
    refine T.block ?_
    refine T.seq ?_
    refine T.region ?_
    refine Rg.fieldAddr (M := M1) (A := RT.dc) (B := (RT.fd).sl) Tryz.underlying41 rfl rfl I39 (by decide) (dc1) rfl rfl (by decide) (by assumption) (by repeat (first | exact Le.refl _ _ | refine Le.trans (Step.le (by assumption)) ?_)) (fun u6_0 hu6_0 => ?_)
    refine Rg.load (M := M1) Tryz.underlying39 rfl rfl rfl rfl rfl (by assumption) (by repeat (first | exact Le.refl _ _ | refine Le.trans (Step.le (by assumption)) ?_)) (fun v6_1 hv6_1 => ?_)
    refine Rg.move rfl rfl ?_
    refine Rg.idx (M := M1) Tryz.underlying39 I127 rfl rfl rfl hv6_1 (Le.refl _ _) (by omega) (fun u6 x hg6 hu6 => ?_)
    rw [Int.toNat_natCast] at hg6
    have hi4 : i < 4 := by omega
    have hga := goodF_at (id := d.1) (out := out) hg6 hi4
    have hfx := fixF_small x hi4 --@ptr RT.fd ;; x
    refine Rg.loadagg (M := M1) (A := RT.fd) Tryz.underlying127 rfl I127 (by decide) rfl rfl rfl hu6 (Le.refl _ _) (fun v6 hv6 => ?_)
    obtain rfl := fd_val hv6
    have hxb := fd_len hv6
    refine Rg.alloc M1 I127 rfl (fun b6_5 w6_5 p6_5 q6_5 g6_5 s6_5 => ?_)
    obtain ⟨M_6_5, eM_6_5⟩ : ∃ M', M' = ins M1 b6_5 := ⟨_, rfl⟩
    rw [← eM_6_5] at s6_5
    have m_g6_5 : M_6_5 b6_5 := by rw [eM_6_5]; exact .inl rfl
    change w6_5.heap[b6_5]? = some (.cells #[.string ⟨#[]⟩, .string ⟨#[]⟩] _ _) at g6_5
    have := lt_of_get g2
    replace m_g2 := (s6_5.mem _ this).2 m_g2
    replace g2 := s6_5.same0 g2
    have := lt_of_get g3
    replace m_g3 := (s6_5.mem _ this).2 m_g3
    replace g3 := s6_5.same0 g3
    replace hu0 := hu0.le (by decide) s6_5.le
    replace hpool := hpool.le s6_5.le
    replace hvo := hvo.le s6_5.le
    replace hM := s6_5.lt hM
    have := S.size
    replace S := S.trans0 s6_5
    refine Rg.storeaggc (M := M_6_5) (vs := [.string ⟨x.1.toArray⟩, .string ⟨x.2.toArray⟩]) I127 rfl rfl (by intro u hu; simp at hu; rcases hu with rfl | rfl <;> first | rfl | exact V_one (by assumption) rfl rfl) rfl rfl g6_5 m_g6_5 (fun w6b gx6b s6b => ?_) --@wrote s6b g6_5 gx6b
    have := lt_of_get g2
    replace m_g2 := (s6b.mem _ this).2 m_g2
    replace g2 := s6b.keep g2 (fun hk => by have hk : _ = _ := hk; omega)
    have := lt_of_get g3
    replace m_g3 := (s6b.mem _ this).2 m_g3
    replace g3 := s6b.keep g3 (fun hk => by have hk : _ = _ := hk; omega)
    have := lt_of_get g6_5
    replace m_g6_5 := (s6b.mem _ this).2 m_g6_5
    replace hu0 := hu0.le (by decide) s6b.le
    replace hpool := hpool.le s6b.le
    replace hvo := hvo.le s6b.le
    replace hM := s6b.lt hM
    have := S.size
    replace S := S.trans s6b (fun k hk h => by have h : _ = _ := h; subst h; first | (exfalso; omega) | (show _ ≤ _; omega) | exact ⟨by omega, (S.mem _ hk).1 ((s6b.mem _ (lt_of_get g6_5)).1 m_g6_5)⟩ | exact .inl rfl | exact .inr rfl | exact .inr (.inl rfl) | exact .inr (.inr rfl) | exact rfl)
    have g6_5_ := gx6b
    clear g6_5
    have g6_5 := g6_5_
    clear g6_5_
    refine Rg.nil ?_
    refine T.seq ?_
    refine T.region ?_
    refine Rg.fieldc (o' := 0) Tryz.underlying127 rfl rfl I9 (by decide) rfl rfl ?_
    refine Rg.loadc Tryz.underlying9 rfl rfl rfl (by assumption) rfl ?_
    refine Rg.call rfl rfl E116 (rname_spec x.1 hxb.1 _) (fun r7 w7 hc => ?_)
    obtain ⟨rfl, rfl⟩ := hc
    refine Rg.assign rfl rfl ?_
    refine Rg.nil ?_
    refine T.seq ?_
    refine T.seq ?_
    refine T.region ?_
    refine Rg.move rfl rfl ?_
    refine Rg.not rfl rfl ?_
    refine Rg.eqv (v' := .bool (decide (nameB x.1 = false))) (by cases nameB x.1 <;> rfl) ?_
    refine Rg.nil ?_
    refine T.ifp rfl (fun c8 => ?_) (fun c8 => ?_)
    ·refine T.region ?_
     refine Rg.move rfl rfl ?_
     refine Rg.move rfl rfl ?_
     refine Rg.idx (M := M_6_5) Tryz.underlying55 I9 rfl rfl rfl hpool (Le.refl _ _) (by have : poolT.length = 4 := rfl; omega) (fun u9 y hg9 hu9 => ?_)
     rw [Int.toNat_natCast] at hg9 --@ptr RT.str ;; y
     refine Rg.load (M := M_6_5) Tryz.underlying9 rfl rfl rfl rfl rfl hu9 (Le.refl _ _) (fun v9 hv9 => ?_)
     obtain rfl := V_strE hv9
     obtain rfl : y = (fixF i x).1 := by
      show y = if nameB x.1 = true then x.1 else poolT.getD i []
      rw [if_neg (by rw [c8]; simp), List.getD_eq_getElem?_getD, hg9]; rfl
     refine Rg.fieldc (o' := 0) Tryz.underlying127 rfl rfl I9 (by decide) rfl rfl ?_
     refine Rg.storec (M := M_6_5) I9 rfl rfl g6_5 rfl (rfl) m_g6_5 (fun w9_5 g9_5 s9_5 => ?_)
     change w9_5.heap[_]? = some (Obj.cells #[.string ⟨((fixF i x).1).toArray⟩, .string ⟨x.2.toArray⟩] _ _) at g9_5
     have := lt_of_get g2
     replace m_g2 := (s9_5.mem _ this).2 m_g2
     replace g2 := s9_5.keep g2 (fun hk => by have hk : _ = _ := hk; omega)
     have := lt_of_get g3
     replace m_g3 := (s9_5.mem _ this).2 m_g3
     replace g3 := s9_5.keep g3 (fun hk => by have hk : _ = _ := hk; omega)
     have := lt_of_get g6_5
     replace m_g6_5 := (s9_5.mem _ this).2 m_g6_5
     replace hu0 := hu0.le (by decide) s9_5.le
     replace hpool := hpool.le s9_5.le
     replace hvo := hvo.le s9_5.le
     replace hM := s9_5.lt hM
     have := S.size
     replace S := S.trans s9_5 (fun k hk h => by have h : _ = _ := h; subst h; first | (exfalso; omega) | (show _ ≤ _; omega) | exact ⟨by omega, (S.mem _ hk).1 ((s9_5.mem _ (lt_of_get g6_5)).1 m_g6_5)⟩ | exact .inl rfl | exact .inr rfl | exact .inr (.inl rfl) | exact .inr (.inr rfl) | exact rfl)
     have g6_5_ := g9_5
     clear g6_5
     have g6_5 := g6_5_
     clear g6_5_
     refine Rg.nil ?_
     refine T.seq ?_
     refine T.region ?_
     refine Rg.fieldc (o' := 1) Tryz.underlying127 rfl rfl I9 (by decide) rfl rfl ?_
     refine Rg.loadc Tryz.underlying9 rfl rfl rfl (by assumption) rfl ?_
     refine Rg.fieldc (o' := 1) Tryz.underlying127 rfl rfl I9 (by decide) rfl rfl ?_
     refine Rg.loadc Tryz.underlying9 rfl rfl rfl (by assumption) rfl ?_
     refine Rg.lenstr Tryz.underlying9 rfl rfl ?_
     refine Rg.eqv (v' := .int .i64 (x.2.length : Int)) (by simp [ByteArray.size]) ?_
     refine Rg.min2 rfl rfl rfl ?_
     refine Rg.strTo Tryz.underlying9 rfl rfl rfl (by omega) ?_
     refine Rg.eqv (v' := .string ⟨((fixF i x).2).toArray⟩) (by rw [take_min]; rfl) ?_
     refine Rg.fieldc (o' := 1) Tryz.underlying127 rfl rfl I9 (by decide) rfl rfl ?_
     refine Rg.storec (M := M_6_5) I9 rfl rfl g6_5 rfl (rfl) m_g6_5 (fun w10_8 g10_8 s10_8 => ?_)
     change w10_8.heap[_]? = some (Obj.cells #[.string ⟨((fixF i x).1).toArray⟩, .string ⟨((fixF i x).2).toArray⟩] _ _) at g10_8
     have := lt_of_get g2
     replace m_g2 := (s10_8.mem _ this).2 m_g2
     replace g2 := s10_8.keep g2 (fun hk => by have hk : _ = _ := hk; omega)
     have := lt_of_get g3
     replace m_g3 := (s10_8.mem _ this).2 m_g3
     replace g3 := s10_8.keep g3 (fun hk => by have hk : _ = _ := hk; omega)
     have := lt_of_get g6_5
     replace m_g6_5 := (s10_8.mem _ this).2 m_g6_5
     replace hu0 := hu0.le (by decide) s10_8.le
     replace hpool := hpool.le s10_8.le
     replace hvo := hvo.le s10_8.le
     replace hM := s10_8.lt hM
     have := S.size
     replace S := S.trans s10_8 (fun k hk h => by have h : _ = _ := h; subst h; first | (exfalso; omega) | (show _ ≤ _; omega) | exact ⟨by omega, (S.mem _ hk).1 ((s10_8.mem _ (lt_of_get g6_5)).1 m_g6_5)⟩ | exact .inl rfl | exact .inr rfl | exact .inr (.inl rfl) | exact .inr (.inr rfl) | exact rfl)
     have g6_5_ := g10_8
     clear g6_5
     have g6_5 := g6_5_
     clear g6_5_
     refine Rg.nil ?_
     refine T.seq ?_
     refine T.region ?_
     refine Rg.fieldAddr (M := M_6_5) (A := RT.dc) (B := RT.int .i64) Tryz.underlying41 rfl rfl I3 (by decide) (dc0) rfl rfl (by decide) (by assumption) (by repeat (first | exact Le.refl _ _ | refine Le.trans (Step.le (by assumption)) ?_)) (fun u11_0 hu11_0 => ?_)
     refine Rg.loadi64 (M := M_6_5) Tryz.underlying3 rfl rfl (by assumption) (by repeat (first | exact Le.refl _ _ | refine Le.trans (Step.le (by assumption)) ?_)) (fun in11_1 => ?_)
     refine Rg.build (places := [(0, 1), (1, 1)]) Tryz.underlying41 I41 B41 rfl ⟨_, _, rfl, rfl, rfl⟩ (out := [_, .slice none 0 0]) ⟨0, [_], rfl, rfl, by simp [Value.cells], rfl⟩ ?_
     refine Rg.alloc M_6_5 I41 rfl (fun b11_3 w11_3 p11_3 q11_3 g11_3 s11_3 => ?_)
     obtain ⟨M_11_3, eM_11_3⟩ : ∃ M', M' = ins M_6_5 b11_3 := ⟨_, rfl⟩
     rw [← eM_11_3] at s11_3
     have m_g11_3 : M_11_3 b11_3 := by rw [eM_11_3]; exact .inl rfl
     change w11_3.heap[b11_3]? = some (.cells #[.int .i64 0, .slice none 0 0] _ _) at g11_3
     have := lt_of_get g2
     replace m_g2 := (s11_3.mem _ this).2 m_g2
     replace g2 := s11_3.same0 g2
     have := lt_of_get g3
     replace m_g3 := (s11_3.mem _ this).2 m_g3
     replace g3 := s11_3.same0 g3
     have := lt_of_get g6_5
     replace m_g6_5 := (s11_3.mem _ this).2 m_g6_5
     replace g6_5 := s11_3.same0 g6_5
     replace hu0 := hu0.le (by decide) s11_3.le
     replace hpool := hpool.le s11_3.le
     replace hvo := hvo.le s11_3.le
     replace hM := s11_3.lt hM
     have := S.size
     replace S := S.trans0 s11_3
     refine Rg.storeaggc (M := M_11_3) (vs := [.int .i64 d.1, .slice none 0 0]) I41 rfl rfl (by intro u hu; simp at hu; rcases hu with rfl | rfl <;> first | rfl | exact V_one (by assumption) rfl rfl) rfl rfl g11_3 m_g11_3 (fun w11b gx11b s11b => ?_) --@wrote s11b g11_3 gx11b
     have := lt_of_get g2
     replace m_g2 := (s11b.mem _ this).2 m_g2
     replace g2 := s11b.keep g2 (fun hk => by have hk : _ = _ := hk; omega)
     have := lt_of_get g3
     replace m_g3 := (s11b.mem _ this).2 m_g3
     replace g3 := s11b.keep g3 (fun hk => by have hk : _ = _ := hk; omega)
     have := lt_of_get g6_5
     replace m_g6_5 := (s11b.mem _ this).2 m_g6_5
     replace g6_5 := s11b.keep g6_5 (fun hk => by have hk : _ = _ := hk; omega)
     have := lt_of_get g11_3
     replace m_g11_3 := (s11b.mem _ this).2 m_g11_3
     replace hu0 := hu0.le (by decide) s11b.le
     replace hpool := hpool.le s11b.le
     replace hvo := hvo.le s11b.le
     replace hM := s11b.lt hM
     have := S.size
     replace S := S.trans s11b (fun k hk h => by have h : _ = _ := h; subst h; first | (exfalso; omega) | (show _ ≤ _; omega) | exact ⟨by omega, (S.mem _ hk).1 ((s11b.mem _ (lt_of_get g11_3)).1 m_g11_3)⟩ | exact .inl rfl | exact .inr rfl | exact .inr (.inl rfl) | exact .inr (.inr rfl) | exact rfl)
     have g11_3_ := gx11b
     clear g11_3
     have g11_3 := g11_3_
     clear g11_3_
     refine Rg.nil ?_
     refine T.seq ?_
     refine T.region ?_
     refine Rg.fieldc (o' := 1) Tryz.underlying41 rfl rfl I39 (by decide) rfl rfl ?_
     refine Rg.loadc Tryz.underlying39 rfl rfl rfl (by assumption) rfl ?_
     refine Rg.fieldc (o' := 1) Tryz.underlying41 rfl rfl I39 (by decide) rfl rfl ?_
     refine Rg.loadc Tryz.underlying39 rfl rfl rfl (by assumption) rfl ?_
     have hn12 := Own.nilOf RT.fd 127 w11b.heap.size hM
     have hb65 := lt_of_get g6_5
     have hw11 : w0.heap.size ≤ w11b.heap.size := S.size
     refine Rg.append (M := M_11_3) (base := w11b.heap.size) Tryz.underlying39 I127 rfl rfl rfl rfl hn12 hvo (Le.refl _ _) (by simp; omega) (by simp; omega) (Nat.le_refl _) (fun u12_4 M12_4 w12_4 ho12_4 s12_4 => ?_)
     have := lt_of_get g2
     replace m_g2 := (s12_4.mem _ this).2 m_g2
     replace g2 := s12_4.keep g2 (fun h => by first | exact hn12.notIter g2 h | exact hn12.neT g2 (by decide) h | (have := (hn12.base _ h).1; omega))
     have := lt_of_get g3
     replace m_g3 := (s12_4.mem _ this).2 m_g3
     replace g3 := s12_4.keep g3 (fun h => by first | exact hn12.notIter g3 h | exact hn12.neT g3 (by decide) h | (have := (hn12.base _ h).1; omega))
     have := lt_of_get g6_5
     replace m_g6_5 := (s12_4.mem _ this).2 m_g6_5
     replace g6_5 := s12_4.keep g6_5 (fun h => by first | exact hn12.notIter g6_5 h | exact hn12.neT g6_5 (by decide) h | (have := (hn12.base _ h).1; omega))
     have := lt_of_get g11_3
     replace m_g11_3 := (s12_4.mem _ this).2 m_g11_3
     replace g11_3 := s12_4.keep g11_3 (fun h => by first | exact hn12.notIter g11_3 h | exact hn12.neT g11_3 (by decide) h | (have := (hn12.base _ h).1; omega))
     replace hu0 := hu0.le (by decide) s12_4.le
     replace hpool := hpool.le s12_4.le
     replace hvo := hvo.le s12_4.le
     replace hM := s12_4.lt hM
     have := S.size
     replace S := S.transBlk s12_4 hn12 hw11
     replace hn12 := ho12_4
     refine Rg.fieldc (o' := 1) Tryz.underlying41 rfl rfl I39 (by decide) rfl rfl ?_
     refine Rg.storec (M := M12_4) I39 rfl rfl g11_3 rfl ((by obtain ⟨_, _, he, _⟩ := hn12.isSlice; rw [he]; rfl)) m_g11_3 (fun w12_6 g12_6 s12_6 => ?_)
     change w12_6.heap[_]? = some (Obj.cells #[.int .i64 d.1, u12_4] _ _) at g12_6
     have := lt_of_get g2
     replace m_g2 := (s12_6.mem _ this).2 m_g2
     replace g2 := s12_6.keep g2 (fun hk => by have hk : _ = _ := hk; omega)
     have := lt_of_get g3
     replace m_g3 := (s12_6.mem _ this).2 m_g3
     replace g3 := s12_6.keep g3 (fun hk => by have hk : _ = _ := hk; omega)
     have := lt_of_get g6_5
     replace m_g6_5 := (s12_6.mem _ this).2 m_g6_5
     replace g6_5 := s12_6.keep g6_5 (fun hk => by have hk : _ = _ := hk; omega)
     have := lt_of_get g11_3
     replace m_g11_3 := (s12_6.mem _ this).2 m_g11_3
     replace hu0 := hu0.le (by decide) s12_6.le
     replace hpool := hpool.le s12_6.le
     replace hvo := hvo.le s12_6.le
     replace hn12 := hn12.step s12_6 (fun b hb hk => by have hk : _ = _ := hk; have := (hn12.base b hb); omega)
     replace hM := s12_6.lt hM
     have := S.size
     replace S := S.trans s12_6 (fun k hk h => by have h : _ = _ := h; subst h; first | (exfalso; omega) | (show _ ≤ _; omega) | exact ⟨by omega, (S.mem _ hk).1 ((s12_6.mem _ (lt_of_get g11_3)).1 m_g11_3)⟩ | exact .inl rfl | exact .inr rfl | exact .inr (.inl rfl) | exact .inr (.inr rfl) | exact rfl)
     have g11_3_ := g12_6
     clear g11_3
     have g11_3 := g11_3_
     clear g11_3_
     refine Rg.nil ?_
     refine T.seq ?_
     refine T.region ?_
     refine Rg.fieldc (o' := 1) Tryz.underlying41 rfl rfl I39 (by decide) rfl rfl ?_
     refine Rg.loadc Tryz.underlying39 rfl rfl rfl (by assumption) rfl ?_
     refine Rg.loadaggc (vs := [.string ⟨((fixF i x).1).toArray⟩, .string ⟨((fixF i x).2).toArray⟩]) Tryz.underlying127 rfl I127 rfl rfl rfl g6_5 ?_
     refine Rg.sl1 (A := RT.fd) (hn := by decide) (M := M12_4) Tryz.underlying39 I127 (by decide) rfl rfl hM (show RT.fd.V _ _ (fixF i x) _ from V_pair_mk (V_str.2 ⟨rfl, Nat.le_trans hfx.1 (by decide)⟩) (V_str.2 ⟨rfl, Nat.le_trans hfx.2 (by decide)⟩) rfl rfl rfl rfl) (.inl rfl) (fun u13_3 w13_3 hu13_3 s13_3 => ?_)
     have := lt_of_get g2
     replace m_g2 := (s13_3.mem _ this).2 m_g2
     replace g2 := s13_3.same0 g2
     have := lt_of_get g3
     replace m_g3 := (s13_3.mem _ this).2 m_g3
     replace g3 := s13_3.same0 g3
     have := lt_of_get g6_5
     replace m_g6_5 := (s13_3.mem _ this).2 m_g6_5
     replace g6_5 := s13_3.same0 g6_5
     have := lt_of_get g11_3
     replace m_g11_3 := (s13_3.mem _ this).2 m_g11_3
     replace g11_3 := s13_3.same0 g11_3
     replace hu0 := hu0.le (by decide) s13_3.le
     replace hpool := hpool.le s13_3.le
     replace hvo := hvo.le s13_3.le
     replace hn12 := hn12.step0 s13_3
     replace hM := s13_3.lt hM
     have := S.size
     replace S := S.trans0 s13_3
     refine Rg.append (M := M12_4) (base := w11b.heap.size) Tryz.underlying39 I127 rfl rfl rfl rfl hn12 hu13_3 (Le.refl _ _) (by simp; omega) (by simp; omega) (by have := s12_4.size; have := s12_6.size; have := s13_3.size; omega) (fun u13_4 M13_4 w13_4 ho13_4 s13_4 => ?_)
     have := lt_of_get g2
     replace m_g2 := (s13_4.mem _ this).2 m_g2
     replace g2 := s13_4.keep g2 (fun h => by first | exact hn12.notIter g2 h | exact hn12.neT g2 (by decide) h | (have := (hn12.base _ h).1; omega))
     have := lt_of_get g3
     replace m_g3 := (s13_4.mem _ this).2 m_g3
     replace g3 := s13_4.keep g3 (fun h => by first | exact hn12.notIter g3 h | exact hn12.neT g3 (by decide) h | (have := (hn12.base _ h).1; omega))
     have := lt_of_get g6_5
     replace m_g6_5 := (s13_4.mem _ this).2 m_g6_5
     replace g6_5 := s13_4.keep g6_5 (fun h => by first | exact hn12.notIter g6_5 h | exact hn12.neT g6_5 (by decide) h | (have := (hn12.base _ h).1; omega))
     have := lt_of_get g11_3
     replace m_g11_3 := (s13_4.mem _ this).2 m_g11_3
     replace g11_3 := s13_4.keep g11_3 (fun h => by first | exact hn12.notIter g11_3 h | exact hn12.neT g11_3 (by decide) h | (have := (hn12.base _ h).1; omega))
     replace hu0 := hu0.le (by decide) s13_4.le
     replace hpool := hpool.le s13_4.le
     replace hvo := hvo.le s13_4.le
     replace hu13_3 := hu13_3.le s13_4.le
     replace hM := s13_4.lt hM
     have := S.size
     replace S := S.transBlk s13_4 hn12 hw11
     replace hn12 := ho13_4
     refine Rg.fieldc (o' := 1) Tryz.underlying41 rfl rfl I39 (by decide) rfl rfl ?_
     refine Rg.storec (M := M13_4) I39 rfl rfl g11_3 rfl ((by obtain ⟨_, _, he, _⟩ := hn12.isSlice; rw [he]; rfl)) m_g11_3 (fun w13_6 g13_6 s13_6 => ?_)
     change w13_6.heap[_]? = some (Obj.cells #[.int .i64 d.1, u13_4] _ _) at g13_6
     have := lt_of_get g2
     replace m_g2 := (s13_6.mem _ this).2 m_g2
     replace g2 := s13_6.keep g2 (fun hk => by have hk : _ = _ := hk; omega)
     have := lt_of_get g3
     replace m_g3 := (s13_6.mem _ this).2 m_g3
     replace g3 := s13_6.keep g3 (fun hk => by have hk : _ = _ := hk; omega)
     have := lt_of_get g6_5
     replace m_g6_5 := (s13_6.mem _ this).2 m_g6_5
     replace g6_5 := s13_6.keep g6_5 (fun hk => by have hk : _ = _ := hk; omega)
     have := lt_of_get g11_3
     replace m_g11_3 := (s13_6.mem _ this).2 m_g11_3
     replace hu0 := hu0.le (by decide) s13_6.le
     replace hpool := hpool.le s13_6.le
     replace hvo := hvo.le s13_6.le
     replace hu13_3 := hu13_3.le s13_6.le
     replace hn12 := hn12.step s13_6 (fun b hb hk => by have hk : _ = _ := hk; have := (hn12.base b hb); omega)
     replace hM := s13_6.lt hM
     have := S.size
     replace S := S.trans s13_6 (fun k hk h => by have h : _ = _ := h; subst h; first | (exfalso; omega) | (show _ ≤ _; omega) | exact ⟨by omega, (S.mem _ hk).1 ((s13_6.mem _ (lt_of_get g11_3)).1 m_g11_3)⟩ | exact .inl rfl | exact .inr rfl | exact .inr (.inl rfl) | exact .inr (.inr rfl) | exact rfl)
     have g11_3_ := g13_6
     clear g11_3
     have g11_3 := g11_3_
     clear g11_3_
     refine Rg.nil ?_
     refine T.seq ?_
     refine T.region ?_
     refine Rg.loadaggc (vs := [.int .i64 d.1, u13_4]) Tryz.underlying41 rfl I41 rfl rfl rfl g11_3 ?_ --@freeze hn12 u13_4 hvn
     have hvn := hn12.view (hn := by decide) (by simp; omega)
     replace m_g2 : rm M13_4 u13_4 _ := ⟨m_g2, by first | exact hn12.neT g2 (by decide) | (intro h; have := (hn12.base _ h).1; omega)⟩
     replace m_g3 : rm M13_4 u13_4 _ := ⟨m_g3, by first | exact hn12.neT g3 (by decide) | (intro h; have := (hn12.base _ h).1; omega)⟩
     replace m_g6_5 : rm M13_4 u13_4 _ := ⟨m_g6_5, by first | exact hn12.neT g6_5 (by decide) | (intro h; have := (hn12.base _ h).1; omega)⟩
     replace m_g11_3 : rm M13_4 u13_4 _ := ⟨m_g11_3, by first | exact hn12.neT g11_3 (by decide) | (intro h; have := (hn12.base _ h).1; omega)⟩
     replace hu0 := hu0.le (by decide) (le_rm _ u13_4 _)
     replace hpool := hpool.le (le_rm _ u13_4 _)
     replace hvo := hvo.le (le_rm _ u13_4 _)
     replace hu13_3 := hu13_3.le (le_rm _ u13_4 _)
     replace hM : Lt (rm M13_4 u13_4) _ := fun b hb => hM b hb.1
     replace S := S.freeze (v := u13_4) (fun b hb => by have := (hn12.base b hb).1; omega)
     clear hn12
     refine Rg.call rfl rfl E117 (rmay_spec (d := (d.1, [] ++ out ++ [fixF i x])) _ hM (V_pair_mk (V_i64 hdi) hvn rfl rfl rfl rfl) (fun y hy => by have := (hsm.snoc hfx) y (by simpa using hy); omega)) (fun r14 w14 hc => ?_)
     obtain ⟨rfl, s14⟩ := hc
     rw [List.nil_append] at hvn --@step s14
     have := lt_of_get g2
     replace m_g2 := (s14.mem _ this).2 m_g2
     replace g2 := s14.same0 g2
     have := lt_of_get g3
     replace m_g3 := (s14.mem _ this).2 m_g3
     replace g3 := s14.same0 g3
     have := lt_of_get g6_5
     replace m_g6_5 := (s14.mem _ this).2 m_g6_5
     replace g6_5 := s14.same0 g6_5
     have := lt_of_get g11_3
     replace m_g11_3 := (s14.mem _ this).2 m_g11_3
     replace g11_3 := s14.same0 g11_3
     replace hu0 := hu0.le (by decide) s14.le
     replace hpool := hpool.le s14.le
     replace hvo := hvo.le s14.le
     replace hu13_3 := hu13_3.le s14.le
     replace hvn := hvn.le s14.le
     replace hM := s14.lt hM
     have := S.size
     replace S := S.trans0 s14
     refine Rg.ieq rfl rfl rfl ?_
     refine Rg.eqv (v' := .bool (decide (mayD (d.1, out ++ [fixF i x]) = 0))) (by rw [List.nil_append]) ?_
     refine Rg.nil ?_
     refine T.ifp rfl (fun c14 => ?_) (fun c14 => ?_)
     ·refine T.region ?_
      refine Rg.loadaggc (vs := [.int .i64 d.1, u13_4]) Tryz.underlying41 rfl I41 rfl rfl rfl g11_3 ?_
      refine Rg.storeaggc (M := rm M13_4 u13_4) (vs := [.int .i64 d.1, u13_4]) I41 rfl rfl (by intro u hu; simp at hu; rcases hu with rfl | rfl <;> first | rfl | exact V_one (by assumption) rfl rfl) rfl rfl g3 m_g3 (fun w15b gx15b s15b => ?_) --@wrote s15b g3 gx15b
      have := lt_of_get g2
      replace m_g2 := (s15b.mem _ this).2 m_g2
      replace g2 := s15b.keep g2 (fun hk => by have hk : _ = _ := hk; omega)
      have := lt_of_get g3
      replace m_g3 := (s15b.mem _ this).2 m_g3
      have := lt_of_get g6_5
      replace m_g6_5 := (s15b.mem _ this).2 m_g6_5
      replace g6_5 := s15b.keep g6_5 (fun hk => by have hk : _ = _ := hk; omega)
      have := lt_of_get g11_3
      replace m_g11_3 := (s15b.mem _ this).2 m_g11_3
      replace g11_3 := s15b.keep g11_3 (fun hk => by have hk : _ = _ := hk; omega)
      replace hu0 := hu0.le (by decide) s15b.le
      replace hpool := hpool.le s15b.le
      replace hvo := hvo.le s15b.le
      replace hu13_3 := hu13_3.le s15b.le
      replace hvn := hvn.le s15b.le
      replace hM := s15b.lt hM
      have := S.size
      replace S := S.trans s15b (fun k hk h => by have h : _ = _ := h; subst h; first | (exfalso; omega) | (show _ ≤ _; omega) | exact ⟨by omega, (S.mem _ hk).1 ((s15b.mem _ (lt_of_get g3)).1 m_g3)⟩ | exact .inl rfl | exact .inr rfl | exact .inr (.inl rfl) | exact .inr (.inr rfl) | exact rfl)
      have g3_ := gx15b
      clear g3
      have g3 := g3_
      clear g3_
      refine Rg.nil ?_
      refine T.region ?_
      refine Rg.move rfl rfl ?_
      refine Rg.iadd rfl rfl rfl (by omega) ?_
      refine Rg.assign rfl rfl ?_
      refine Rg.nil ?_
      refine ⟨rfl, (i + 1, out ++ [fixF i x]), (.cons rfl (.cons rfl (.cons rfl (.cons rfl (.cons rfl .nil))))), ?_, ?_⟩
      ·exact ⟨_, _, hM, S, hu0, hpool, g2, m_g2, g3, m_g3, hvn, by rw [hgd, hga, if_pos c14], by dsimp only; omega, by dsimp only; omega, hsm.snoc hfx, by simp; omega⟩
      ·dsimp only; omega
     ·refine T.skip ?_
      refine T.region ?_
      refine Rg.move rfl rfl ?_
      refine Rg.iadd rfl rfl rfl (by omega) ?_
      refine Rg.assign rfl rfl ?_
      refine Rg.nil ?_
      refine ⟨rfl, (i + 1, out), (.cons rfl (.cons rfl (.cons rfl (.cons rfl (.cons rfl .nil))))), ?_, ?_⟩
      ·exact ⟨_, _, hM, S, hu0, hpool, g2, m_g2, g3, m_g3, hvo, by rw [hgd, hga, if_neg c14], by dsimp only; omega, by dsimp only; omega, hsm, by dsimp only; omega⟩
      ·dsimp only; omega
    ·rw [show x.1 = (fixF i x).1 from by show x.1 = if nameB x.1 = true then x.1 else _; rw [if_pos (by cases hq : nameB x.1 with | true => rfl | false => exact absurd hq c8)]] at g6_5
     refine T.skip ?_
     refine T.seq ?_
     refine T.region ?_
     refine Rg.fieldc (o' := 1) Tryz.underlying127 rfl rfl I9 (by decide) rfl rfl ?_
     refine Rg.loadc Tryz.underlying9 rfl rfl rfl (by assumption) rfl ?_
     refine Rg.fieldc (o' := 1) Tryz.underlying127 rfl rfl I9 (by decide) rfl rfl ?_
     refine Rg.loadc Tryz.underlying9 rfl rfl rfl (by assumption) rfl ?_
     refine Rg.lenstr Tryz.underlying9 rfl rfl ?_
     refine Rg.eqv (v' := .int .i64 (x.2.length : Int)) (by simp [ByteArray.size]) ?_
     refine Rg.min2 rfl rfl rfl ?_
     refine Rg.strTo Tryz.underlying9 rfl rfl rfl (by omega) ?_
     refine Rg.eqv (v' := .string ⟨((fixF i x).2).toArray⟩) (by rw [take_min]; rfl) ?_
     refine Rg.fieldc (o' := 1) Tryz.underlying127 rfl rfl I9 (by decide) rfl rfl ?_
     refine Rg.storec (M := M_6_5) I9 rfl rfl g6_5 rfl (rfl) m_g6_5 (fun w10_8 g10_8 s10_8 => ?_)
     change w10_8.heap[_]? = some (Obj.cells #[.string ⟨((fixF i x).1).toArray⟩, .string ⟨((fixF i x).2).toArray⟩] _ _) at g10_8
     have := lt_of_get g2
     replace m_g2 := (s10_8.mem _ this).2 m_g2
     replace g2 := s10_8.keep g2 (fun hk => by have hk : _ = _ := hk; omega)
     have := lt_of_get g3
     replace m_g3 := (s10_8.mem _ this).2 m_g3
     replace g3 := s10_8.keep g3 (fun hk => by have hk : _ = _ := hk; omega)
     have := lt_of_get g6_5
     replace m_g6_5 := (s10_8.mem _ this).2 m_g6_5
     replace hu0 := hu0.le (by decide) s10_8.le
     replace hpool := hpool.le s10_8.le
     replace hvo := hvo.le s10_8.le
     replace hM := s10_8.lt hM
     have := S.size
     replace S := S.trans s10_8 (fun k hk h => by have h : _ = _ := h; subst h; first | (exfalso; omega) | (show _ ≤ _; omega) | exact ⟨by omega, (S.mem _ hk).1 ((s10_8.mem _ (lt_of_get g6_5)).1 m_g6_5)⟩ | exact .inl rfl | exact .inr rfl | exact .inr (.inl rfl) | exact .inr (.inr rfl) | exact rfl)
     have g6_5_ := g10_8
     clear g6_5
     have g6_5 := g6_5_
     clear g6_5_
     refine Rg.nil ?_
     refine T.seq ?_
     refine T.region ?_
     refine Rg.fieldAddr (M := M_6_5) (A := RT.dc) (B := RT.int .i64) Tryz.underlying41 rfl rfl I3 (by decide) (dc0) rfl rfl (by decide) (by assumption) (by repeat (first | exact Le.refl _ _ | refine Le.trans (Step.le (by assumption)) ?_)) (fun u11_0 hu11_0 => ?_)
     refine Rg.loadi64 (M := M_6_5) Tryz.underlying3 rfl rfl (by assumption) (by repeat (first | exact Le.refl _ _ | refine Le.trans (Step.le (by assumption)) ?_)) (fun in11_1 => ?_)
     refine Rg.build (places := [(0, 1), (1, 1)]) Tryz.underlying41 I41 B41 rfl ⟨_, _, rfl, rfl, rfl⟩ (out := [_, .slice none 0 0]) ⟨0, [_], rfl, rfl, by simp [Value.cells], rfl⟩ ?_
     refine Rg.alloc M_6_5 I41 rfl (fun b11_3 w11_3 p11_3 q11_3 g11_3 s11_3 => ?_)
     obtain ⟨M_11_3, eM_11_3⟩ : ∃ M', M' = ins M_6_5 b11_3 := ⟨_, rfl⟩
     rw [← eM_11_3] at s11_3
     have m_g11_3 : M_11_3 b11_3 := by rw [eM_11_3]; exact .inl rfl
     change w11_3.heap[b11_3]? = some (.cells #[.int .i64 0, .slice none 0 0] _ _) at g11_3
     have := lt_of_get g2
     replace m_g2 := (s11_3.mem _ this).2 m_g2
     replace g2 := s11_3.same0 g2
     have := lt_of_get g3
     replace m_g3 := (s11_3.mem _ this).2 m_g3
     replace g3 := s11_3.same0 g3
     have := lt_of_get g6_5
     replace m_g6_5 := (s11_3.mem _ this).2 m_g6_5
     replace g6_5 := s11_3.same0 g6_5
     replace hu0 := hu0.le (by decide) s11_3.le
     replace hpool := hpool.le s11_3.le
     replace hvo := hvo.le s11_3.le
     replace hM := s11_3.lt hM
     have := S.size
     replace S := S.trans0 s11_3
     refine Rg.storeaggc (M := M_11_3) (vs := [.int .i64 d.1, .slice none 0 0]) I41 rfl rfl (by intro u hu; simp at hu; rcases hu with rfl | rfl <;> first | rfl | exact V_one (by assumption) rfl rfl) rfl rfl g11_3 m_g11_3 (fun w11b gx11b s11b => ?_) --@wrote s11b g11_3 gx11b
     have := lt_of_get g2
     replace m_g2 := (s11b.mem _ this).2 m_g2
     replace g2 := s11b.keep g2 (fun hk => by have hk : _ = _ := hk; omega)
     have := lt_of_get g3
     replace m_g3 := (s11b.mem _ this).2 m_g3
     replace g3 := s11b.keep g3 (fun hk => by have hk : _ = _ := hk; omega)
     have := lt_of_get g6_5
     replace m_g6_5 := (s11b.mem _ this).2 m_g6_5
     replace g6_5 := s11b.keep g6_5 (fun hk => by have hk : _ = _ := hk; omega)
     have := lt_of_get g11_3
     replace m_g11_3 := (s11b.mem _ this).2 m_g11_3
     replace hu0 := hu0.le (by decide) s11b.le
     replace hpool := hpool.le s11b.le
     replace hvo := hvo.le s11b.le
     replace hM := s11b.lt hM
     have := S.size
     replace S := S.trans s11b (fun k hk h => by have h : _ = _ := h; subst h; first | (exfalso; omega) | (show _ ≤ _; omega) | exact ⟨by omega, (S.mem _ hk).1 ((s11b.mem _ (lt_of_get g11_3)).1 m_g11_3)⟩ | exact .inl rfl | exact .inr rfl | exact .inr (.inl rfl) | exact .inr (.inr rfl) | exact rfl)
     have g11_3_ := gx11b
     clear g11_3
     have g11_3 := g11_3_
     clear g11_3_
     refine Rg.nil ?_
     refine T.seq ?_
     refine T.region ?_
     refine Rg.fieldc (o' := 1) Tryz.underlying41 rfl rfl I39 (by decide) rfl rfl ?_
     refine Rg.loadc Tryz.underlying39 rfl rfl rfl (by assumption) rfl ?_
     refine Rg.fieldc (o' := 1) Tryz.underlying41 rfl rfl I39 (by decide) rfl rfl ?_
     refine Rg.loadc Tryz.underlying39 rfl rfl rfl (by assumption) rfl ?_
     have hn12 := Own.nilOf RT.fd 127 w11b.heap.size hM
     have hb65 := lt_of_get g6_5
     have hw11 : w0.heap.size ≤ w11b.heap.size := S.size
     refine Rg.append (M := M_11_3) (base := w11b.heap.size) Tryz.underlying39 I127 rfl rfl rfl rfl hn12 hvo (Le.refl _ _) (by simp; omega) (by simp; omega) (Nat.le_refl _) (fun u12_4 M12_4 w12_4 ho12_4 s12_4 => ?_)
     have := lt_of_get g2
     replace m_g2 := (s12_4.mem _ this).2 m_g2
     replace g2 := s12_4.keep g2 (fun h => by first | exact hn12.notIter g2 h | exact hn12.neT g2 (by decide) h | (have := (hn12.base _ h).1; omega))
     have := lt_of_get g3
     replace m_g3 := (s12_4.mem _ this).2 m_g3
     replace g3 := s12_4.keep g3 (fun h => by first | exact hn12.notIter g3 h | exact hn12.neT g3 (by decide) h | (have := (hn12.base _ h).1; omega))
     have := lt_of_get g6_5
     replace m_g6_5 := (s12_4.mem _ this).2 m_g6_5
     replace g6_5 := s12_4.keep g6_5 (fun h => by first | exact hn12.notIter g6_5 h | exact hn12.neT g6_5 (by decide) h | (have := (hn12.base _ h).1; omega))
     have := lt_of_get g11_3
     replace m_g11_3 := (s12_4.mem _ this).2 m_g11_3
     replace g11_3 := s12_4.keep g11_3 (fun h => by first | exact hn12.notIter g11_3 h | exact hn12.neT g11_3 (by decide) h | (have := (hn12.base _ h).1; omega))
     replace hu0 := hu0.le (by decide) s12_4.le
     replace hpool := hpool.le s12_4.le
     replace hvo := hvo.le s12_4.le
     replace hM := s12_4.lt hM
     have := S.size
     replace S := S.transBlk s12_4 hn12 hw11
     replace hn12 := ho12_4
     refine Rg.fieldc (o' := 1) Tryz.underlying41 rfl rfl I39 (by decide) rfl rfl ?_
     refine Rg.storec (M := M12_4) I39 rfl rfl g11_3 rfl ((by obtain ⟨_, _, he, _⟩ := hn12.isSlice; rw [he]; rfl)) m_g11_3 (fun w12_6 g12_6 s12_6 => ?_)
     change w12_6.heap[_]? = some (Obj.cells #[.int .i64 d.1, u12_4] _ _) at g12_6
     have := lt_of_get g2
     replace m_g2 := (s12_6.mem _ this).2 m_g2
     replace g2 := s12_6.keep g2 (fun hk => by have hk : _ = _ := hk; omega)
     have := lt_of_get g3
     replace m_g3 := (s12_6.mem _ this).2 m_g3
     replace g3 := s12_6.keep g3 (fun hk => by have hk : _ = _ := hk; omega)
     have := lt_of_get g6_5
     replace m_g6_5 := (s12_6.mem _ this).2 m_g6_5
     replace g6_5 := s12_6.keep g6_5 (fun hk => by have hk : _ = _ := hk; omega)
     have := lt_of_get g11_3
     replace m_g11_3 := (s12_6.mem _ this).2 m_g11_3
     replace hu0 := hu0.le (by decide) s12_6.le
     replace hpool := hpool.le s12_6.le
     replace hvo := hvo.le s12_6.le
     replace hn12 := hn12.step s12_6 (fun b hb hk => by have hk : _ = _ := hk; have := (hn12.base b hb); omega)
     replace hM := s12_6.lt hM
     have := S.size
     replace S := S.trans s12_6 (fun k hk h => by have h : _ = _ := h; subst h; first | (exfalso; omega) | (show _ ≤ _; omega) | exact ⟨by omega, (S.mem _ hk).1 ((s12_6.mem _ (lt_of_get g11_3)).1 m_g11_3)⟩ | exact .inl rfl | exact .inr rfl | exact .inr (.inl rfl) | exact .inr (.inr rfl) | exact rfl)
     have g11_3_ := g12_6
     clear g11_3
     have g11_3 := g11_3_
     clear g11_3_
     refine Rg.nil ?_
     refine T.seq ?_
     refine T.region ?_
     refine Rg.fieldc (o' := 1) Tryz.underlying41 rfl rfl I39 (by decide) rfl rfl ?_
     refine Rg.loadc Tryz.underlying39 rfl rfl rfl (by assumption) rfl ?_
     refine Rg.loadaggc (vs := [.string ⟨((fixF i x).1).toArray⟩, .string ⟨((fixF i x).2).toArray⟩]) Tryz.underlying127 rfl I127 rfl rfl rfl g6_5 ?_
     refine Rg.sl1 (A := RT.fd) (hn := by decide) (M := M12_4) Tryz.underlying39 I127 (by decide) rfl rfl hM (show RT.fd.V _ _ (fixF i x) _ from V_pair_mk (V_str.2 ⟨rfl, Nat.le_trans hfx.1 (by decide)⟩) (V_str.2 ⟨rfl, Nat.le_trans hfx.2 (by decide)⟩) rfl rfl rfl rfl) (.inl rfl) (fun u13_3 w13_3 hu13_3 s13_3 => ?_)
     have := lt_of_get g2
     replace m_g2 := (s13_3.mem _ this).2 m_g2
     replace g2 := s13_3.same0 g2
     have := lt_of_get g3
     replace m_g3 := (s13_3.mem _ this).2 m_g3
     replace g3 := s13_3.same0 g3
     have := lt_of_get g6_5
     replace m_g6_5 := (s13_3.mem _ this).2 m_g6_5
     replace g6_5 := s13_3.same0 g6_5
     have := lt_of_get g11_3
     replace m_g11_3 := (s13_3.mem _ this).2 m_g11_3
     replace g11_3 := s13_3.same0 g11_3
     replace hu0 := hu0.le (by decide) s13_3.le
     replace hpool := hpool.le s13_3.le
     replace hvo := hvo.le s13_3.le
     replace hn12 := hn12.step0 s13_3
     replace hM := s13_3.lt hM
     have := S.size
     replace S := S.trans0 s13_3
     refine Rg.append (M := M12_4) (base := w11b.heap.size) Tryz.underlying39 I127 rfl rfl rfl rfl hn12 hu13_3 (Le.refl _ _) (by simp; omega) (by simp; omega) (by have := s12_4.size; have := s12_6.size; have := s13_3.size; omega) (fun u13_4 M13_4 w13_4 ho13_4 s13_4 => ?_)
     have := lt_of_get g2
     replace m_g2 := (s13_4.mem _ this).2 m_g2
     replace g2 := s13_4.keep g2 (fun h => by first | exact hn12.notIter g2 h | exact hn12.neT g2 (by decide) h | (have := (hn12.base _ h).1; omega))
     have := lt_of_get g3
     replace m_g3 := (s13_4.mem _ this).2 m_g3
     replace g3 := s13_4.keep g3 (fun h => by first | exact hn12.notIter g3 h | exact hn12.neT g3 (by decide) h | (have := (hn12.base _ h).1; omega))
     have := lt_of_get g6_5
     replace m_g6_5 := (s13_4.mem _ this).2 m_g6_5
     replace g6_5 := s13_4.keep g6_5 (fun h => by first | exact hn12.notIter g6_5 h | exact hn12.neT g6_5 (by decide) h | (have := (hn12.base _ h).1; omega))
     have := lt_of_get g11_3
     replace m_g11_3 := (s13_4.mem _ this).2 m_g11_3
     replace g11_3 := s13_4.keep g11_3 (fun h => by first | exact hn12.notIter g11_3 h | exact hn12.neT g11_3 (by decide) h | (have := (hn12.base _ h).1; omega))
     replace hu0 := hu0.le (by decide) s13_4.le
     replace hpool := hpool.le s13_4.le
     replace hvo := hvo.le s13_4.le
     replace hu13_3 := hu13_3.le s13_4.le
     replace hM := s13_4.lt hM
     have := S.size
     replace S := S.transBlk s13_4 hn12 hw11
     replace hn12 := ho13_4
     refine Rg.fieldc (o' := 1) Tryz.underlying41 rfl rfl I39 (by decide) rfl rfl ?_
     refine Rg.storec (M := M13_4) I39 rfl rfl g11_3 rfl ((by obtain ⟨_, _, he, _⟩ := hn12.isSlice; rw [he]; rfl)) m_g11_3 (fun w13_6 g13_6 s13_6 => ?_)
     change w13_6.heap[_]? = some (Obj.cells #[.int .i64 d.1, u13_4] _ _) at g13_6
     have := lt_of_get g2
     replace m_g2 := (s13_6.mem _ this).2 m_g2
     replace g2 := s13_6.keep g2 (fun hk => by have hk : _ = _ := hk; omega)
     have := lt_of_get g3
     replace m_g3 := (s13_6.mem _ this).2 m_g3
     replace g3 := s13_6.keep g3 (fun hk => by have hk : _ = _ := hk; omega)
     have := lt_of_get g6_5
     replace m_g6_5 := (s13_6.mem _ this).2 m_g6_5
     replace g6_5 := s13_6.keep g6_5 (fun hk => by have hk : _ = _ := hk; omega)
     have := lt_of_get g11_3
     replace m_g11_3 := (s13_6.mem _ this).2 m_g11_3
     replace hu0 := hu0.le (by decide) s13_6.le
     replace hpool := hpool.le s13_6.le
     replace hvo := hvo.le s13_6.le
     replace hu13_3 := hu13_3.le s13_6.le
     replace hn12 := hn12.step s13_6 (fun b hb hk => by have hk : _ = _ := hk; have := (hn12.base b hb); omega)
     replace hM := s13_6.lt hM
     have := S.size
     replace S := S.trans s13_6 (fun k hk h => by have h : _ = _ := h; subst h; first | (exfalso; omega) | (show _ ≤ _; omega) | exact ⟨by omega, (S.mem _ hk).1 ((s13_6.mem _ (lt_of_get g11_3)).1 m_g11_3)⟩ | exact .inl rfl | exact .inr rfl | exact .inr (.inl rfl) | exact .inr (.inr rfl) | exact rfl)
     have g11_3_ := g13_6
     clear g11_3
     have g11_3 := g11_3_
     clear g11_3_
     refine Rg.nil ?_
     refine T.seq ?_
     refine T.region ?_
     refine Rg.loadaggc (vs := [.int .i64 d.1, u13_4]) Tryz.underlying41 rfl I41 rfl rfl rfl g11_3 ?_ --@freeze hn12 u13_4 hvn
     have hvn := hn12.view (hn := by decide) (by simp; omega)
     replace m_g2 : rm M13_4 u13_4 _ := ⟨m_g2, by first | exact hn12.neT g2 (by decide) | (intro h; have := (hn12.base _ h).1; omega)⟩
     replace m_g3 : rm M13_4 u13_4 _ := ⟨m_g3, by first | exact hn12.neT g3 (by decide) | (intro h; have := (hn12.base _ h).1; omega)⟩
     replace m_g6_5 : rm M13_4 u13_4 _ := ⟨m_g6_5, by first | exact hn12.neT g6_5 (by decide) | (intro h; have := (hn12.base _ h).1; omega)⟩
     replace m_g11_3 : rm M13_4 u13_4 _ := ⟨m_g11_3, by first | exact hn12.neT g11_3 (by decide) | (intro h; have := (hn12.base _ h).1; omega)⟩
     replace hu0 := hu0.le (by decide) (le_rm _ u13_4 _)
     replace hpool := hpool.le (le_rm _ u13_4 _)
     replace hvo := hvo.le (le_rm _ u13_4 _)
     replace hu13_3 := hu13_3.le (le_rm _ u13_4 _)
     replace hM : Lt (rm M13_4 u13_4) _ := fun b hb => hM b hb.1
     replace S := S.freeze (v := u13_4) (fun b hb => by have := (hn12.base b hb).1; omega)
     clear hn12
     refine Rg.call rfl rfl E117 (rmay_spec (d := (d.1, [] ++ out ++ [fixF i x])) _ hM (V_pair_mk (V_i64 hdi) hvn rfl rfl rfl rfl) (fun y hy => by have := (hsm.snoc hfx) y (by simpa using hy); omega)) (fun r14 w14 hc => ?_)
     obtain ⟨rfl, s14⟩ := hc
     rw [List.nil_append] at hvn --@step s14
     have := lt_of_get g2
     replace m_g2 := (s14.mem _ this).2 m_g2
     replace g2 := s14.same0 g2
     have := lt_of_get g3
     replace m_g3 := (s14.mem _ this).2 m_g3
     replace g3 := s14.same0 g3
     have := lt_of_get g6_5
     replace m_g6_5 := (s14.mem _ this).2 m_g6_5
     replace g6_5 := s14.same0 g6_5
     have := lt_of_get g11_3
     replace m_g11_3 := (s14.mem _ this).2 m_g11_3
     replace g11_3 := s14.same0 g11_3
     replace hu0 := hu0.le (by decide) s14.le
     replace hpool := hpool.le s14.le
     replace hvo := hvo.le s14.le
     replace hu13_3 := hu13_3.le s14.le
     replace hvn := hvn.le s14.le
     replace hM := s14.lt hM
     have := S.size
     replace S := S.trans0 s14
     refine Rg.ieq rfl rfl rfl ?_
     refine Rg.eqv (v' := .bool (decide (mayD (d.1, out ++ [fixF i x]) = 0))) (by rw [List.nil_append]) ?_
     refine Rg.nil ?_
     refine T.ifp rfl (fun c14 => ?_) (fun c14 => ?_)
     ·refine T.region ?_
      refine Rg.loadaggc (vs := [.int .i64 d.1, u13_4]) Tryz.underlying41 rfl I41 rfl rfl rfl g11_3 ?_
      refine Rg.storeaggc (M := rm M13_4 u13_4) (vs := [.int .i64 d.1, u13_4]) I41 rfl rfl (by intro u hu; simp at hu; rcases hu with rfl | rfl <;> first | rfl | exact V_one (by assumption) rfl rfl) rfl rfl g3 m_g3 (fun w15b gx15b s15b => ?_) --@wrote s15b g3 gx15b
      have := lt_of_get g2
      replace m_g2 := (s15b.mem _ this).2 m_g2
      replace g2 := s15b.keep g2 (fun hk => by have hk : _ = _ := hk; omega)
      have := lt_of_get g3
      replace m_g3 := (s15b.mem _ this).2 m_g3
      have := lt_of_get g6_5
      replace m_g6_5 := (s15b.mem _ this).2 m_g6_5
      replace g6_5 := s15b.keep g6_5 (fun hk => by have hk : _ = _ := hk; omega)
      have := lt_of_get g11_3
      replace m_g11_3 := (s15b.mem _ this).2 m_g11_3
      replace g11_3 := s15b.keep g11_3 (fun hk => by have hk : _ = _ := hk; omega)
      replace hu0 := hu0.le (by decide) s15b.le
      replace hpool := hpool.le s15b.le
      replace hvo := hvo.le s15b.le
      replace hu13_3 := hu13_3.le s15b.le
      replace hvn := hvn.le s15b.le
      replace hM := s15b.lt hM
      have := S.size
      replace S := S.trans s15b (fun k hk h => by have h : _ = _ := h; subst h; first | (exfalso; omega) | (show _ ≤ _; omega) | exact ⟨by omega, (S.mem _ hk).1 ((s15b.mem _ (lt_of_get g3)).1 m_g3)⟩ | exact .inl rfl | exact .inr rfl | exact .inr (.inl rfl) | exact .inr (.inr rfl) | exact rfl)
      have g3_ := gx15b
      clear g3
      have g3 := g3_
      clear g3_
      refine Rg.nil ?_
      refine T.region ?_
      refine Rg.move rfl rfl ?_
      refine Rg.iadd rfl rfl rfl (by omega) ?_
      refine Rg.assign rfl rfl ?_
      refine Rg.nil ?_
      refine ⟨rfl, (i + 1, out ++ [fixF i x]), (.cons rfl (.cons rfl (.cons rfl (.cons rfl (.cons rfl .nil))))), ?_, ?_⟩
      ·exact ⟨_, _, hM, S, hu0, hpool, g2, m_g2, g3, m_g3, hvn, by rw [hgd, hga, if_pos c14], by dsimp only; omega, by dsimp only; omega, hsm.snoc hfx, by simp; omega⟩
      ·dsimp only; omega
     ·refine T.skip ?_
      refine T.region ?_
      refine Rg.move rfl rfl ?_
      refine Rg.iadd rfl rfl rfl (by omega) ?_
      refine Rg.assign rfl rfl ?_
      refine Rg.nil ?_
      refine ⟨rfl, (i + 1, out), (.cons rfl (.cons rfl (.cons rfl (.cons rfl (.cons rfl .nil))))), ?_, ?_⟩
      ·exact ⟨_, _, hM, S, hu0, hpool, g2, m_g2, g3, m_g3, hvo, by rw [hgd, hga, if_neg c14], by dsimp only; omega, by dsimp only; omega, hsm, by dsimp only; omega⟩
      ·dsimp only; omega
   ·refine T.exit ?_
    refine T.seq ?_
    refine T.region ?_
    refine Rg.loadaggc (vs := [.int .i64 d.1, uo]) Tryz.underlying41 rfl I41 rfl rfl rfl g3 ?_
    refine Rg.storeaggc (M := M1) (vs := [.int .i64 d.1, uo]) I41 rfl rfl (by intro u hu; simp at hu; rcases hu with rfl | rfl <;> first | rfl | exact V_one (by assumption) rfl rfl) rfl rfl g2 m_g2 (fun w16b gx16b s16b => ?_) --@wrote s16b g2 gx16b
    have := lt_of_get g2
    replace m_g2 := (s16b.mem _ this).2 m_g2
    have := lt_of_get g3
    replace m_g3 := (s16b.mem _ this).2 m_g3
    replace g3 := s16b.keep g3 (fun hk => by have hk : _ = _ := hk; omega)
    replace hu0 := hu0.le (by decide) s16b.le
    replace hpool := hpool.le s16b.le
    replace hvo := hvo.le s16b.le
    replace hM := s16b.lt hM
    have := S.size
    replace S := S.trans s16b (fun k hk h => by have h : _ = _ := h; subst h; first | (exfalso; omega) | (show _ ≤ _; omega) | exact ⟨by omega, (S.mem _ hk).1 ((s16b.mem _ (lt_of_get g2)).1 m_g2)⟩ | exact .inl rfl | exact .inr rfl | exact .inr (.inl rfl) | exact .inr (.inr rfl) | exact rfl)
    have g2_ := gx16b
    clear g2
    have g2 := g2_
    clear g2_
    refine Rg.nil ?_
    refine T.ret ?_
    have e : goodD d = (d.1, out) := by rw [goodD, hgd, goodF_end (by omega)]
    rw [e]
    refine KretC1 (vs := [.int .i64 d.1, uo]) rfl rfl Tryz.underlying41 rfl I41 rfl g2 ⟨V_pair_mk (V_i64 hdi) (hvo.le (Le.close hM0 S)) rfl rfl rfl rfl, S.back⟩
  ·refine Rg.gno rfl rfl rfl rfl ?_
   refine Rg.gno rfl rfl rfl rfl ?_
   refine Rg.pickf rfl rfl rfl ?_
   refine Rg.nil ?_
   refine T.iff rfl ?_
   refine T.exit ?_
   refine T.seq ?_
   refine T.region ?_
   refine Rg.loadaggc (vs := [.int .i64 d.1, uo]) Tryz.underlying41 rfl I41 rfl rfl rfl g3 ?_
   refine Rg.storeaggc (M := M1) (vs := [.int .i64 d.1, uo]) I41 rfl rfl (by intro u hu; simp at hu; rcases hu with rfl | rfl <;> first | rfl | exact V_one (by assumption) rfl rfl) rfl rfl g2 m_g2 (fun w16b gx16b s16b => ?_) --@wrote s16b g2 gx16b
   have := lt_of_get g2
   replace m_g2 := (s16b.mem _ this).2 m_g2
   have := lt_of_get g3
   replace m_g3 := (s16b.mem _ this).2 m_g3
   replace g3 := s16b.keep g3 (fun hk => by have hk : _ = _ := hk; omega)
   replace hu0 := hu0.le (by decide) s16b.le
   replace hpool := hpool.le s16b.le
   replace hvo := hvo.le s16b.le
   replace hM := s16b.lt hM
   have := S.size
   replace S := S.trans s16b (fun k hk h => by have h : _ = _ := h; subst h; first | (exfalso; omega) | (show _ ≤ _; omega) | exact ⟨by omega, (S.mem _ hk).1 ((s16b.mem _ (lt_of_get g2)).1 m_g2)⟩ | exact .inl rfl | exact .inr rfl | exact .inr (.inl rfl) | exact .inr (.inr rfl) | exact rfl)
   have g2_ := gx16b
   clear g2
   have g2 := g2_
   clear g2_
   refine Rg.nil ?_
   refine T.ret ?_
   have e : goodD d = (d.1, out) := by rw [goodD, hgd, goodF_end (by omega)]
   rw [e]
   refine KretC1 (vs := [.int .i64 d.1, uo]) rfl rfl Tryz.underlying41 rfl I41 rfl g2 ⟨V_pair_mk (V_i64 hdi) (hvo.le (Le.close hM0 S)) rfl rfl rfl rfl, S.back⟩
end Go.K
namespace Go.K
open Go.Proofs
set_option linter.unusedVariables false
set_option linter.unusedSimpArgs false
set_option maxRecDepth 10000
def goodE (l : List Dc) (from_ step : Int) : Nat → List En
 |0 => []
 |k + 1 => goodE l from_ step k ++ (match l[k]? with | some d => [(goodD d, from_ + step * (k : Int))] | none => [])
theorem goodE_len (l : List Dc) (a s : Int) : ∀ k, (goodE l a s k).length = min k l.length
 |0 => by simp [goodE]
 |k + 1 => by
  rw [goodE, List.length_append, goodE_len l a s k]
  cases h : l[k]? with
  |none => have := List.getElem?_eq_none_iff.1 h; simp; omega
  |some d => have := (List.getElem?_eq_some_iff.1 h).1; simp; omega
theorem goodE_succ {l : List Dc} {a s : Int} {k : Nat} {d : Dc} (h : l[k]? = some d) : goodE l a s (k + 1) = goodE l a s k ++ [(goodD d, a + s * (k : Int))] := by rw [goodE, h]
theorem goodE_over {l : List Dc} {a s : Int} {k : Nat} (h : l.length ≤ k) : goodE l a s (k + 1) = goodE l a s k := by
 rw [goodE, List.getElem?_eq_none_iff.2 h]; simp
theorem goodE_at {l : List Dc} {a s : Int} {n i : Nat} (h : l.length ≤ i ∨ n ≤ i) (h1 : i ≤ n) : goodE l a s i = goodE l a s n := by
 induction n with
 |zero => have : i = 0 := by omega
          rw [this]
 |succ n ih =>
  rcases Nat.eq_or_lt_of_le h1 with e | hlt
  ·rw [e]
  ·rcases h with h | h
   ·rw [goodE_over (by omega)]; exact ih (.inl h) (by omega)
   ·omega
theorem mul_rng {s k : Int} (h : 0 ≤ s ∧ s ≤ 1000) (hk : 0 ≤ k ∧ k ≤ 100) : 0 ≤ s * k ∧ s * k ≤ 100000 :=
 ⟨Int.mul_nonneg h.1 hk.1, Int.le_trans (Int.mul_le_mul h.2 hk.2 hk.1 (by omega)) (by omega)⟩
theorem good9_spec {M : PSet} {l : List Dc} {v0 : Value} {most : Nat} {a s : Int} (w0 : World) (hM : Lt M w0) (hv : (RT.dc.sl).V M w0 l v0) (hm : most ≤ 100) (ha : 0 ≤ a ∧ a ≤ 1000000) (hs : 0 ≤ s ∧ s ≤ 1000) :
  Spec Tryz.prog 21 #[v0, .int .i64 (most : Int), .int .i64 a, .int .i64 s] w0 (fun v w => (RT.en.sl).V M w (goodE l a s most) v ∧ Step M w0 M w none') := by
 have hM0 := hM
 refine spec_of (args := [_, _, _, _]) (fn := Tryz.f21) Tryz.func21 rfl (n := 37) Tryz.ntmps21 ?_
 have S : Step M w0 M w0 none' := (Step.refl _ _).widen (fun _ h => h.elim) (fun _ h => h.elim)
 refine T.seq ?_
 refine T.region ?_
 refine Rg.assign rfl rfl ?_
 refine Rg.nil ?_
 refine T.seq ?_
 refine T.region ?_
 refine Rg.assign rfl rfl ?_
 refine Rg.nil ?_
 refine T.seq ?_
 refine T.seq ?_
 refine T.region ?_
 refine Rg.assign rfl rfl ?_
 refine Rg.nil ?_
 refine T.block ?_
 refine T.loop (σ := Nat × Value) (fun q => [(0, v0), (1, .int .i64 (most : Int)), (2, .int .i64 a), (3, .int .i64 s), (9, q.2), (10, .int .i64 (q.1 : Int))]) (fun q w => ∃ M', Lt M' w ∧ Step M w0 M' w none' ∧ Own RT.en 43 M' w w0.heap.size q.2 (goodE l a s q.1) ∧ (RT.dc.sl).V M' w l v0 ∧ q.1 ≤ most ∧ q.1 ≤ l.length) (fun q => most - q.1) (0, .slice none 0 0) (.cons rfl (.cons rfl (.cons rfl (.cons rfl (.cons rfl (.cons rfl .nil)))))) ?_ ?_
 ·exact ⟨M, hM, S, Own.nil _ _ _ _ _, hv, Nat.zero_le _, Nat.zero_le _⟩
 ·rintro ⟨i, u⟩ w ⟨M1, hM, S, ho, hv, hi, hil⟩
  dsimp only at ho hi hil ⊢
  refine T.seq ?_
  refine T.seq ?_
  refine T.region ?_
  refine Rg.move rfl rfl ?_
  refine Rg.move rfl rfl ?_
  refine Rg.lensl Tryz.underlying36 rfl hv rfl ?_
  refine Rg.ilt rfl rfl rfl ?_
  refine Rg.move rfl rfl ?_
  refine Rg.gsplitp (g := 15) rfl (fun g3_4 => ?_) (fun g3_4 => ?_)
  ·refine Rg.gyes rfl rfl ?_
   refine Rg.move rfl rfl ?_
   refine Rg.gyes rfl rfl ?_
   refine Rg.move rfl rfl ?_
   refine Rg.gyes rfl rfl ?_
   refine Rg.ilt rfl rfl rfl ?_
   refine Rg.pickt rfl rfl rfl ?_
   refine Rg.nil ?_
   refine T.ifp rfl (fun c3 => ?_) (fun c3 => ?_)
   ·refine T.skip ?_
    refine T.seq ?_
    refine T.block ?_
    refine T.region ?_
    refine Rg.move rfl rfl ?_
    refine Rg.move rfl rfl ?_
    refine Rg.move rfl rfl ?_
    refine Rg.idx (M := M1) Tryz.underlying36 I41 rfl rfl rfl hv (Le.refl _ _) (by omega) (fun u5 d hg5 hu5 => ?_)
    rw [Int.toNat_natCast] at hg5
    have hsi := mul_rng (k := (i : Int)) hs (by omega) --@ptr RT.dc ;; d
    refine Rg.loadagg (M := M1) (A := RT.dc) Tryz.underlying41 rfl I41 (by decide) rfl rfl rfl hu5 (Le.refl _ _) (fun v5 hv5 => ?_)
    refine Rg.call rfl rfl E65 (good_spec _ hM hv5) (fun r5 w5 hc => ?_)
    obtain ⟨hgd, s5⟩ := hc --@step s5
    --@vf hgd
    replace hv := hv.le s5.le
    replace ho := ho.step0 s5
    replace hM := s5.lt hM
    have := S.size
    replace S := S.trans0 s5
    refine Rg.move rfl rfl ?_
    refine Rg.move rfl rfl ?_
    refine Rg.move rfl rfl ?_
    refine Rg.imul rfl rfl rfl (by omega) ?_
    refine Rg.iadd rfl rfl rfl (by omega) ?_
    obtain ⟨uf, rfl⟩ := dc_val hgd
    refine Rg.build (places := [(0, 2), (2, 1)]) Tryz.underlying43 I43 B43 rfl ⟨_, _, rfl, rfl, _, _, rfl, rfl, rfl⟩ (out := [_, _, _]) ⟨0, [_, _], rfl, rfl, by simp [Value.cells], 2, [_], rfl, rfl, by simp [Value.cells], rfl⟩ ?_
    refine Rg.sl1 (A := RT.en) (hn := by decide) (M := M1) Tryz.underlying37 I43 (by decide) rfl rfl hM (show RT.en.V _ _ (goodD d, a + s * (i : Int)) _ from en_mk hgd (by omega)) (.inl rfl) (fun u5_12 w5_12 hu5_12 s5_12 => ?_)
    replace hv := hv.le s5_12.le
    replace hgd := hgd.le s5_12.le
    replace ho := ho.step0 s5_12
    replace hM := s5_12.lt hM
    have := S.size
    replace S := S.trans0 s5_12
    refine Rg.append (M := M1) (base := w0.heap.size) Tryz.underlying37 I43 rfl rfl rfl rfl ho hu5_12 (Le.refl _ _) (by have := goodE_len l a s i; simp; omega) (by have := goodE_len l a s i; simp; omega) (S.size) (fun u5_13 M5_13 w5_13 ho5_13 s5_13 => ?_)
    replace hv := hv.le s5_13.le
    replace hgd := hgd.le s5_13.le
    replace hu5_12 := hu5_12.le s5_13.le
    replace hM := s5_13.lt hM
    have := S.size
    replace S := S.transBlk s5_13 ho (Nat.le_refl _)
    replace ho := ho5_13
    refine Rg.assign rfl rfl ?_
    refine Rg.nil ?_
    refine T.region ?_
    refine Rg.move rfl rfl ?_
    refine Rg.iadd rfl rfl rfl (by omega) ?_
    refine Rg.assign rfl rfl ?_
    refine Rg.nil ?_
    refine ⟨rfl, (i + 1, u5_13), (.cons rfl (.cons rfl (.cons rfl (.cons rfl (.cons rfl (.cons rfl .nil)))))), ?_, ?_⟩
    ·exact ⟨M5_13, hM, S, by rw [goodE_succ hg5]; exact ho, hv, by dsimp only; omega, by dsimp only; omega⟩
    ·dsimp only; omega
   ·refine T.exit ?_
    refine T.seq ?_
    refine T.region ?_
    refine Rg.move rfl rfl ?_
    refine Rg.assign rfl rfl ?_
    refine Rg.nil ?_
    refine T.ret ?_
    rw [← goodE_at (i := i) (n := most) (by omega) hi]
    exact Kret1 rfl rfl ⟨ho.close hM0 S (by have := goodE_len l a s i; omega), S.back⟩
  ·refine Rg.gno rfl rfl rfl rfl ?_
   refine Rg.gno rfl rfl rfl rfl ?_
   refine Rg.gno rfl rfl rfl rfl ?_
   refine Rg.pickf rfl rfl rfl ?_
   refine Rg.nil ?_
   refine T.iff rfl ?_
   refine T.exit ?_
   refine T.seq ?_
   refine T.region ?_
   refine Rg.move rfl rfl ?_
   refine Rg.assign rfl rfl ?_
   refine Rg.nil ?_
   refine T.ret ?_
   rw [← goodE_at (i := i) (n := most) (by omega) hi]
   exact Kret1 rfl rfl ⟨ho.close hM0 S (by have := goodE_len l a s i; omega), S.back⟩
end Go.K
namespace Go.K
set_option linter.unusedVariables false
set_option linter.unusedSimpArgs false
open Go.Maps (Keyed)
structure MapW (P : Program) (kt : TypeId) (w : World) (b : Nat) (es : List MapEntry) (clock : Nat) : Prop where
 at_ : w.heap[b]? = some (.map es.toArray clock)
 born : es.Pairwise fun x y => x.born ≠ y.born
 lt : ∀ e ∈ es, e.born < clock
 keys : es.Pairwise fun x y => x.key ≠ y.key
 ok : ∀ e ∈ es, ∃ l, keyOf P kt e.key = some l
def ValAt (zv : Value) (es : List MapEntry) (key v : Value) : Prop := (∃ e ∈ es, e.key = key ∧ v = e.val) ∨ ((∀ e ∈ es, e.key ≠ key) ∧ v = zv)
section
variable {P : Program} {kt : TypeId} {w : World} {b clock : Nat} {es : List MapEntry}
theorem MapW.step {M M' N : PSet} {w' : World} (h : MapW P kt w b es clock) (s : Step M w M' w' N) (hn : ¬ N b) : MapW P kt w' b es clock := ⟨s.keep h.at_ hn, h.born, h.lt, h.keys, h.ok⟩
theorem MapW.step0 {M M' : PSet} {w' : World} (h : MapW P kt w b es clock) (s : Step M w M' w' none') : MapW P kt w' b es clock := h.step s fun h => h
theorem pair_idx {α : Type} {R : α → α → Prop} {l : List α} (h : l.Pairwise R) {i j : Nat} {x y : α} (hi : l[i]? = some x) (hj : l[j]? = some y) (hij : i < j) : R x y := by
 obtain ⟨h1, h2⟩ := List.getElem?_eq_some_iff.1 hi
 obtain ⟨h3, h4⟩ := List.getElem?_eq_some_iff.1 hj
 have := List.pairwise_iff_getElem.1 h i j h1 h3 hij
 rwa [h2, h4] at this
theorem MapW.key_one (h : MapW P kt w b es clock) {x y : MapEntry} (hx : x ∈ es) (hy : y ∈ es) (e : x.key = y.key) : x = y := by
 obtain ⟨i, hi⟩ := List.mem_iff_getElem?.1 hx
 obtain ⟨j, hj⟩ := List.mem_iff_getElem?.1 hy
 rcases Nat.lt_trichotomy i j with h1 | h1 | h1
 ·exact absurd e (pair_idx h.keys hi hj h1)
 ·subst h1; rw [hi] at hj; exact Option.some.inj hj
 ·exact absurd e.symm (pair_idx h.keys hj hi h1)
theorem MapW.born_one (h : MapW P kt w b es clock) {i j : Nat} {x y : MapEntry} (hi : es[i]? = some x) (hj : es[j]? = some y) (e : x.born = y.born) : i = j := by
 rcases Nat.lt_trichotomy i j with h1 | h1 | h1
 ·exact absurd e (pair_idx h.born hi hj h1)
 ·exact h1
 ·exact absurd e.symm (pair_idx h.born hj hi h1)
theorem MapW.val_one (h : MapW P kt w b es clock) {zv key v v' : Value} (h1 : ValAt zv es key v) (h2 : ValAt zv es key v') : v = v' := by
 rcases h1 with ⟨e, he, hk, hv⟩ | ⟨hn, hv⟩
 ·rcases h2 with ⟨e', he', hk', hv'⟩ | ⟨hn', _⟩
  ·have := h.key_one he he' (hk.trans hk'.symm)
   rw [hv, hv', this]
  ·exact absurd hk (hn' e he)
 ·rcases h2 with ⟨e', he', hk', _⟩ | ⟨_, hv'⟩
  ·exact absurd hk' (hn e' he')
  ·rw [hv, hv']
theorem run_getObj_map' {r : Nat} {a : Array MapEntry} {c : Nat} (hb : w.heap[r]? = some (.map a c)) : (getObj r).run P w = .ok (.map a c) w := by simp [getObj, Sem.run, hb]
theorem run_setObj_map {r : Nat} {a : Array MapEntry} {c : Nat} {o : Obj} (hb : w.heap[r]? = some (.map a c)) : (setObj r o).run P w = .ok () { w with heap := w.heap.setIfInBounds r o } := by simp [setObj, Sem.run, hb]
theorem MapW.push (h : MapW P kt w b es clock) {key v : Value} {kl : Lit} (hkey : keyOf P kt key = some kl) (hn : ∀ e ∈ es, e.key ≠ key) {w' : World} (hw : w'.heap[b]? = some (.map (es ++ ([⟨key, v, clock⟩] : List MapEntry)).toArray (clock + 1))) : MapW P kt w' b (es ++ [⟨key, v, clock⟩]) (clock + 1) :=
 ⟨hw, List.pairwise_append.2 ⟨h.born, List.pairwise_singleton _ _, fun x hx y hy => by rw [List.mem_singleton.1 hy]; have := h.lt x hx; show x.born ≠ clock; omega⟩, (fun e he => by
  rcases List.mem_append.1 he with he | he
  ·have := h.lt e he; omega
  ·rw [List.mem_singleton.1 he]; exact Nat.lt_succ_self _), List.pairwise_append.2 ⟨h.keys, List.pairwise_singleton _ _, fun x hx y hy => by rw [List.mem_singleton.1 hy]; exact hn x hx⟩, (fun e he => by
  rcases List.mem_append.1 he with he | he
  ·exact h.ok e he
  ·rw [List.mem_singleton.1 he]; exact ⟨kl, hkey⟩)⟩
theorem ValAt.push {zv key : Value} {s : Nat} (hn : ∀ e ∈ es, e.key ≠ key) (key' v' : Value) : ValAt zv (es ++ [⟨key, zv, s⟩]) key' v' ↔ ValAt zv es key' v' := by
 constructor
 ·rintro (⟨e, he, hk, hv⟩ | ⟨h1, h2⟩)
  ·rcases List.mem_append.1 he with he | he
   ·exact .inl ⟨e, he, hk, hv⟩
   ·rw [List.mem_singleton.1 he] at hk hv
    exact .inr ⟨fun e he => by rw [← hk]; exact hn e he, hv⟩
  ·exact .inr ⟨fun e he => h1 e (List.mem_append_left _ he), h2⟩
 ·rintro (⟨e, he, hk, hv⟩ | ⟨h1, h2⟩)
  ·exact .inl ⟨e, List.mem_append_left _ he, hk, hv⟩
  ·by_cases hk : key = key'
   ·exact .inl ⟨⟨key, zv, s⟩, by simp, hk, h2⟩
   ·exact .inr ⟨fun e he => by
     rcases List.mem_append.1 he with he | he
     ·exact h1 e he
     ·rw [List.mem_singleton.1 he]; exact hk, h2⟩
end
section
variable {P : Program} {r : Option Nat} {n : Nat} {L : Sl} {ds : List Deferred} {w : World} {K : Kt} {ops : Array Oper} {rest : List Oper} {d : Nat} {x y z : Operand} {ty : TypeId} {pos : String} {af : Array Edge}
variable {kt : TypeId} {M : PSet} {b clock : Nat} {es : List MapEntry}
theorem Rg.makeMapW {t e : TypeId} (M : PSet) (ht : P.underlying t = some (.map kt e)) (hd : Nat.blt d n = true)
  (k : ∀ b w', w.heap.size ≤ b → b < w'.heap.size → MapW P kt w' b [] 0 → Step M w (ins M b) w' none' → Rg P r n ops rest ((d, .map (some b)) :: L) ds w' K) :
  Rg P r n ops ({ dst := some d, op := .makeMap t none, type := ty, pos, after := af, guard := none } :: rest) L ds w K := by
 refine .op (fun _ h => by cases h) rfl rfl hd (.map (some w.heap.size)) (w.alloc (.map #[] 0)) (fun ρ hρ => ?_) (k w.heap.size _ (Nat.le_refl _) (by simp) ⟨heap_alloc_at w _, List.Pairwise.nil, (fun e he => by cases he), List.Pairwise.nil, (fun e he => by cases he)⟩ ((step_alloc M w _).own (Nat.le_refl _) (by simp)))
 simp only [execOp]
 simp [Instr.makeMap, newObj, Sem.run, run_underlying ht]
theorem Rg.mapEntry {t e : TypeId} {zv key : Value} {size bytes : Nat} {kl : Lit} (ht : P.underlying t = some (.map kt e)) (Kk : Keyed P kt) (hi : TI P e zv size bytes) (hx : ev L x = some (.map (some b))) (hy : ev L y = some key) (hd : Nat.blt d n = true) (hkey : keyOf P kt key = some kl) (h : MapW P kt w b es clock) (hm : M b)
  (k : ∀ w' es' clock' v s, MapW P kt w' b es' clock' → ValAt zv es key v → (⟨key, v, s⟩ : MapEntry) ∈ es' → (∀ key' v', ValAt zv es' key' v' ↔ ValAt zv es key' v') → ((es'.map (·.key) = es.map (·.key) ∧ ∃ e ∈ es, e.key = key) ∨ (es'.map (·.key) = es.map (·.key) ++ [key] ∧ ∀ e ∈ es, e.key ≠ key)) → Step M w M w' (fun k => k = b) → Rg P r n ops rest ((d, .tuple #[v, .int .i64 (s : Nat)]) :: L) ds w' K) :
  Rg P r n ops ({ dst := some d, op := .mapEntry t x y, type := ty, pos, after := af, guard := none } :: rest) L ds w K := by
 have hlt := lt_of_get h.at_
 rcases Kk.find w hkey es h.ok with ⟨h1, h2⟩ | ⟨j, e0, h1, h2, h3⟩
 ·obtain ⟨inf, i1, i2, _, _⟩ := hi.get
  have hz : (zeroValue e).run P w = .ok zv w := by simp [zeroValue, typeInfo, i1, i2]
  have hw : ({ w with heap := w.heap.setIfInBounds b (.map (es.toArray.push ⟨key, zv, clock⟩) (clock + 1)) } : World).heap[b]? = some (.map (es ++ ([⟨key, zv, clock⟩] : List MapEntry)).toArray (clock + 1)) := by
   simp [Array.getElem?_setIfInBounds, hlt]
  refine .op (fun _ h => by cases h) rfl rfl hd _ _ (fun ρ hρ => ?_) (k _ _ _ zv clock (h.push hkey h2 hw) (Or.inr ⟨h2, rfl⟩) (by simp) (ValAt.push h2) (Or.inr ⟨by simp, h2⟩) (step_setObj M hm))
  simp only [execOp, hρ x _ hx, hρ y _ hy, Instr.mapEntry, Sem.run_bind, run_underlying ht, Result.andThen_ok, run_getObj_map' h.at_, Kk.check w false hkey, h1, hz, run_setObj_map h.at_]
  simp [goInt]
 ·have he : e0 ∈ es := List.mem_of_getElem? h2
  have hmod : es.toArray.modify j (fun e => { e with key := key }) = es.toArray := by
   apply Array.ext_getElem?
   intro i
   rw [Array.getElem?_modify]
   split
   ·rename_i hji
    subst hji
    simp only [List.getElem?_toArray, h2, Option.map_some]
    rw [← h3]
   ·rfl
  have hw : ({ w with heap := w.heap.setIfInBounds b (.map es.toArray clock) } : World).heap[b]? = some (.map es.toArray clock) := by simp [Array.getElem?_setIfInBounds, hlt]
  have hj : es.toArray[j]? = some e0 := by simpa using h2
  have hst : (Instr.keyThatStays ((Option.map (fun (e : MapEntry) => e.key) es.toArray[j]?).getD key) key).run P w = .ok key w := by
   rw [hj]; simp only [Option.map_some, Option.getD_some, h3]; exact Kk.stays w hkey
  refine .op (fun _ h => by cases h) rfl rfl hd _ _ (fun ρ hρ => ?_) (k _ es clock e0.val e0.born ⟨hw, h.born, h.lt, h.keys, h.ok⟩ (Or.inl ⟨e0, he, h3, rfl⟩) (by rw [← h3]; exact he) (fun _ _ => Iff.rfl) (Or.inl ⟨rfl, e0, he, h3⟩) (step_setObj M hm))
  simp only [execOp, hρ x _ hx, hρ y _ hy, Instr.mapEntry, Sem.run_bind, run_underlying ht, Result.andThen_ok, run_getObj_map' h.at_, Kk.check w false hkey, h1, hst, hmod, run_setObj_map h.at_]
  simp [goInt, hj]
theorem Rg.entryStore {t : TypeId} {key v0 val : Value} {s : Nat} (hx : ev L x = some (.map (some b))) (hy : ev L y = some (.int .i64 (s : Int))) (hz : ev L z = some val) (h : MapW P kt w b es clock) (hm : M b) (hin : (⟨key, v0, s⟩ : MapEntry) ∈ es)
  (k : ∀ w' es', MapW P kt w' b es' clock → es'.map (·.key) = es.map (·.key) → (∀ zv key' v', ValAt zv es' key' v' ↔ (key' = key ∧ v' = val) ∨ (key' ≠ key ∧ ValAt zv es key' v')) → Step M w M w' (fun k => k = b) → Rg P r n ops rest L ds w' K) :
  Rg P r n ops ({ dst := none, op := .entryStore t x y z, type := ty, pos, after := af, guard := none } :: rest) L ds w K := by
 have hlt := lt_of_get h.at_
 obtain ⟨i, hi⟩ := List.mem_iff_getElem?.1 hin
 have hil := (List.getElem?_eq_some_iff.1 hi).1
 have hidx : es.toArray.findIdx? (fun e => (e.born : Int) == (s : Int)) = some i := by
  rw [List.findIdx?_toArray, List.findIdx?_eq_some_iff_getElem]
  refine ⟨hil, by rw [(List.getElem?_eq_some_iff.1 hi).2]; simp, fun j hj => ?_⟩
  have hjl : j < es.length := by omega
  have := fun e => h.born_one (List.getElem?_eq_getElem hjl) hi e
  simp only [Bool.not_eq_true, beq_eq_false_iff_ne, ne_eq]
  intro e
  have e2 : ((es[j]).born : Int) = (s : Int) := by simpa using e
  have := this (by show (es[j]).born = s; omega)
  omega
 obtain ⟨es', hes'⟩ : ∃ es', es' = es.set i ⟨key, val, s⟩ := ⟨_, rfl⟩
 have hmod : es.toArray.modify i (fun e => { e with val := val }) = es'.toArray := by
  apply Array.ext_getElem?
  intro j
  rw [Array.getElem?_modify, hes']
  simp only [List.getElem?_toArray, List.getElem?_set]
  split
  ·rename_i hji
   subst hji
   rw [hi]; simp
  ·rfl
 have hget : ∀ j e', es'[j]? = some e' → (j = i ∧ e' = ⟨key, val, s⟩) ∨ (j ≠ i ∧ es[j]? = some e') := fun j e' hj => by
  rw [hes', List.getElem?_set] at hj
  split at hj
  ·rename_i hij
   left; exact ⟨hij.symm, by simpa [hil] using hj.symm⟩
  ·rename_i hij
   exact .inr ⟨fun e => hij e.symm, hj⟩
 have hkeys : es'.map (·.key) = es.map (·.key) := by
  rw [hes', List.map_set]
  apply List.ext_getElem?
  intro j
  rw [List.getElem?_set]
  split
  ·rename_i hij
   subst hij
   have e := (List.getElem?_eq_some_iff.1 hi).2
   simp [hil, e]
  ·rfl
 have hborn : es'.map (·.born) = es.map (·.born) := by
  rw [hes', List.map_set]
  apply List.ext_getElem?
  intro j
  rw [List.getElem?_set]
  split
  ·rename_i hij
   subst hij
   have e := (List.getElem?_eq_some_iff.1 hi).2
   simp [hil, e]
  ·rfl
 have hw : ({ w with heap := w.heap.setIfInBounds b (.map es'.toArray clock) } : World).heap[b]? = some (.map es'.toArray clock) := by simp [Array.getElem?_setIfInBounds, hlt]
 have hmem : ∀ e' ∈ es', (e' = ⟨key, val, s⟩) ∨ (e' ∈ es ∧ e'.key ≠ key) := fun e' he' => by
  obtain ⟨j, hj⟩ := List.mem_iff_getElem?.1 he'
  rcases hget j e' hj with ⟨_, e⟩ | ⟨hne, hj2⟩
  ·exact .inl e
  ·refine .inr ⟨List.mem_of_getElem? hj2, fun e => hne ?_⟩
   rcases Nat.lt_trichotomy j i with h1 | h1 | h1
   ·exact absurd e (pair_idx h.keys hj2 hi h1)
   ·exact h1
   ·exact absurd e.symm (pair_idx h.keys hi hj2 h1)
 have hnew : (⟨key, val, s⟩ : MapEntry) ∈ es' := List.mem_of_getElem? (i := i) (by rw [hes', List.getElem?_set]; simp [hil])
 have hold : ∀ e' ∈ es, e'.key ≠ key → e' ∈ es' := fun e' he' hne => by
  obtain ⟨j, hj⟩ := List.mem_iff_getElem?.1 he'
  refine List.mem_of_getElem? (i := j) ?_
  rw [hes', List.getElem?_set, if_neg]
  ·exact hj
  ·rintro rfl
   rw [hi] at hj; cases hj; exact hne rfl
 have hW : MapW P kt { w with heap := w.heap.setIfInBounds b (.map es'.toArray clock) } b es' clock := by
  refine ⟨hw, ?_, fun e' he' => ?_, ?_, fun e' he' => ?_⟩
  ·have := List.pairwise_map.2 h.born
   rw [← hborn] at this; exact List.pairwise_map.1 this
  ·rcases hmem e' he' with e | ⟨h1, _⟩
   ·rw [e]; exact (h.lt _ hin : s < clock)
   ·exact h.lt _ h1
  ·have := List.pairwise_map.2 h.keys
   rw [← hkeys] at this; exact List.pairwise_map.1 this
  ·rcases hmem e' he' with e | ⟨h1, _⟩
   ·rw [e]; exact (h.ok _ hin : ∃ l, keyOf P kt key = some l)
   ·exact h.ok _ h1
 refine .opu (fun _ h => by cases h) rfl rfl _ (fun ρ hρ => ?_) (k _ es' hW hkeys (fun zv key' v' => ?_) (step_setObj M hm))
 ·simp only [execOp, hρ x _ hx, hρ y _ hy, hρ z _ hz, Instr.entryStore, Sem.run_bind, run_getObj_map' h.at_, Result.andThen_ok, asInt, asIntOf, Sem.run_pure, hidx, hmod, run_setObj_map h.at_]
 ·constructor
  ·rintro (⟨e', he', hk, hv⟩ | ⟨h1, h2⟩)
   ·rcases hmem e' he' with e | ⟨h3, h4⟩
    ·subst e; exact .inl ⟨hk.symm, hv⟩
    ·exact .inr ⟨by rw [← hk]; exact h4, .inl ⟨e', h3, hk, hv⟩⟩
   ·have hne : key' ≠ key := fun e => h1 _ hnew e.symm
    exact .inr ⟨hne, .inr ⟨fun e' he' => fun e => by
     by_cases h5 : e'.key = key
     ·exact hne (e.symm.trans h5)
     ·exact h1 e' (hold e' he' h5) e, h2⟩⟩
  ·rintro (⟨rfl, rfl⟩ | ⟨hne, ⟨e', he', hk, hv⟩ | ⟨h1, h2⟩⟩)
   ·exact .inl ⟨_, hnew, rfl, rfl⟩
   ·exact .inl ⟨e', hold e' he' (by rw [hk]; exact hne), hk, hv⟩
   ·exact .inr ⟨fun e' he' => by
     rcases hmem e' he' with e | ⟨h3, _⟩
     ·rw [e]; exact fun e => hne e.symm
     ·exact h1 e' h3, h2⟩
theorem Rg.lookupW {t e : TypeId} {zv key : Value} {size bytes : Nat} {kl : Lit} (ht : P.underlying t = some (.map kt e)) (Kk : Keyed P kt) (hi : TI P e zv size bytes) (hx : ev L x = some (.map (some b))) (hy : ev L y = some key) (hd : Nat.blt d n = true) (hkey : keyOf P kt key = some kl) (h : MapW P kt w b es clock)
  (k : ∀ v, ValAt zv es key v → Rg P r n ops rest ((d, v) :: L) ds w K) :
  Rg P r n ops ({ dst := some d, op := .lookup t x y false, type := ty, pos, after := af, guard := none } :: rest) L ds w K := by
 rcases Kk.find w hkey es h.ok with ⟨h1, h2⟩ | ⟨j, e0, h1, h2, h3⟩
 ·obtain ⟨inf, i1, i2, _, _⟩ := hi.get
  have hz : (zeroValue e).run P w = .ok zv w := by simp [zeroValue, typeInfo, i1, i2]
  refine .op (fun _ h => by cases h) rfl rfl hd zv w (fun ρ hρ => ?_) (k zv (Or.inr ⟨h2, rfl⟩))
  simp only [execOp, hρ x _ hx, hρ y _ hy, Instr.lookup, Sem.run_bind, run_underlying ht, Result.andThen_ok, run_getObj_map' h.at_, Sem.run_pure, Kk.check w _ hkey, h1, hz]
  simp
 ·refine .op (fun _ h => by cases h) rfl rfl hd e0.val w (fun ρ hρ => ?_) (k e0.val (Or.inl ⟨e0, List.mem_of_getElem? h2, h3, rfl⟩))
  simp only [execOp, hρ x _ hx, hρ y _ hy, Instr.lookup, Sem.run_bind, run_underlying ht, Result.andThen_ok, run_getObj_map' h.at_, Sem.run_pure, Kk.check w _ hkey, h1]
  simp
end
end Go.K
namespace Go.K
open Go.Proofs
set_option linter.unusedVariables false
set_option linter.unusedSimpArgs false
set_option maxRecDepth 10000
open Go.Maps (Keyed)
def kv (t : Fd) : Value := .agg #[.string ⟨t.1.toArray⟩, .string ⟨t.2.toArray⟩]
theorem kv_inj {a b : Fd} (h : kv a = kv b) : a = b := by
 unfold kv at h
 simp only [Value.agg.injEq, Array.mk.injEq, List.cons.injEq, Value.string.injEq, ByteArray.mk.injEq, and_true] at h
 exact Prod.ext h.1 h.2
theorem laidOut_ : laidOutB Tryz.prog = true := by kernel_rfl
theorem types_ : Tryz.prog.types.size = 356 := by kernel_rfl
theorem termKeyed : Keyed Tryz.prog 47 := Keyed.of_law (deep_law_laid laidOut_ (m := 2) (k := 47) (by omega) (by rw [types_]; decide) (by kernel_rfl) (by kernel_rfl))
theorem keyT_ : Tryz.prog.keyType 47 = true := by kernel_rfl
theorem cellsT_ : Tryz.prog.cellsOf 47 = 2 := by kernel_rfl
theorem cellsS_ : Tryz.prog.cellsOf 9 = 1 := by kernel_rfl
theorem kv_key (t : Fd) (h1 : t.1.length ≤ 140737488355328) (h2 : t.2.length ≤ 140737488355328) : ∃ l, keyOf Tryz.prog 47 (kv t) = some l := by
 have e1 : (⟨t.1.toArray⟩ : ByteArray).size = t.1.length := by simp [ByteArray.size]
 have e2 : (⟨t.2.toArray⟩ : ByteArray).size = t.2.length := by simp [ByteArray.size]
 have hs : ∀ (s : ByteArray), s.size ≤ maxLen → Tryz.prog.keyLits 356 9 [.string s] = some [.string s.data.toList] := fun s hs => by
  show (match Tryz.prog.underlying 9, [Value.string s] with | _, _ => _) = _
  rw [Tryz.underlying9]
  exact if_pos hs
 unfold keyOf kv
 rw [Tryz.underlying47]
 simp only [keyT_, Value.formed, Tryz.underlying47, cellsT_, types_]
 have key : ∃ ls, Tryz.prog.keyLits (356 + 1) 47 [.string ⟨t.1.toArray⟩, .string ⟨t.2.toArray⟩] = some ls := by
  unfold Program.keyLits
  simp only [Tryz.underlying47]
  rw [if_pos ⟨by rw [cellsT_]; rfl, by kernel_rfl⟩]
  simp only [List.mapM_cons, List.mapM_nil, cellsS_]
  have g1 := hs ⟨t.1.toArray⟩ (by rw [e1]; unfold maxLen; omega)
  have g2 := hs ⟨t.2.toArray⟩ (by rw [e2]; unfold maxLen; omega)
  refine ⟨[.string (⟨t.1.toArray⟩ : ByteArray).data.toList, .string (⟨t.2.toArray⟩ : ByteArray).data.toList], ?_⟩
  simp only [List.drop_zero, List.drop_succ_cons, List.take_succ_cons, List.take_zero, g1, g2]
  rfl
 obtain ⟨ls, hls⟩ := key
 exact ⟨.string (keyBytes ls), by rw [if_pos (by simp)]; show Option.map _ (Tryz.prog.keyLits (356 + 1) 47 [.string ⟨t.1.toArray⟩, .string ⟨t.2.toArray⟩]) = _; rw [hls]; rfl⟩
end Go.K
namespace Go.K
open Go.Proofs
set_option linter.unusedVariables false
set_option linter.unusedSimpArgs false
set_option maxRecDepth 10000
def tellF (x : Fd) : List (Fd × Nat) := (words x.2).zipIdx.map fun p => ((x.1, p.1), p.2)
def tellsL (l : List Fd) : List (Fd × Nat) := l.flatMap tellF
theorem tellF_len (x : Fd) : (tellF x).length = (words x.2).length := by simp [tellF]
theorem tellF_at {x : Fd} {k : Nat} {y : List UInt8} (h : (words x.2)[k]? = some y) : (tellF x)[k]? = some ((x.1, y), k) := by
 simp [tellF, List.getElem?_zipIdx, h]
theorem tells_take {fs : List Fd} {i : Nat} {x : Fd} (h : fs[i]? = some x) : tellsL (fs.take (i + 1)) = tellsL (fs.take i) ++ tellF x := by
 rw [List.take_add_one, h]; simp [tellsL]
structure Tell (P : Program) (g : FuncId) (cap : List Value) (B : Nat) (J : List (Fd × Nat) → PSet → World → Prop) : Prop where
 enters : Enters P g
 step : ∀ ts M w M' w', J ts M w → Step M w M' w' none' → J ts M' w'
 tell : ∀ ts M w (t : Fd) (i : Nat), J ts M w → Lt M w → t.1.length ≤ 900000 → t.2.length ≤ 140737488355328 → i ≤ 1000000 → ts.length ≤ 10000000 → Spec P g ([kv t, .int .i64 (i : Int)] ++ cap).toArray w (fun _ w' => ∃ M', Lt M' w' ∧ J (ts ++ [(t, i)]) M' w' ∧ Step M w M' w' (mine M B))
theorem each_spec {M : PSet} {d : Dc} {v0 : Value} {g : FuncId} {cap : List Value} {B : Nat} {J : List (Fd × Nat) → PSet → World → Prop} (w0 : World) (hM : Lt M w0) (hv : RT.dc.V M w0 d v0) (hl : ∀ f ∈ d.2, f.1.length ≤ 900000 ∧ f.2.length ≤ 900000) (hd8 : d.2.length ≤ 8) (hT : Tell Tryz.prog g cap B J) (hJ : J [] M w0) :
  Spec Tryz.prog 154 #[v0, .func (.func g) #[] cap.toArray] w0 (fun v w => ∃ M', Lt M' w ∧ J (tellsL d.2) M' w ∧ Step M w0 M' w (mine M B)) := by
 refine spec_of (args := [_, _]) (fn := Tryz.f154) Tryz.func154 rfl (n := 33) Tryz.ntmps154 ?_
 have S : Step M w0 M w0 (mine M B) := (Step.refl _ _).widen (fun _ h => h.elim) (fun _ h => h.2)
 refine T.seq ?_
 refine T.region ?_
 refine Rg.boxp (A := RT.dc) rfl rfl hM hv rfl (fun u0 w1 hu0 s0 _ => ?_) --@step s0
 --@vf hu0*
 --@ptr RT.dc ;; d
 replace hJ := hT.step _ _ _ _ _ hJ s0
 replace hM := s0.lt hM
 have := S.size
 replace S := S.trans0 s0
 refine Rg.nil ?_
 refine T.seq ?_
 refine T.region ?_
 refine Rg.fieldAddr (M := M) (A := RT.dc) (B := (RT.fd).sl) Tryz.underlying41 rfl rfl I39 (by decide) (dc1) rfl rfl (by decide) (by assumption) (by repeat (first | exact Le.refl _ _ | refine Le.trans (Step.le (by assumption)) ?_)) (fun u1_0 hu1_0 => ?_)
 refine Rg.load (M := M) Tryz.underlying39 rfl rfl rfl rfl rfl (by assumption) (by repeat (first | exact Le.refl _ _ | refine Le.trans (Step.le (by assumption)) ?_)) (fun v1_1 hv1_1 => ?_)
 refine Rg.lensl Tryz.underlying39 rfl hv1_1 rfl ?_
 refine Rg.move rfl rfl ?_
 refine Rg.nil ?_
 refine T.block ?_
 refine T.loop (σ := Nat) (fun i => [(1, .func (.func g) #[] cap.toArray), (9, v1_1), (10, .int .i64 (d.2.length : Int)), (11, .int .i64 (i : Int))]) (fun i w => ∃ M', Lt M' w ∧ Step M w0 M' w (mine M B) ∧ (RT.fd.sl).V M' w d.2 v1_1 ∧ J (tellsL (d.2.take i)) M' w ∧ i ≤ d.2.length ∧ (tellsL (d.2.take i)).length ≤ 900001 * i) (fun i => d.2.length - i) 0 (.cons rfl (.cons rfl (.cons rfl (.cons rfl .nil)))) ?_ ?_
 ·exact ⟨_, hM, S, hv1_1, hJ, Nat.zero_le _, Nat.le_refl _⟩
 ·rintro i w ⟨M1, hM, S, hvs, hJ, hi, htl⟩
  refine T.seq ?_
  refine T.region ?_
  refine Rg.ilt rfl rfl rfl ?_
  refine Rg.nil ?_
  refine T.seq ?_
  refine T.ifp rfl (fun c2 => ?_) (fun c2 => ?_)
  ·refine T.skip ?_
   refine T.seq ?_
   refine T.block ?_
   refine T.seq ?_
   refine T.region ?_
   refine Rg.idx (M := M1) Tryz.underlying39 I127 rfl rfl rfl hvs (Le.refl _ _) (by omega) (fun u3 x hg3 hu3 => ?_)
   rw [Int.toNat_natCast] at hg3
   have hxl := hl _ (List.mem_of_getElem? hg3) --@ptr RT.fd ;; x
   refine Rg.loadagg (M := M1) (A := RT.fd) Tryz.underlying127 rfl I127 (by decide) rfl rfl rfl hu3 (Le.refl _ _) (fun v3 hv3 => ?_)
   refine Rg.newagg (A := RT.fd) (M := M1) I127 rfl rfl rfl rfl rfl (by assumption) (Le.refl _ _) hM (fun u3_2 w3_2 hu3_2 s3_2 z3_2 => ?_)
   replace hvs := hvs.le s3_2.le
   replace hJ := hT.step _ _ _ _ _ hJ s3_2
   replace hM := s3_2.lt hM
   have := S.size
   replace S := S.trans0 s3_2
   refine Rg.nil ?_
   refine T.seq ?_
   refine T.region ?_
   refine Rg.fieldAddr (M := M1) (A := RT.fd) (B := RT.str) Tryz.underlying127 rfl rfl I9 (by decide) (fd1) rfl rfl (by decide) (by assumption) (by repeat (first | exact Le.refl _ _ | refine Le.trans (Step.le (by assumption)) ?_)) (fun u4_0 hu4_0 => ?_)
   refine Rg.load (M := M1) Tryz.underlying9 rfl rfl rfl rfl rfl hu4_0 (Le.refl _ _) (fun v4 hv4 => ?_)
   obtain rfl := V_strE hv4
   refine Rg.call rfl rfl E192 (words_spec (l := x.2) _ hM hxl.2) (fun v5 w5 hc => ?_)
   obtain ⟨hws, s5⟩ := hc --@step s5
   --@vf hws
   replace hvs := hvs.le s5.le
   replace hu3_2 := hu3_2.le (by decide) s5.le
   replace hJ := hT.step _ _ _ _ _ hJ s5
   replace hM := s5.lt hM
   have := S.size
   replace S := S.trans0 s5
   have hwl := words_len x.2
   refine Rg.lensl Tryz.underlying55 rfl hws rfl ?_
   refine Rg.move rfl rfl ?_
   refine Rg.nil ?_
   refine T.block ?_
   refine T.loop (σ := Nat) (fun k => [(1, .func (.func g) #[] cap.toArray), (5, u3_2), (9, v1_1), (10, .int .i64 (d.2.length : Int)), (11, .int .i64 (i : Int)), (17, v5), (18, .int .i64 ((words x.2).length : Int)), (19, .int .i64 (k : Int))]) (fun k w => ∃ M', Lt M' w ∧ Step M w0 M' w (mine M B) ∧ (RT.fd.sl).V M' w d.2 v1_1 ∧ PtrTo RT.fd M' w u3_2 x ∧ (RT.str.sl).V M' w (words x.2) v5 ∧ J (tellsL (d.2.take i) ++ (tellF x).take k) M' w ∧ k ≤ (words x.2).length) (fun k => (words x.2).length - k) 0 (.cons rfl (.cons rfl (.cons rfl (.cons rfl (.cons rfl (.cons rfl (.cons rfl (.cons rfl .nil)))))))) ?_ ?_
   ·exact ⟨_, hM, S, hvs, hu3_2, hws, by rw [List.take_zero, List.append_nil]; exact hJ, Nat.zero_le _⟩
   ·rintro k w ⟨M2, hM, S, hvs, hu3_2, hws, hJ, hk⟩
    refine T.seq ?_
    refine T.region ?_
    refine Rg.ilt rfl rfl rfl ?_
    refine Rg.nil ?_
    refine T.seq ?_
    refine T.ifp rfl (fun c5 => ?_) (fun c5 => ?_)
    ·refine T.skip ?_
     refine T.seq ?_
     refine T.block ?_
     refine T.seq ?_
     refine T.region ?_
     refine Rg.move rfl rfl ?_
     refine Rg.idx (M := M2) Tryz.underlying55 I9 rfl rfl rfl hws (Le.refl _ _) (by omega) (fun u6 y hg6 hu6 => ?_)
     rw [Int.toNat_natCast] at hg6 --@ptr RT.str ;; y
     refine Rg.load (M := M2) Tryz.underlying9 rfl rfl rfl rfl rfl hu6 (Le.refl _ _) (fun v6 hv6 => ?_)
     have hyl := (V_str.1 hv6).2
     obtain rfl := V_strE hv6
     refine Rg.assign rfl rfl ?_
     refine Rg.assign rfl rfl ?_
     refine Rg.nil ?_
     refine T.region ?_
     refine Rg.move rfl rfl ?_
     refine Rg.fieldAddr (M := M2) (A := RT.fd) (B := RT.str) Tryz.underlying127 rfl rfl I9 (by decide) (fd0) rfl rfl (by decide) (by assumption) (by repeat (first | exact Le.refl _ _ | refine Le.trans (Step.le (by assumption)) ?_)) (fun u7_1 hu7_1 => ?_)
     refine Rg.load (M := M2) Tryz.underlying9 rfl rfl rfl rfl rfl hu7_1 (Le.refl _ _) (fun v7 hv7 => ?_)
     obtain rfl := V_strE hv7
     refine Rg.move rfl rfl ?_
     refine Rg.build (places := [(0, 1), (1, 1)]) Tryz.underlying47 I47 B47 rfl ⟨_, _, rfl, rfl, _, _, rfl, rfl, rfl⟩ (out := [_, _]) ⟨0, [_], rfl, rfl, by simp [Value.cells], 1, [_], rfl, rfl, by simp [Value.cells], rfl⟩ ?_
     refine Rg.move rfl rfl ?_
     refine Rg.callv (first := []) (captured := cap) (xs := [.tmp 28, .tmp 29]) rfl rfl rfl hT.enters (hT.tell _ _ _ (x.1, y) k hJ hM hxl.1 hyl (by omega) (by rw [List.length_append, List.length_take, tellF_len]; omega)) (fun r7 w7 hc => ?_)
     obtain ⟨M7, hM7, hJ7, s7⟩ := hc
     refine Rg.nil ?_
     refine T.region ?_
     refine Rg.iadd rfl rfl rfl (by omega) ?_
     refine Rg.move rfl rfl ?_
     refine Rg.nil ?_
     refine ⟨rfl, k + 1, (.cons rfl (.cons rfl (.cons rfl (.cons rfl (.cons rfl (.cons rfl (.cons rfl (.cons rfl .nil)))))))), ?_, ?_⟩
     ·exact ⟨M7, hM7, S.trans s7 (fun b hb h => ⟨h.1, (S.mem b hb).1 h.2⟩), hvs.le s7.le, hu3_2.le (by decide) s7.le, hws.le s7.le, by rw [List.take_add_one, tellF_at hg6, Option.toList_some, ← List.append_assoc]; exact hJ7, by omega⟩
     ·omega
    ·refine T.exit ?_
     refine T.region ?_
     refine Rg.iadd rfl rfl rfl (by omega) ?_
     refine Rg.move rfl rfl ?_
     refine Rg.nil ?_
     refine ⟨rfl, i + 1, (.cons rfl (.cons rfl (.cons rfl (.cons rfl .nil)))), ?_, ?_⟩
     ·exact ⟨_, hM, S, hvs, by rw [tells_take hg3]; have e : (tellF x).take k = tellF x := List.take_of_length_le (by rw [tellF_len]; omega); rw [e] at hJ; exact hJ, by omega, by rw [tells_take hg3, List.length_append, tellF_len]; omega⟩
     ·omega
  ·refine T.exit ?_
   first | refine EndP.nil ?_ | simp +decide only [Kseq, Kblock, if_true, if_false] | skip
   have e : d.2.take i = d.2 := List.take_of_length_le (by omega)
   rw [e] at hJ
   exact Kret0n rfl ⟨_, hM, hJ, S⟩
theorem kv_V {M : PSet} {w : World} {t : Fd} (h1 : t.1.length ≤ 140737488355328) (h2 : t.2.length ≤ 140737488355328) : RT.fd.V M w t (kv t) := V_pair_mk (V_str.2 ⟨rfl, h1⟩) (V_str.2 ⟨rfl, h2⟩) rfl rfl rfl rfl
def WJ (b B : Nat) (ts : List (Fd × Nat)) (M : PSet) (w : World) : Prop := w.heap[b]? = some (.cells #[.int .i64 (ts.length : Int)] 3 (0, 0)) ∧ M b ∧ B ≤ b
theorem weight1_spec {M : PSet} {b B : Nat} {ts : List (Fd × Nat)} {t : Fd} {i : Nat} (w0 : World) (hM : Lt M w0) (h1 : t.1.length ≤ 900000) (h2 : t.2.length ≤ 140737488355328) (hts : ts.length ≤ 10000000) (hJ : WJ b B ts M w0) :
  Spec Tryz.prog 161 #[kv t, .int .i64 (i : Int), .pointer (some ⟨b, 0, none⟩)] w0 (fun v w => ∃ M', Lt M' w ∧ WJ b B (ts ++ [(t, i)]) M' w ∧ Step M w0 M' w (mine M B)) := by
 obtain ⟨gb, m_gb, hB⟩ := hJ
 refine spec_of (args := [_, _, _]) (fn := Tryz.f161) Tryz.func161 rfl (n := 7) Tryz.ntmps161 ?_
 have S : Step M w0 M w0 (mine M B) := (Step.refl _ _).widen (fun _ h => h.elim) (fun _ h => h.2)
 refine T.seq ?_
 refine T.region ?_
 refine Rg.boxp (A := RT.fd) rfl rfl hM (kv_V (by omega) h2) rfl (fun u0 w1 hu0 s0 _ => ?_) --@step s0
 have := lt_of_get gb
 replace m_gb := (s0.mem _ this).2 m_gb
 replace gb := s0.same0 gb
 replace hM := s0.lt hM
 have := S.size
 replace S := S.trans0 s0
 refine Rg.nil ?_
 refine T.region ?_
 refine Rg.loadc Tryz.underlying3 rfl rfl rfl (by assumption) rfl ?_
 refine Rg.iadd rfl rfl rfl (by omega) ?_
 refine Rg.storec (M := M) I3 rfl rfl gb rfl (rfl) m_gb (fun w1_2 g1_2 s1_2 => ?_)
 change w1_2.heap[_]? = some (Obj.cells #[.int .i64 ((ts.length : Int) + 1)] _ _) at g1_2
 have := lt_of_get gb
 replace m_gb := (s1_2.mem _ this).2 m_gb
 replace hM := s1_2.lt hM
 have := S.size
 replace S := S.trans s1_2 (fun k hk h => by have h : _ = _ := h; subst h; first | (exfalso; omega) | (show _ ≤ _; omega) | exact ⟨by omega, (S.mem _ hk).1 ((s1_2.mem _ (lt_of_get gb)).1 m_gb)⟩ | exact .inl rfl | exact .inr rfl | exact .inr (.inl rfl) | exact .inr (.inr rfl) | exact rfl)
 have gb_ := g1_2
 clear gb
 have gb := gb_
 clear gb_
 refine Rg.nil ?_
 first | refine EndP.nil ?_ | simp +decide only [Kseq, Kblock, if_true, if_false] | skip
 exact Kret0n rfl ⟨_, hM, ⟨by rw [List.length_append]; exact gb, m_gb, hB⟩, S⟩
theorem weight_tell {b B : Nat} : Tell Tryz.prog 161 [.pointer (some ⟨b, 0, none⟩)] B (WJ b B) :=
 ⟨E161, fun ts M w M' w' ⟨h1, h2, h3⟩ s => ⟨s.same0 h1, (s.mem _ (lt_of_get h1)).2 h2, h3⟩, fun ts M w t i hJ hM h1 h2 _ h4 => weight1_spec w hM h1 h2 h4 hJ⟩
theorem weight_spec {M : PSet} {d : Dc} {v0 : Value} (w0 : World) (hM : Lt M w0) (hv : RT.dc.V M w0 d v0) (hl : ∀ f ∈ d.2, f.1.length ≤ 900000 ∧ f.2.length ≤ 900000) (hd8 : d.2.length ≤ 8) :
  Spec Tryz.prog 110 #[v0] w0 (fun v w => v = .int .i64 ((tellsL d.2).length : Int) ∧ Step M w0 M w none') := by
 refine spec_of (args := [_]) (fn := Tryz.f110) Tryz.func110 rfl (n := 8) Tryz.ntmps110 ?_
 have S : Step M w0 M w0 none' := (Step.refl _ _).widen (fun _ h => h.elim) (fun _ h => h.elim)
 refine T.seq ?_
 refine T.region ?_
 refine Rg.boxp (A := RT.dc) rfl rfl hM hv rfl (fun u0 w1 hu0 s0 _ => ?_) --@step s0
 --@vf hu0*
 --@ptr RT.dc ;; d
 replace hM := s0.lt hM
 have := S.size
 replace S := S.trans0 s0
 refine Rg.assign rfl rfl ?_
 refine Rg.nil ?_
 refine T.seq ?_
 refine T.region ?_
 refine Rg.alloc M I3 rfl (fun b1_0 w1_0 p1_0 q1_0 g1_0 s1_0 => ?_)
 obtain ⟨M_1_0, eM_1_0⟩ : ∃ M', M' = ins M b1_0 := ⟨_, rfl⟩
 rw [← eM_1_0] at s1_0
 have m_g1_0 : M_1_0 b1_0 := by rw [eM_1_0]; exact .inl rfl
 change w1_0.heap[b1_0]? = some (.cells #[.int .i64 0] _ _) at g1_0
 replace hu0 := hu0.le (by decide) s1_0.le
 replace hM := s1_0.lt hM
 have := S.size
 replace S := S.trans0 s1_0
 refine Rg.storec (M := M_1_0) I3 rfl rfl g1_0 rfl (rfl) m_g1_0 (fun w1_1 g1_1 s1_1 => ?_)
 change w1_1.heap[_]? = some (Obj.cells #[.int .i64 0] _ _) at g1_1
 have := lt_of_get g1_0
 replace m_g1_0 := (s1_1.mem _ this).2 m_g1_0
 replace hu0 := hu0.le (by decide) s1_1.le
 replace hM := s1_1.lt hM
 have := S.size
 replace S := S.trans s1_1 (fun k hk h => by have h : _ = _ := h; subst h; first | (exfalso; omega) | (show _ ≤ _; omega) | exact ⟨by omega, (S.mem _ hk).1 ((s1_1.mem _ (lt_of_get g1_0)).1 m_g1_0)⟩ | exact .inl rfl | exact .inr rfl | exact .inr (.inl rfl) | exact .inr (.inr rfl) | exact rfl)
 have g1_0_ := g1_1
 clear g1_0
 have g1_0 := g1_0_
 clear g1_0_
 refine Rg.nil ?_
 refine T.seq ?_
 refine T.region ?_
 refine Rg.loadagg (M := M_1_0) (A := RT.dc) Tryz.underlying41 rfl I41 (by decide) rfl rfl rfl hu0 (Le.refl _ _) (fun v2 hv2 => ?_)
 refine Rg.makeFunc (xs := []) (ys := [.tmp 3]) rfl rfl rfl ?_
 refine Rg.call rfl rfl E154 (each_spec (cap := [.pointer (some ⟨b1_0, 0, none⟩)]) (B := w0.heap.size) _ hM hv2 hl hd8 weight_tell ⟨g1_0, m_g1_0, by omega⟩) (fun r2 w2 hc => ?_)
 obtain ⟨M2, hM2, ⟨g2, _, _⟩, s2⟩ := hc
 replace S := S.transOwn s2 (Nat.le_refl _)
 refine Rg.nil ?_
 refine T.seq ?_
 refine T.region ?_
 refine Rg.loadc Tryz.underlying3 rfl rfl rfl g2 rfl ?_
 refine Rg.assign rfl rfl ?_
 refine Rg.nil ?_
 refine T.ret ?_
 exact Kret1 rfl rfl ⟨rfl, S.back⟩
end Go.K
namespace Go.K
set_option linter.unusedVariables false
set_option linter.unusedSimpArgs false
section
variable {P : Program} {r : Option Nat} {n : Nat} {L : Sl} {ds : List Deferred} {w : World} {K : Kt} {ops : Array Oper} {rest : List Oper} {d : Nat} {x y z : Operand} {ty : TypeId} {pos : String} {af : Array Edge}
variable {kt : TypeId} {M : PSet} {b mb clock : Nat} {es : List MapEntry} {sn : Array Nat}
theorem Rg.rangeMap {t e : TypeId} (M : PSet) (ht : P.underlying t = some (.map kt e)) (hx : ev L x = some (.map (some mb))) (hd : Nat.blt d n = true) (h : MapW P kt w mb es clock)
  (k : ∀ b w', w.heap.size ≤ b → b < w'.heap.size → w'.heap[b]? = some (.mapIter (some mb) clock #[] clock) → Step M w (ins M b) w' none' → Rg P r n ops rest ((d, .pointer (some ⟨b, 0, none⟩)) :: L) ds w' K) :
  Rg P r n ops ({ dst := some d, op := .range t x, type := ty, pos, after := af, guard := none } :: rest) L ds w K := by
 refine .op (fun _ h => by cases h) rfl rfl hd (.pointer (some ⟨w.heap.size, 0, none⟩)) (w.alloc (.mapIter (some mb) clock #[] clock)) (fun ρ hρ => ?_) (k w.heap.size _ (Nat.le_refl _) (by simp) (heap_alloc_at w _) ((step_alloc M w _).own (Nat.le_refl _) (by simp)))
 simp only [execOp, hρ x _ hx]
 simp [Instr.range, Sem.run_bind, run_underlying ht, run_getObj_map' h.at_, newObj, Sem.run]
theorem run_getObj_iter {sb : Option Nat} {s c : Nat} (hb : w.heap[b]? = some (.mapIter sb s sn c)) : (getObj b).run P w = .ok (.mapIter sb s sn c) w := by simp [getObj, Sem.run, hb]
theorem next_false (h : MapW P kt w mb es clock) (seen : Array Nat) : (!seen.isEmpty && !es.toArray.isEmpty && es.toArray.all (fun x => decide (x.born ≥ clock))) = false := by
 cases es with
 |nil => simp
 |cons e l =>
  have := h.lt e (by simp)
  simp only [Bool.and_eq_false_iff]
  right
  rw [Bool.eq_false_iff]
  intro h2
  rw [Array.all_eq_true_iff_forall_mem] at h2
  have := h2 e (by simp)
  simp at this
  omega
theorem choose_some (k : Nat) (hk : 0 < k) : ∃ j w1, j < k ∧ (∀ M, Step M w M w1 none') ∧ w1.heap = w.heap ∧ (choose (Question.mapNext k)).run P w = .ok j w1 := by
 by_cases hf : k ≤ 1
 ·exact ⟨0, w, hk, fun M => Step.refl M w, rfl, by simp [choose, Sem.run, Question.forced, hf]⟩
 ·exact ⟨_, w.drew, Nat.mod_lt _ hk, fun M => step_drew M w, rfl, by
   simp only [choose, Sem.run, Question.forced, decide_eq_true_eq, hf, if_false, Question.cut]
   rfl⟩
theorem run_next (h : MapW P kt w mb es clock) (hb : w.heap[b]? = some (.mapIter (some mb) clock sn clock)) (hm : M b) :
  ((∀ e ∈ es, e.born ∈ sn) ∧ (Instr.next (.pointer (some ⟨b, 0, none⟩)) false ty).run P w = .ok (.tuple #[.bool false]) w) ∨
  ∃ e w', e ∈ es ∧ e.born ∉ sn ∧ w'.heap[b]? = some (.mapIter (some mb) clock (sn.push e.born) clock) ∧ Step M w M w' (fun k => k = b) ∧ (Instr.next (.pointer (some ⟨b, 0, none⟩)) false ty).run P w = .ok (.tuple #[.bool true, e.key, e.val]) w' := by
 have hlt := lt_of_get hb
 simp only [Instr.next, Sem.run_bind, run_getObj_iter hb, Result.andThen_ok, run_getObj_map' h.at_, next_false h sn, Bool.false_eq_true, if_false]
 have hL : ∀ e ∈ es.toArray.filter (fun e => !sn.contains e.born), e.born < clock := fun e he => h.lt e (by simpa using (Array.mem_filter.1 he).1)
 have hin : ∀ e, e ∈ es.toArray.filter (fun e => !sn.contains e.born) ↔ e ∈ es ∧ e.born ∉ sn := fun e => by simp [Array.mem_filter]
 generalize es.toArray.filter (fun e => !sn.contains e.born) = Lf at hL hin ⊢
 have e1 : Lf.filter (fun x => decide (x.born < clock)) = Lf := Array.filter_eq_self.2 fun x hx => by simpa using hL x hx
 have e2 : Lf.filter (fun x => decide (x.born ≥ clock)) = #[] := by
  rw [Array.filter_eq_empty_iff]
  intro x hx
  have := hL x hx
  simp; omega
 simp only [e1, e2, Array.append_empty]
 by_cases h0 : Lf.size = 0
 ·left
  have hnil : Lf = #[] := Array.eq_empty_of_size_eq_zero h0
  subst hnil
  refine ⟨fun e he => ?_, by simp [choose, Sem.run, Question.forced]⟩
  by_cases hs : e.born ∈ sn
  ·exact hs
  ·exact absurd ((hin e).2 ⟨he, hs⟩) (by simp)
 ·right
  have hne : Lf.isEmpty = false := by simp [Array.isEmpty, h0]
  simp only [hne, Bool.false_eq_true, if_false, Array.empty_append, Array.size_map]
  obtain ⟨j, w1, hj, hs1, hh1, hrun⟩ := choose_some (P := P) (w := w) Lf.size (by omega)
  have hb1 : w1.heap[b]? = some (.mapIter (some mb) clock sn clock) := by rw [hh1]; exact hb
  have hmem := (hin Lf[j]).1 (by simp)
  refine ⟨Lf[j], { w1 with heap := w1.heap.setIfInBounds b (.mapIter (some mb) clock (sn.push Lf[j].born) clock) }, hmem.1, hmem.2, by simp [Array.getElem?_setIfInBounds, hh1, hlt], ?_, ?_⟩
  ·exact ((hs1 M).widen (fun _ h => h.elim) (fun k hk => by subst hk; exact hm)).trans (step_setObj M hm) (fun _ _ h => h)
  ·simp only [hrun, Result.andThen_ok, Array.getElem?_map, Array.getElem?_eq_getElem hj, Option.map_some, Sem.run_bind]
   simp [setObj, Sem.run, hb1]
theorem Rg.nextMap (hx : ev L x = some (.pointer (some ⟨b, 0, none⟩))) (hb : w.heap[b]? = some (.mapIter (some mb) clock sn clock)) (hm : M b) (h : MapW P kt w mb es clock) (hd : Nat.blt d n = true)
  (k1 : ∀ e w', e ∈ es → e.born ∉ sn → w'.heap[b]? = some (.mapIter (some mb) clock (sn.push e.born) clock) → Step M w M w' (fun k => k = b) → Rg P r n ops rest ((d, .tuple #[.bool true, e.key, e.val]) :: L) ds w' K)
  (k2 : (∀ e ∈ es, e.born ∈ sn) → Rg P r n ops rest ((d, .tuple #[.bool false]) :: L) ds w K) :
  Rg P r n ops ({ dst := some d, op := .next x false, type := ty, pos, after := af, guard := none } :: rest) L ds w K := by
 rcases run_next (ty := ty) h hb hm with ⟨h1, h2⟩ | ⟨e, w', h1, h2, h3, h4, h5⟩
 ·refine .op (fun _ h => by cases h) rfl rfl hd _ w (fun ρ hρ => ?_) (k2 h1)
  simp only [execOp, hρ x _ hx]
  simp [h2]
 ·refine .op (fun _ h => by cases h) rfl rfl hd _ w' (fun ρ hρ => ?_) (k1 e w' h1 h2 h3 h4)
  simp only [execOp, hρ x _ hx]
  simp [h5]
theorem Rg.entry {e : MapEntry} {sn' : Array Nat} (hx : ev L x = some (.pointer (some ⟨b, 0, none⟩))) (hb : w.heap[b]? = some (.mapIter (some mb) clock (sn'.push e.born) clock)) (h : MapW P kt w mb es clock) (he : e ∈ es) (hd : Nat.blt d n = true)
  (k : Rg P r n ops rest ((d, .tuple #[e.key, e.val]) :: L) ds w K) :
  Rg P r n ops ({ dst := some d, op := .entry x, type := ty, pos, after := af, guard := none } :: rest) L ds w K := by
 have hf : es.find? (fun x => x.born == e.born) = some e := by
  rw [List.find?_eq_some_iff_getElem]
  obtain ⟨i, hi⟩ := List.mem_iff_getElem?.1 he
  obtain ⟨h1, h2⟩ := List.getElem?_eq_some_iff.1 hi
  refine ⟨by simp, i, h1, h2, fun j hj => ?_⟩
  have hjl : j < es.length := by omega
  have := fun q => h.born_one (List.getElem?_eq_getElem hjl) hi q
  simp only [Bool.not_eq_true', beq_eq_false_iff_ne, ne_eq]
  intro q
  have := this q
  omega
 refine .op (fun _ h => by cases h) rfl rfl hd _ w (fun ρ hρ => ?_) k
 simp only [execOp, hρ x _ hx, Instr.entry, Sem.run_bind, run_getObj_iter hb, Result.andThen_ok, run_getObj_map' h.at_]
 simp [hf, Sem.run_bind, run_getObj_map' h.at_]
end
end Go.K
namespace Go.K
open Go.Proofs
set_option linter.unusedVariables false
set_option linter.unusedSimpArgs false
set_option maxRecDepth 10000
theorem filter_lt {α : Type} {p q : α → Bool} {a : α} : ∀ {l : List α}, (∀ x ∈ l, q x = true → p x = true) → a ∈ l → p a = true → q a = false → (l.filter q).length < (l.filter p).length
 |[], _, ha, _, _ => by cases ha
 |x :: l, h, ha, hp, hq => by
  have hle : (l.filter q).length ≤ (l.filter p).length := by
   rw [← List.countP_eq_length_filter, ← List.countP_eq_length_filter]
   exact List.countP_mono_left fun y hy => h y (List.mem_cons_of_mem _ hy)
  rcases List.mem_cons.1 ha with rfl | ha
  ·rw [List.filter_cons_of_pos hp, List.filter_cons_of_neg (by simp [hq])]; simp; omega
  ·have := filter_lt (fun y hy => h y (List.mem_cons_of_mem _ hy)) ha hp hq
   by_cases hx : q x = true
   ·rw [List.filter_cons_of_pos hx, List.filter_cons_of_pos (h x (List.mem_cons_self ..) hx)]; simp; omega
   ·rw [List.filter_cons_of_neg hx]
    by_cases hx2 : p x = true
    ·rw [List.filter_cons_of_pos hx2]; simp; omega
    ·rw [List.filter_cons_of_neg hx2]; omega
theorem MapW.key_eq {P : Program} {kt : TypeId} {w : World} {b clock : Nat} {es : List MapEntry} (h : MapW P kt w b es clock) {x y : MapEntry} (hx : x ∈ es) (hy : y ∈ es) (hk : x.key = y.key) : x = y := by
 obtain ⟨i, hi⟩ := List.mem_iff_getElem?.1 hx
 obtain ⟨j, hj⟩ := List.mem_iff_getElem?.1 hy
 rcases Nat.lt_trichotomy i j with hij | rfl | hij
 ·exact absurd hk (pair_idx h.keys hi hj hij)
 ·exact Option.some.inj (hi.symm.trans hj)
 ·exact absurd hk.symm (pair_idx h.keys hj hi hij)
theorem MapW.born_eq {P : Program} {kt : TypeId} {w : World} {b clock : Nat} {es : List MapEntry} (h : MapW P kt w b es clock) {x y : MapEntry} (hx : x ∈ es) (hy : y ∈ es) (hk : x.born = y.born) : x = y := by
 obtain ⟨i, hi⟩ := List.mem_iff_getElem?.1 hx
 obtain ⟨j, hj⟩ := List.mem_iff_getElem?.1 hy
 rcases Nat.lt_trichotomy i j with hij | rfl | hij
 ·exact absurd hk (pair_idx h.born hi hj hij)
 ·exact Option.some.inj (hi.symm.trans hj)
 ·exact absurd hk.symm (pair_idx h.born hj hi hij)
def IsIt (w : World) (k : Nat) : Prop := ∃ m s sn c, w.heap[k]? = some (.mapIter m s sn c)
def Known (es : List MapEntry) : Prop := ∀ e ∈ es, ∃ t : Fd, e.key = kv t ∧ t.1.length ≤ 140737488355328 ∧ t.2.length ≤ 140737488355328
theorem keys1_spec {yl bs mb clock : Nat} {es : List MapEntry} {J : List Fd → World → Prop} (w0 : World) (hk : Known es) (hJs : ∀ ts w w' N, J ts w → Step allM w allM w' N → (∀ k, k < w.heap.size → N k → w0.heap.size ≤ k ∧ IsIt w k) → J ts w') (hJb : ∀ ts w, J ts w → w.heap[bs]? = some (.cells #[.map (some mb)] 227 (0, 0)) ∧ MapW Tryz.prog 47 w mb es clock) (hy : ∀ ts w (t : Fd), J ts w → (∃ e ∈ es, e.key = kv t) → t ∉ ts → ts.length < es.length → Yield Tryz.prog yl [kv t].toArray w (fun r w' => r = .bool true ∧ J (ts ++ [t]) w' ∧ ∃ N, Step allM w allM w' N ∧ ∀ k, N k → ¬ IsIt w k)) (h0 : J [] w0) :
  Spec Tryz.prog 197 #[.func (.yield yl) #[] #[], .pointer (some ⟨bs, 0, none⟩)] w0 (fun v w => ∃ ts, J ts w ∧ ts.Nodup ∧ ∀ t, t ∈ ts ↔ ∃ e ∈ es, e.key = kv t) := by
 obtain ⟨gb, hW⟩ := hJb _ _ h0
 have hJ := h0
 clear h0
 refine spec_of (args := [_, _]) (fn := Tryz.f197) Tryz.func197 rfl (n := 14) Tryz.ntmps197 ?_
 have S : Step allM w0 allM w0 allM := (Step.refl _ _).widen (fun _ h => h.elim) (fun _ _ => trivial)
 refine T.seq ?_
 refine T.region ?_
 refine Rg.loadc Tryz.underlying227 rfl rfl rfl (by assumption) rfl ?_
 refine Rg.rangeMap allM Tryz.underlying227 rfl rfl hW (fun bi w1 hb1 hb2 gi s1 => ?_)
 replace s1 := s1.all --@step s1 gi
 --@box gi
 have := lt_of_get gb
 replace gb := s1.same0 gb
 replace hJ := hJs _ _ _ _ hJ s1 (fun _ _ h => h.elim)
 have := S.size
 replace S := S.trans0 s1
 refine Rg.nil ?_
 refine T.block ?_
 refine T.loop (σ := List Fd × Array Nat) (fun s => [(0, .func (.yield yl) #[] #[]), (1, .pointer (some ⟨bs, 0, none⟩)), (5, .pointer (some ⟨bi, 0, none⟩))]) (fun s w => J s.1 w ∧ Step allM w0 allM w allM ∧ w.heap[bi]? = some (.mapIter (some mb) clock s.2 clock) ∧ s.1.Nodup ∧ (∀ e ∈ es, e.born ∈ s.2 ↔ ∃ t ∈ s.1, e.key = kv t) ∧ (∀ t ∈ s.1, ∃ e ∈ es, e.key = kv t)) (fun s => (es.filter fun e => decide (e.born ∉ s.2)).length) ([], #[]) (.cons rfl (.cons rfl (.cons rfl .nil))) ?_ ?_
 ·exact ⟨hJ, S, gi, List.nodup_nil, fun e _ => by simp, fun t h => by cases h⟩
 ·rintro ⟨ts, sn⟩ w ⟨hJ, S, gi, hnd, hsn, hin⟩
  dsimp only at hJ gi hnd hsn hin ⊢
  obtain ⟨gb, hW⟩ := hJb _ _ hJ
  refine T.seq ?_
  refine T.region ?_
  refine Rg.nextMap (M := allM) rfl gi trivial hW rfl (fun e1_0 w1_0 he1_0 hn1_0 g1_0 s1_0 => ?_) (fun n1_0 => ?_)
  ·have gi0 := gi
   replace gb := s1_0.keep gb (fun hk => by have hk : _ = _ := hk; omega)
   replace hJ := hJs _ _ _ _ hJ s1_0 (fun k hk h => by have h : k = bi := h; subst h; exact ⟨hb1, _, _, _, _, gi0⟩)
   have := S.size
   replace S := S.trans s1_0 (fun k hk h => by have h : _ = _ := h; subst h; first | (exfalso; omega) | (show _ ≤ _; omega) | exact .inl rfl | exact .inr rfl | exact .inr (.inl rfl) | exact .inr (.inr rfl) | exact rfl)
   have gi_ := g1_0
   clear gi
   have gi := gi_
   clear gi_
   refine Rg.extract rfl rfl rfl ?_
   refine Rg.nil ?_
   refine T.seq ?_
   refine T.ift rfl ?_
   refine T.skip ?_
   refine T.block ?_
   refine T.seq ?_
   refine T.region ?_
   refine Rg.entry rfl gi (hJb _ _ hJ).2 he1_0 rfl ?_
   obtain ⟨t, hkt, ht1, ht2⟩ := hk _ he1_0
   have hnt : t ∉ ts := fun h => hn1_0 ((hsn _ he1_0).2 ⟨t, h, hkt⟩)
   have hlt : ts.length < es.length := by
    have h1 : ((t :: ts).map kv).Nodup := List.pairwise_map.2 ((List.nodup_cons.2 ⟨hnt, hnd⟩).imp fun h e => h (kv_inj e))
    have h2 := h1.length_le_of_subset (l₂ := es.map (·.key)) (fun x hx => by
     obtain ⟨u, hu, rfl⟩ := List.mem_map.1 hx
     rcases List.mem_cons.1 hu with rfl | hu
     ·rw [← hkt]; exact List.mem_map_of_mem he1_0
     ·obtain ⟨e, he, h⟩ := hin u hu; rw [← h]; exact List.mem_map_of_mem he)
    simp at h2; omega
   rw [hkt]
   refine Rg.extract rfl rfl rfl ?_
   refine Rg.newagg (A := RT.fd) (M := none') I47 rfl rfl rfl rfl rfl (kv_V ht1 ht2) (Le.refl _ _) (Lt.none _) (fun u2 w2 hu2 s2 z2 => ?_)
   replace s2 := s2.all --@step s2
   have := lt_of_get gb
   replace gb := s2.same0 gb
   have := lt_of_get gi
   replace gi := s2.same0 gi
   replace hJ := hJs _ _ _ _ hJ s2 (fun _ _ h => h.elim)
   have := S.size
   replace S := S.trans0 s2
   skip
   refine Rg.nil ?_
   refine T.seq ?_
   refine T.region ?_
   refine Rg.move rfl rfl ?_
   refine Rg.loadagg (M := none') (A := RT.fd) Tryz.underlying47 rfl I47 (by decide) rfl rfl rfl hu2 (Le.refl _ _) (fun v3 hv3 => ?_)
   obtain rfl := fd_val hv3
   refine Rg.yield (vs := [kv t]) rfl rfl rfl (hy _ _ t hJ ⟨_, he1_0, hkt⟩ hnt hlt) (fun r3 w3 hc => ?_)
   obtain ⟨rfl, hJ3, N3, s3, hN3⟩ := hc
   clear g1_0
   replace gi := s3.keep gi (fun h => hN3 _ h ⟨_, _, _, _, gi⟩)
   replace hJ := hJ3
   clear hJ3
   obtain ⟨gb, -⟩ := hJb _ _ hJ
   replace S := S.trans s3 (fun _ _ _ => trivial) --@bool true
   refine Rg.not rfl rfl ?_
   refine Rg.eqv (v' := .bool false) rfl ?_
   refine Rg.nil ?_
   refine T.iff rfl ?_
   refine T.skip ?_
   refine ⟨rfl, (ts ++ [t], sn.push e1_0.born), (.cons rfl (.cons rfl (.cons rfl .nil))), ?_, ?_⟩
   ·have hone : ∀ e ∈ es, e.born = e1_0.born ↔ e.key = kv t := fun e he => by
     constructor
     ·intro h
      rw [MapW.born_eq hW he he1_0 h, hkt]
     ·intro h
      rw [MapW.key_eq hW he he1_0 (h.trans hkt.symm)]
    refine ⟨hJ, S, gi, List.nodup_append.2 ⟨hnd, by simp, fun a ha b hb h => by simp at hb; subst hb; subst h; exact hnt ha⟩, fun e he => ?_, fun u hu => ?_⟩
    ·rw [Array.mem_push, hsn e he, hone e he]
     constructor
     ·rintro (⟨u, h1, h2⟩ | h)
      ·exact ⟨u, List.mem_append_left _ h1, h2⟩
      ·exact ⟨t, by simp, h⟩
     ·rintro ⟨u, h1, h2⟩
      rcases List.mem_append.1 h1 with h1 | h1
      ·exact .inl ⟨u, h1, h2⟩
      ·simp at h1; subst h1; exact .inr h2
    ·rcases List.mem_append.1 hu with hu | hu
     ·exact hin u hu
     ·simp at hu; subst hu; exact ⟨_, he1_0, hkt⟩
   ·exact filter_lt (a := e1_0) (fun e _ h => by simp only [decide_eq_true_eq, Array.mem_push, not_or] at h ⊢; exact h.1) he1_0 (by simpa using hn1_0) (by simp)
  ·refine Rg.extract rfl rfl rfl ?_
   refine Rg.nil ?_
   refine T.seq ?_
   refine T.iff rfl ?_
   refine T.exit ?_
   first | refine EndP.nil ?_ | simp +decide only [Kseq, Kblock, if_true, if_false] | skip
   exact Kret0n rfl ⟨ts, hJ, hnd, fun t => ⟨hin t, fun ⟨e, he, hkt⟩ => by obtain ⟨t', h1, h2⟩ := (hsn e he).1 (n1_0 e he); rw [← kv_inj (h2.symm.trans hkt)]; exact h1⟩⟩
end Go.K
namespace Go.K
open Go.Proofs
set_option linter.unusedVariables false
set_option linter.unusedSimpArgs false
set_option maxRecDepth 10000
theorem AllR.any {α : Type} {A : RT α} (hA : ∀ M w M' w' x vs, A.R M w x vs → A.R M' w' x vs) {M M' : PSet} {w w' : World} : ∀ {xs : List α} {C : List Value}, AllR A M w xs C → AllR A M' w' xs C
 |[], _, h => h
 |x :: xs, C, h => by
  obtain ⟨vs, r, h1, h2, h3⟩ := h
  exact ⟨vs, r, h1, hA _ _ _ _ _ _ h2, AllR.any hA h3⟩
theorem fd_any (M : PSet) (w : World) (M' : PSet) (w' : World) (x : Fd) (vs : List Value) (h : RT.fd.R M w x vs) : RT.fd.R M' w' x vs := h
theorem Own.keepA {α : Type} {A : RT α} (hA : ∀ M w M' w' x vs, A.R M w x vs → A.R M' w' x vs) {e : TypeId} {M N : PSet} {w w' : World} {base : Nat} {v : Value} {xs : List α} (h : Own A e M w base v xs) (s : Step allM w allM w' N) (hn : ∀ b, v.ownBlock = some b → ¬ N b) : Own A e (blkM v) w' base v xs := by
 obtain ⟨⟨C, h1, h2⟩, _⟩ := h
 refine ⟨⟨C, ⟨h1.1, ?_⟩, AllR.any hA h2⟩, fun _ h => h⟩
 rcases h1.2 with h3 | ⟨g, cap, cur, h3, h4, h5, h6, h7, h8⟩
 ·exact .inl h3
 ·exact .inr ⟨g, cap, cur, h3, h4, by rw [s.same g (lt_of_get h5) (hn g (by rw [h3]; rfl))]; exact h5, h6, h7, h8⟩
theorem Own.isCells {α : Type} {A : RT α} {e : TypeId} {M : PSet} {w : World} {base b : Nat} {v : Value} {xs : List α} (h : Own A e M w base v xs) (hb : v.ownBlock = some b) : ∃ cs, w.heap[b]? = some (.cells cs e (0, 0)) := by
 obtain ⟨⟨C, h1, _⟩, _⟩ := h
 rcases h1.2 with h3 | ⟨g, cap, cur, h3, h4, h5, _⟩
 ·rw [h3.1] at hb; cases hb
 ·rw [h3] at hb; cases hb; exact ⟨_, h5⟩
structure Aq (w0 : World) (bt D : Nat) (st : Loop) (v : Value) (ts : List Fd) (w : World) : Prop where
 S : Step allM w0 allM w none'
 c : w.heap[bt]? = some (.cells #[v] 98 (0, 0))
 o : Own RT.fd 47 (blkM v) w w0.heap.size v ts
 d : w.heap[D]? = some (.deferred (some []))
 r : w.heap[D + 1]? = some (.loop st)
 hb : w0.heap.size ≤ bt
 hD : w0.heap.size ≤ D
theorem Aq.step {w0 w w' : World} {bt D : Nat} {st : Loop} {v : Value} {ts : List Fd} {N : PSet} (h : Aq w0 bt D st v ts w) (s : Step allM w allM w' N) (hN : ∀ k, k < w.heap.size → N k → w0.heap.size ≤ k ∧ IsIt w k) : Aq w0 bt D st v ts w' := by
 have no : ∀ {k o}, w.heap[k]? = some o → (∀ m s sn c, o ≠ .mapIter m s sn c) → ¬ N k := fun hk ho hn => by
  obtain ⟨_, m, s, sn, c, h'⟩ := hN _ (lt_of_get hk) hn
  rw [hk] at h'; exact ho m s sn c (Option.some.inj h')
 refine ⟨h.S.trans s (fun k hk hn => ?_), s.keep h.c (no h.c (by intros; simp)), h.o.keepA fd_any s (fun b hb => ?_), s.keep h.d (no h.d (by intros; simp)), s.keep h.r (no h.r (by intros; simp)), h.hb, h.hD⟩
 ·have := (hN k (Nat.lt_of_lt_of_le hk h.S.size) hn).1; omega
 ·obtain ⟨cs, hc⟩ := h.o.isCells hb
  exact no hc (by intros; simp)
theorem Aq.setR {w0 w : World} {bt D : Nat} {st st' : Loop} {v : Value} {ts : List Fd} (h : Aq w0 bt D st v ts w) : Aq w0 bt D st' v ts (w.putObj (D + 1) (.loop st')) := by
 have s : Step allM w allM (w.putObj (D + 1) (.loop st')) (fun k => k = D + 1) := step_putObj trivial
 have hD := h.hD
 refine ⟨h.S.trans s (fun k hk hn => by have hn : k = D + 1 := hn; omega), s.keep h.c (fun hn => by have hn : bt = D + 1 := hn; have h1 := h.c; rw [hn, h.r] at h1; cases h1), h.o.keepA fd_any s (fun b hb hn => ?_), s.keep h.d (fun hn => by have hn : D = D + 1 := hn; omega), by have := lt_of_get h.r; simp [World.putObj, Array.getElem?_setIfInBounds, this], h.hb, h.hD⟩
 have hn : b = D + 1 := hn
 obtain ⟨cs, hc⟩ := h.o.isCells hb
 rw [hn, h.r] at hc; cases hc
theorem gather_spec {bs mb clock : Nat} {es : List MapEntry} (w0 : World) (hk : Known es) (hes : es.length ≤ 100000000) (gbs : w0.heap[bs]? = some (.cells #[.map (some mb)] 227 (0, 0))) (hW : MapW Tryz.prog 47 w0 mb es clock) :
  Spec Tryz.prog 233 #[.slice none 0 0, .func (.func 197) #[] [.pointer (some ⟨bs, 0, none⟩)].toArray] w0 (fun v w => ∃ ts : List Fd, ts.Nodup ∧ (∀ t, t ∈ ts ↔ ∃ e ∈ es, e.key = kv t) ∧ Own RT.fd 47 (blkM v) w w0.heap.size v ts ∧ Step allM w0 allM w none') := by
 refine spec_ofM (args := [_, _]) (fn := Tryz.f233) Tryz.func233 rfl (n := 13) Tryz.ntmps233 ?_
 refine T.seq ?_
 refine T.region ?_
 refine Rg.box allM rfl rfl (fun bt w1 hb1 hb1' gt s1 => ?_)
 change w1.heap[bt]? = some (.cells #[.slice none 0 0] 98 (0, 0)) at gt
 replace s1 := s1.all
 refine Rg.assign rfl rfl ?_
 refine Rg.nil ?_
 refine T.seq ?_
 refine T.seq ?_
 refine T.region ?_
 refine Rg.move rfl rfl ?_
 refine Rg.nil ?_
 refine T.block ?_
 refine T.range (gf := 197) (lb := [.pointer (some ⟨bs, 0, none⟩)].toArray) rfl E197 (fun rec hrec => ?_)
 obtain ⟨D, hD⟩ : ∃ D, D = w1.heap.size := ⟨_, rfl⟩
 have sA : Step allM w1 allM ((w1.alloc (.deferred (some []))).alloc (.loop (rec .ready none))) none' := (step_alloc _ _ _).trans0 (step_alloc _ _ _)
 have h0 : Aq w0 bt D (rec .ready none) (.slice none 0 0) [] ((w1.alloc (.deferred (some []))).alloc (.loop (rec .ready none))) := by
  refine ⟨s1.trans0 sA, sA.same0 gt, Own.nil _ _ _ _ _, ?_, ?_, hb1, by rw [hD]; exact s1.size⟩
  ·rw [hD]; exact (step_alloc allM (w1.alloc _) _).same0 (heap_alloc_at w1 _)
  ·rw [hD]; have := heap_alloc_at (w1.alloc (.deferred (some []))) (.loop (rec .ready none)); rwa [World.size_alloc] at this
 rw [← hD] at hrec ⊢
 have hz := h0.S.size
 refine Spec.mono (keys1_spec (J := fun ts w => ∃ v, Aq w0 bt D (rec .ready none) v ts w) _ hk (fun ts w w' N ⟨v, h⟩ s hN => ⟨v, h.step s (fun k hk hn => ⟨Nat.le_trans hz (hN k hk hn).1, (hN k hk hn).2⟩)⟩) (fun ts w ⟨v, h⟩ => ⟨h.S.same0 gbs, hW.step0 h.S⟩) (fun ts wr t hJ hin hnt hlt => ?_) ⟨_, h0⟩) (fun _ w3 h3 => ?_)
 ·obtain ⟨v, h⟩ := hJ
  obtain ⟨e, he, hke⟩ := hin
  obtain ⟨t', hkt', ht1, ht2⟩ := hk e he
  obtain rfl := kv_inj (hke.symm.trans hkt')
  have hzr := lt_of_get h.r
  refine yield_rec (ps := [7]) (vs := [kv t]) hrec h.r rfl (by decide) ?_
  refine T.region ?_
  refine Rg.newagg (A := RT.fd) (M := fun k => k = D + 1) I47 rfl rfl rfl rfl rfl (kv_V ht1 ht2) (Le.refl _ _) (fun k hk => by have hk : k = D + 1 := hk; omega) (fun u2 w2 hu2 s2 z2 => ?_)
  replace s2 := s2.all
  skip
  refine Rg.nil ?_
  refine ⟨rfl, s2.same0 h.r, ?_⟩
  have h4 := (h.step s2 (fun _ _ h => h.elim)).setR (st' := rec .busy none)
  have s3' : Step (fun k => k = D + 1) w2 (fun k => k = D + 1) (w2.putObj (D + 1) (.loop (rec .busy none))) (fun k => k = D + 1) := step_putObj rfl
  have s3 := s3'.all
  have hu4 := hu2.le (by decide) s3'.le
  clear s3'
  generalize w2.putObj (D + 1) _ = w4 at h4 s3 hu4 ⊢
  refine T.block ?_
  refine T.region ?_
  refine Rg.loadc Tryz.underlying98 rfl rfl rfl h4.c rfl ?_
  refine Rg.loadagg (M := fun k => k = D + 1) (A := RT.fd) Tryz.underlying47 rfl I47 (by decide) rfl rfl rfl hu4 (Le.refl _ _) (fun v3 hv3 => ?_)
  obtain rfl := fd_val hv3
  refine Rg.sl1 (A := RT.fd) (hn := by decide) (M := blkM v) Tryz.underlying98 I47 (by decide) rfl rfl (fun b hb => (h4.o.base b hb).2) (kv_V ht1 ht2) (.inl rfl) (fun u5 w5 hu5 s5 => ?_)
  refine Rg.append (M := blkM v) (base := w0.heap.size) Tryz.underlying98 I47 rfl rfl rfl rfl (h4.o.step0 s5) hu5 (Le.refl _ _) (by simp; omega) (by simp; omega) (Nat.le_trans h4.S.size s5.size) (fun v6 M6 w6 ho6 s6 => ?_)
  have gc := s6.all.keep (s5.all.same0 h4.c) (fun hn => h4.o.neT h4.c (by decide) hn)
  refine Rg.storec (M := allM) I98 rfl rfl gc rfl (by obtain ⟨_, _, he, _⟩ := ho6.isSlice; rw [he]; rfl) trivial (fun w7 gc7 s7 => ?_)
  refine Rg.nil ?_
  have own6 : ∀ k, blkM v k → ¬ IsIt wr k := fun k hk ⟨_, _, _, _, h9⟩ => by
   obtain ⟨cs, hc⟩ := h.o.isCells hk
   rw [hc] at h9; cases h9
  have pr : ∀ k, k < wr.heap.size → k = D + 1 → ¬ IsIt wr k := fun k _ hk ⟨_, _, _, _, h9⟩ => by subst hk; rw [h.r] at h9; cases h9
  have pc : ∀ k, k < wr.heap.size → k = bt → ¬ IsIt wr k := fun k _ hk ⟨_, _, _, _, h9⟩ => by subst hk; rw [h.c] at h9; cases h9
  have h7 : Aq w0 bt D (rec .busy none) v6 (ts ++ [t]) w7 := by
   have nb : ∀ b, v6.ownBlock = some b → b ≠ bt := fun b hb hn => by subst hn; exact ho6.neT gc (by decide) hb
   refine ⟨?_, gc7, ho6.keepA fd_any s7 nb, ?_, ?_, h.hb, h.hD⟩
   ·refine ((h4.S.trans0 s5.all).trans s6.all (fun k hk hn => ?_)).trans s7 (fun k hk hn => ?_)
    ·have := (h4.o.base k hn).1; omega
    ·have hn : k = bt := hn; have := h.hb; omega
   ·exact s7.keep (s6.all.keep (s5.all.same0 h4.d) (fun hn => by obtain ⟨cs, hc⟩ := h4.o.isCells hn; rw [h4.d] at hc; cases hc)) (fun hn => by have hn : D = bt := hn; have h1 := h.c; rw [← hn, h.d] at h1; cases h1)
   ·exact s7.keep (s6.all.keep (s5.all.same0 h4.r) (fun hn => by obtain ⟨cs, hc⟩ := h4.o.isCells hn; rw [h4.r] at hc; cases hc)) (fun hn => by have hn : D + 1 = bt := hn; have h1 := h.c; rw [← hn, h.r] at h1; cases h1)
  have s8 : Step allM w7 allM (w7.putObj (D + 1) (.loop (rec .ready none))) (fun k => k = D + 1) := step_putObj trivial
  exact ⟨h7.r, rfl, ⟨v6, h7.setR⟩, fun k => ¬ IsIt wr k, (((((s2.widen (fun _ h => h.elim) (fun _ _ => trivial)).trans s3 pr).trans0 s5.all).trans s6.all (fun k _ hn => own6 k hn)).trans s7 pc).trans s8 pr, fun _ h => h⟩
 ·obtain ⟨ts, ⟨v, h⟩, hnd, hin⟩ := h3
  left
  refine ⟨h.r, ?_⟩
  have h5 := h.setR (st' := rec .exhausted none)
  generalize w3.putObj (D + 1) _ = wE at h5 ⊢
  refine T.seq ?_
  refine T.region ?_
  refine Rg.loadc Tryz.underlying98 rfl rfl rfl h5.c rfl ?_
  refine Rg.assign rfl rfl ?_
  refine Rg.nil ?_
  refine T.ret ?_
  have sE : Step allM wE allM (wE.putObj D (.deferred none)) (fun k => k = D) := step_putObj trivial
  have hDD := h.hD
  exact KretM1 rfl rfl h5.d ⟨ts, hnd, hin, h5.o.keepA fd_any sE (fun b hb hn => by have hn : b = D := hn; obtain ⟨cs, hc⟩ := h5.o.isCells hb; rw [hn, h5.d] at hc; cases hc), h5.S.trans sE (fun k hk hn => by have hn : k = D := hn; omega)⟩
end Go.K
namespace Go.K
open Go.Proofs
set_option linter.unusedVariables false
set_option linter.unusedSimpArgs false
set_option maxRecDepth 10000
theorem collect_spec {bs mb clock : Nat} {es : List MapEntry} (w0 : World) (hk : Known es) (hes : es.length ≤ 100000000) (gbs : w0.heap[bs]? = some (.cells #[.map (some mb)] 227 (0, 0))) (hW : MapW Tryz.prog 47 w0 mb es clock) :
  Spec Tryz.prog 195 #[.func (.func 197) #[] [.pointer (some ⟨bs, 0, none⟩)].toArray] w0 (fun v w => ∃ ts : List Fd, ts.Nodup ∧ (∀ t, t ∈ ts ↔ ∃ e ∈ es, e.key = kv t) ∧ Own RT.fd 47 (blkM v) w w0.heap.size v ts ∧ Step allM w0 allM w none') := by
 refine spec_of (args := [_]) (fn := Tryz.f195) Tryz.func195 rfl (n := 5) Tryz.ntmps195 ?_
 refine T.seq ?_
 refine T.region ?_
 refine Rg.assign rfl rfl ?_
 refine Rg.nil ?_
 refine T.seq ?_
 refine T.region ?_
 refine Rg.move rfl rfl ?_
 refine Rg.call rfl rfl E233 (gather_spec _ hk hes gbs hW) (fun r w1 hc => ?_)
 refine Rg.assign rfl rfl ?_
 refine Rg.nil ?_
 refine T.ret ?_
 exact Kret1 rfl rfl hc
def keyE (t : Fd) : List UInt8 := t.1 ++ [0] ++ t.2
theorem key_spec {M : PSet} {t : Fd} (w0 : World) (hM : Lt M w0) (h1 : t.1.length ≤ 1000000) (h2 : t.2.length ≤ 1000000) :
  Spec Tryz.prog 74 #[kv t] w0 (fun v w => v = .string ⟨(keyE t).toArray⟩ ∧ Step M w0 M w none') := by
 refine spec_of (args := [_]) (fn := Tryz.f74) Tryz.func74 rfl (n := 9) Tryz.ntmps74 ?_
 have S : Step M w0 M w0 none' := (Step.refl _ _).widen (fun _ h => h.elim) (fun _ h => h.elim)
 refine T.seq ?_
 refine T.region ?_
 refine Rg.boxp (A := RT.fd) rfl rfl hM (kv_V (by omega) (by omega)) rfl (fun u0 w1 hu0 s0 _ => ?_) --@step s0
 --@vf hu0*
 --@ptr RT.fd ;; t
 replace hM := s0.lt hM
 have := S.size
 replace S := S.trans0 s0
 refine Rg.assign rfl rfl ?_
 refine Rg.nil ?_
 refine T.seq ?_
 refine T.region ?_
 refine Rg.fieldAddr (M := M) (A := RT.fd) (B := RT.str) Tryz.underlying47 rfl rfl I9 (by decide) (fd0) rfl rfl (by decide) (by assumption) (by repeat (first | exact Le.refl _ _ | refine Le.trans (Step.le (by assumption)) ?_)) (fun u1_0 hu1_0 => ?_)
 refine Rg.load (M := M) Tryz.underlying9 rfl rfl rfl rfl rfl hu1_0 (Le.refl _ _) (fun v1 hv1 => ?_)
 obtain rfl := V_strE hv1
 refine Rg.cat (p := t.1) (q := [0]) rfl rfl rfl (by simp; omega) ?_
 refine Rg.fieldAddr (M := M) (A := RT.fd) (B := RT.str) Tryz.underlying47 rfl rfl I9 (by decide) (fd1) rfl rfl (by decide) (by assumption) (by repeat (first | exact Le.refl _ _ | refine Le.trans (Step.le (by assumption)) ?_)) (fun u1_3 hu1_3 => ?_)
 refine Rg.load (M := M) Tryz.underlying9 rfl rfl rfl rfl rfl hu1_3 (Le.refl _ _) (fun v4 hv4 => ?_)
 obtain rfl := V_strE hv4
 refine Rg.cat (p := t.1 ++ [0]) (q := t.2) rfl rfl rfl (by simp; omega) ?_
 refine Rg.assign rfl rfl ?_
 refine Rg.nil ?_
 refine T.ret ?_
 exact Kret1 rfl rfl ⟨rfl, S⟩
end Go.K
namespace Go.K
open Go.Proofs
set_option linter.unusedVariables false
set_option linter.unusedSimpArgs false
set_option maxRecDepth 10000
theorem compare_spec (a b : List UInt8) (w : World) : Spec Tryz.prog 159 #[.string ⟨a.toArray⟩, .string ⟨b.toArray⟩] w (fun v w' => v = .int .i64 (Lib.compareBytes a b) ∧ w' = w) := (Any.strings_Compare Tryz.lays106 ⟨a.toArray⟩ ⟨b.toArray⟩ w).mono fun e w' ⟨h1, h2⟩ => ⟨_, h1, rfl, h2⟩
end Go.K
namespace Go.K
set_option linter.unusedVariables false
set_option linter.unusedSimpArgs false
section
variable {P : Program} {r : Option Nat} {n : Nat} {L : Sl} {ds : List Deferred} {w : World} {K : Kt} {ops : Array Oper} {rest : List Oper} {d : Nat} {x : Operand} {ty : TypeId} {pos : String} {af : Array Edge}
theorem DrawInv.tE {id : Nat} {l : List Oper} (hm : P.follows .mixedOrders = true) (hlex : lexOk l 0 = true) (h : DrawInv P r n l L ds (w.drewN 1) K) : T P r n (.region id l.toArray true) L ds w K := by
 refine ⟨fun a ha => wpIn_region_draw fun t => ?_⟩
 simp only [Region.schedule, hm, Bool.true_or, if_true, Region.linearise]
 obtain ⟨J, h1, h2, h3, h4⟩ := h a ha
 refine go_ordersJ (J := J) hlex (fun {D D' a w} hi hD => h1 D D' a w hi hD) (fun {D a' w' j o rest} hj ho hnD hp hcl hi hk => h2 _ _ _ _ _ _ _ hj ho hnD hp hcl hi hk) h3 _ t _ a _ (by simp) (by simp [List.countP_replicate]) (fun i o h1 h2 => ?_) (h1 _ _ _ _ h4 fun i _ => ?_)
 ·simp [Array.getElem?_replicate] at h2
 ·simp [Array.getElem?_replicate]
theorem T.drawPE {id : Nat} {l l' : List Oper} (π : List Nat) (m : Nat) (fl : List Nat) (c : Nat) (N : PSet) (hm : P.follows .mixedOrders = true) (hren : ren π l = l') (hlex0 : lexOk l 0 = true) (hπ : permOk π l.length = true) (hml : Nat.blt m l'.length = true) (hlex : lexOk l' 0 = true) (hsl : slotsOk l' m = true) (hfl : floatsOk l' m fl c = true)
  (h : QRg P r n l'.toArray (l'.take m) L ds (w.drewN 1) (fun L' => (∀ j o, j ∈ fl → l'[j]? = some o → FloatOk P N (w.drewN 1) L' o) ∧ TRg P r n l'.toArray N (w.drewN 1) K c (l'.drop m) L' ds (w.drewN 1))) : T P r n (.region id l.toArray true) L ds w K := by
 subst hren
 exact DrawInv.tE hm hlex0 (.perm π hπ hlex0 (drawInvF m fl c N hml hlex hsl hfl h))
theorem Rg.boxE {e : TypeId} {v : Value} (hx : ev L x = some v) (hd : Nat.blt d n = true) (k : Rg P r n ops rest ((d, .pointer (some ⟨w.heap.size, 0, none⟩)) :: L) ds (w.alloc (.cells v.cells e (0, 0))) K) :
  Rg P r n ops ({ dst := some d, op := .box e x, type := ty, pos, after := af, guard := none } :: rest) L ds w K := by
 refine .op (fun _ h => by cases h) rfl rfl hd _ (w.alloc (.cells v.cells e (0, 0))) (fun ρ hρ => ?_) k
 simp only [execOp, hρ x _ hx]
 simp [Instr.box, newVar, newRow, newObj, Sem.run]
theorem alloc_grow (w : World) (o : Obj) : w.alloc o = Go.Sort.grow w #[o] := by
 unfold World.alloc Go.Sort.grow
 congr 1
theorem grow_drewN (w : World) (os : Array Obj) (q : Nat) : (Go.Sort.grow w os).drewN q = Go.Sort.grow (w.drewN q) os := rfl
end
end Go.K
namespace Go.K
open Go.Proofs
set_option linter.unusedVariables false
set_option linter.unusedSimpArgs false
set_option maxRecDepth 10000
abbrev termO (t : Fd) : Obj := .cells #[.string ⟨t.1.toArray⟩, .string ⟨t.2.toArray⟩] 47 (0, 0)
theorem key_ex {t : Fd} (w0 : World) (h1 : t.1.length ≤ 1000000) (h2 : t.2.length ≤ 1000000) :
  Spec Tryz.prog 74 #[kv t] w0 (fun v w => v = .string ⟨(keyE t).toArray⟩ ∧ w = w0.alloc (termO t)) := by
 refine spec_of (args := [_]) (fn := Tryz.f74) Tryz.func74 rfl (n := 9) Tryz.ntmps74 ?_
 refine T.seq ?_
 refine T.region ?_
 refine Rg.boxE rfl rfl ?_
 have gb := heap_alloc_at w0 (termO t)
 change Rg _ _ _ _ _ _ _ (w0.alloc (termO t)) _
 generalize hw : w0.alloc (termO t) = w1 at gb ⊢
 refine Rg.assign rfl rfl ?_
 refine Rg.nil ?_
 refine T.seq ?_
 refine T.region ?_
 refine Rg.fieldc (o' := 0) Tryz.underlying47 rfl rfl I9 (by decide) rfl rfl ?_
 refine Rg.loadc Tryz.underlying9 rfl rfl rfl gb rfl ?_
 refine Rg.cat (p := t.1) (q := [0]) rfl rfl rfl (by simp; omega) ?_
 refine Rg.fieldc (o' := 1) Tryz.underlying47 rfl rfl I9 (by decide) rfl rfl ?_
 refine Rg.loadc Tryz.underlying9 rfl rfl rfl gb rfl ?_
 refine Rg.cat (p := t.1 ++ [0]) (q := t.2) rfl rfl rfl (by simp; omega) ?_
 refine Rg.assign rfl rfl ?_
 refine Rg.nil ?_
 refine T.ret ?_
 exact Kret1 rfl rfl ⟨rfl, rfl⟩
theorem inv2_ex {s t : Fd} (w0 : World) (h1 : s.1.length ≤ 1000000) (h2 : s.2.length ≤ 1000000) (h3 : t.1.length ≤ 1000000) (h4 : t.2.length ≤ 1000000) :
  Spec Tryz.prog 158 #[kv s, kv t] w0 (fun v w => v = .int .i64 (Lib.compareBytes (keyE s) (keyE t)) ∧ w = ((((w0.alloc (termO s)).alloc (termO t)).drewN 1).alloc (termO s)).alloc (termO t)) := by
 refine spec_of (args := [_, _]) (fn := Tryz.f158) Tryz.func158 rfl (n := 10) Tryz.ntmps158 ?_
 refine T.seq ?_
 refine T.region ?_
 refine Rg.boxE rfl rfl ?_
 change Rg _ _ _ _ _ _ _ (w0.alloc (termO s)) _
 refine Rg.boxE rfl rfl ?_
 change Rg _ _ _ _ _ _ _ ((w0.alloc (termO s)).alloc (termO t)) _
 have g1 : ((w0.alloc (termO s)).alloc (termO t)).heap[w0.heap.size]? = some (termO s) := (step_alloc none' _ _).same0 (heap_alloc_at w0 _)
 have g2 := heap_alloc_at (w0.alloc (termO s)) (termO t)
 have kp := Keep.refl none' (((w0.alloc (termO s)).alloc (termO t)).drewN 1)
 refine Rg.assign rfl rfl ?_
 refine Rg.nil ?_
 refine T.seq ?_
 apply T.drawPE [0, 2, 1, 3, 4, 5] 2 [1] 1 none' mixed
 ·simp +decide only [ren, renO, List.map_cons, List.map_nil, List.getD_cons_zero, List.getD_cons_succ, List.map_toArray, Option.map_some, Option.map_none, List.idxOf_cons, cond_true, cond_false, Nat.reduceBEq, Nat.reduceAdd, beq_self_eq_true]; rfl
 ·rfl
 ·rfl
 ·rfl
 ·rfl
 ·rfl
 ·rfl
 have g1' : (((w0.alloc (termO s)).alloc (termO t)).drewN 1).heap[w0.heap.size]? = some (termO s) := g1
 have g2' : (((w0.alloc (termO s)).alloc (termO t)).drewN 1).heap[(w0.alloc (termO s)).heap.size]? = some (termO t) := g2
 refine Rg.loadaggc (vs := [.string ⟨s.1.toArray⟩, .string ⟨s.2.toArray⟩]) Tryz.underlying47 rfl I47 rfl rfl rfl g1' ?_
 refine Rg.nil ⟨rfl, rfl, rfl, ?_⟩
 refine Rg.loadaggc (vs := [.string ⟨t.1.toArray⟩, .string ⟨t.2.toArray⟩]) Tryz.underlying47 rfl I47 rfl rfl rfl g2' ?_
 refine Rg.nil ⟨rfl, rfl, rfl, ?_⟩
 refine QRg.nil ?_
 refine ⟨Floats.all ⟨FloatOk.load rfl (by assumption) (by first | assumption | exact fun h => h | (intro h; have h : _ = _ := h; omega)), trivial⟩, ?_⟩
 replace kp := kp.go0 (step_alloc none' (((w0.alloc (termO s)).alloc (termO t)).drewN 1) (termO s))
 refine Rg.call rfl rfl E74 (key_ex (t := s) _ h1 h2) (fun r5 w5 hc => ?_)
 obtain ⟨rfl, rfl⟩ := hc
 refine (fun (kp : Keep _ _ _) => Rg.nil ⟨rfl, rfl, fun _ => kp, ?_⟩) (by first | exact kp | exact kp.go0 (by assumption) | exact kp.goN (by assumption) | exact kp.go (by assumption) (fun _ _ h => by first | exact h | exact h.elim))
 refine Rg.call rfl rfl E74 (key_ex (t := t) _ h3 h4) (fun r6 w6 hc => ?_)
 obtain ⟨rfl, rfl⟩ := hc
 refine Rg.nil ⟨rfl, rfl, fun h => absurd rfl h, ?_⟩
 refine Rg.call rfl rfl E159 (compare_spec _ _ _) (fun r7 w7 hc => ?_)
 obtain ⟨rfl, rfl⟩ := hc
 refine Rg.nil ⟨rfl, rfl, fun h => absurd rfl h, ?_⟩
 refine Rg.assign rfl rfl ?_
 refine Rg.nil ⟨rfl, rfl, fun h => absurd rfl h, ?_⟩
 refine TRg.nil ?_
 refine T.ret ?_
 exact Kret1 rfl rfl ⟨rfl, rfl⟩
end Go.K
namespace Go.K
set_option linter.unusedVariables false
set_option linter.unusedSimpArgs false
open Go.Lib (compareBytes)
theorem cmp_cons (a b : UInt8) (x y : List UInt8) : compareBytes (a :: x) (b :: y) = if a.toNat < b.toNat then -1 else if b.toNat < a.toNat then 1 else compareBytes x y := by
 rw [compareBytes]; simp only [UInt8.lt_iff_toNat_lt]
theorem cmp_self : ∀ a, compareBytes a a = 0
 |[] => rfl
 |a :: x => by rw [cmp_cons, if_neg (Nat.lt_irrefl _), if_neg (Nat.lt_irrefl _)]; exact cmp_self x
theorem cmp_zero : ∀ {a b}, compareBytes a b = 0 → a = b
 |[], [], _ => rfl
 |[], _ :: _, h => by simp [compareBytes] at h
 |_ :: _, [], h => by simp [compareBytes] at h
 |a :: x, b :: y, h => by
  rw [cmp_cons] at h
  split at h
  ·omega
  ·split at h
   ·omega
   ·rw [cmp_zero h, UInt8.toNat_inj.1 (show a.toNat = b.toNat by omega)]
theorem cmp_neg : ∀ a b, compareBytes a b = - compareBytes b a
 |[], [] => rfl
 |[], _ :: _ => rfl
 |_ :: _, [] => rfl
 |a :: x, b :: y => by
  rw [cmp_cons, cmp_cons, cmp_neg x y]
  split <;> split <;> first | omega | rfl
theorem cmp_trans : ∀ {a b c}, compareBytes a b < 0 → compareBytes b c < 0 → compareBytes a c < 0
 |[], [], _, h, _ => by simp [compareBytes] at h
 |_ :: _, [], _, h, _ => by simp [compareBytes] at h
 |_, _ :: _, [], _, h => by simp [compareBytes] at h
 |[], _ :: _, _ :: _, _, _ => by simp [compareBytes]
 |a :: x, b :: y, c :: z, h1, h2 => by
  rw [cmp_cons] at h1 h2 ⊢
  split at h1
  ·split at h2
   ·rw [if_pos (by omega)]; omega
   ·split at h2
    ·omega
    ·rw [if_pos (by omega)]; omega
  ·split at h1
   ·omega
   ·split at h2
    ·rw [if_pos (by omega)]; omega
    ·split at h2
     ·omega
     ·rw [if_neg (by omega), if_neg (by omega)]; exact cmp_trans h1 h2
theorem cmp_swo {α : Type} (f : α → List UInt8) : Go.Sort.SWO (Go.Proofs.ltOf fun x y => compareBytes (f x) (f y)) where
 irrefl x := by simp [Go.Proofs.ltOf, cmp_self]
 trans x y z h1 h2 := by
  simp only [Go.Proofs.ltOf, decide_eq_true_eq] at *
  exact cmp_trans h1 h2
 ntrans x y z h1 h2 := by
  simp only [Go.Proofs.ltOf, decide_eq_false_iff_not] at *
  intro h3
  by_cases e1 : compareBytes (f x) (f y) = 0
  ·rw [cmp_zero e1] at h3; exact h2 h3
  ·by_cases e2 : compareBytes (f y) (f z) = 0
   ·rw [cmp_zero e2] at h1; exact h1 h3
   ·have n1 := cmp_neg (f x) (f y)
    have n2 := cmp_neg (f y) (f z)
    have n3 := cmp_neg (f x) (f z)
    have : compareBytes (f z) (f x) < 0 := cmp_trans (b := f y) (by omega) (by omega)
    omega
end Go.K
namespace Go.Proofs
open Go.Shelf
def Tryz.sortFt_ren : Go.Shelf.Ren := ⟨fun | 6 => 196 | 15 => 166 | 14 => 234 | 28 => 210 | 29 => 211 | 20 => 261 | 21 => 262 | 22 => 263 | 23 => 264 | 24 => 265 | 25 => 266 | 26 => 267 | 27 => 268 | 46 => 281 | 47 => 246 | 48 => 247 | 49 => 282 | 50 => 283 | 57 => 290 | n => n, fun | 22 => 98 | 24 => 47 | 25 => 235 | 3 => 3 | 39 => 183 | 0 => 0 | 53 => 273 | 55 => 165 | 4 => 4 | 46 => 267 | 45 => 266 | 50 => 121 | 5 => 5 | 9 => 9 | 66 => 295 | 70 => 299 | 76 => 327 | 77 => 305 | n => n, fun | n => n⟩
theorem Tryz.sortFt : Go.Proofs.SlLaysF0.n6 Tryz.prog Tryz.sortFt_ren := {
 mixed := by kernel_rfl
 f6 := ⟨Tryz.f196.name, by decide, Tryz.func196.trans (congrArg some (by kernel_rfl))⟩
 f14 := ⟨Tryz.f234.name, by decide, Tryz.func234.trans (congrArg some (by kernel_rfl))⟩
 f15 := Tryz.func166.trans (congrArg some (by kernel_rfl))
 f20 := ⟨Tryz.f261.name, by decide, Tryz.func261.trans (congrArg some (by kernel_rfl))⟩
 f21 := ⟨Tryz.f262.name, by decide, Tryz.func262.trans (congrArg some (by kernel_rfl))⟩
 f22 := ⟨Tryz.f263.name, by decide, Tryz.func263.trans (congrArg some (by kernel_rfl))⟩
 f23 := ⟨Tryz.f264.name, by decide, Tryz.func264.trans (congrArg some (by kernel_rfl))⟩
 f24 := ⟨Tryz.f265.name, by decide, Tryz.func265.trans (congrArg some (by kernel_rfl))⟩
 f25 := ⟨Tryz.f266.name, by decide, Tryz.func266.trans (congrArg some (by kernel_rfl))⟩
 f26 := ⟨Tryz.f267.name, by decide, Tryz.func267.trans (congrArg some (by kernel_rfl))⟩
 f27 := ⟨Tryz.f268.name, by decide, Tryz.func268.trans (congrArg some (by kernel_rfl))⟩
 f28 := Tryz.func210.trans (congrArg some (by kernel_rfl))
 f29 := Tryz.func211.trans (congrArg some (by kernel_rfl))
 f46 := ⟨Tryz.f281.name, by decide, Tryz.func281.trans (congrArg some (by kernel_rfl))⟩
 f47 := Tryz.func246.trans (congrArg some (by kernel_rfl))
 f48 := Tryz.func247.trans (congrArg some (by kernel_rfl))
 f49 := ⟨Tryz.f282.name, by decide, Tryz.func282.trans (congrArg some (by kernel_rfl))⟩
 f50 := ⟨Tryz.f283.name, by decide, Tryz.func283.trans (congrArg some (by kernel_rfl))⟩
 f57 := ⟨Tryz.f290.name, by decide, Tryz.func290.trans (congrArg some (by kernel_rfl))⟩
 t0 := Tryz.underlying0
 a0 := Tryz.isAgg0
 z0 := Tryz.sizeOf0
 v0 := Tryz.zeroValue0
 t3 := Tryz.underlying3
 a3 := Tryz.isAgg3
 z3 := Tryz.sizeOf3
 v3 := Tryz.zeroValue3
 t4 := Tryz.underlying4
 a4 := Tryz.isAgg4
 z4 := Tryz.sizeOf4
 v4 := Tryz.zeroValue4
 t5 := Tryz.underlying5
 a5 := Tryz.isAgg5
 z5 := Tryz.sizeOf5
 v5 := Tryz.zeroValue5
 t9 := Tryz.underlying9
 a9 := Tryz.isAgg9
 z9 := Tryz.sizeOf9
 v9 := Tryz.zeroValue9
 t22 := Tryz.underlying98
 a22 := Tryz.isAgg98
 z22 := Tryz.sizeOf98
 v22 := Tryz.zeroValue98
 t25 := Tryz.underlying235
 a25 := Tryz.isAgg235
 z25 := Tryz.sizeOf235
 v25 := Tryz.zeroValue235
 t39 := Tryz.underlying183
 a39 := Tryz.isAgg183
 z39 := Tryz.sizeOf183
 v39 := Tryz.zeroValue183
 t45 := Tryz.underlying266
 a45 := Tryz.isAgg266
 z45 := Tryz.sizeOf266
 v45 := Tryz.zeroValue266
 t46 := Tryz.underlying267
 a46 := Tryz.isAgg267
 z46 := Tryz.sizeOf267
 v46 := Tryz.zeroValue267
 t50 := Tryz.underlying121
 a50 := Tryz.isAgg121
 z50 := Tryz.sizeOf121
 v50 := Tryz.zeroValue121
 t53 := Tryz.underlying273
 a53 := Tryz.isAgg273
 z53 := Tryz.sizeOf273
 v53 := Tryz.zeroValue273
 t55 := Tryz.underlying165
 a55 := Tryz.isAgg165
 z55 := Tryz.sizeOf165
 v55 := Tryz.zeroValue165
 t66 := Tryz.underlying295
 a66 := Tryz.isAgg295
 z66 := Tryz.sizeOf295
 v66 := Tryz.zeroValue295
 t70 := Tryz.underlying299
 a70 := Tryz.isAgg299
 z70 := Tryz.sizeOf299
 v70 := Tryz.zeroValue299
 t76 := Tryz.underlying327
 a76 := Tryz.isAgg327
 z76 := Tryz.sizeOf327
 v76 := Tryz.zeroValue327
 t77 := Tryz.underlying305
 a77 := Tryz.isAgg305
 z77 := Tryz.sizeOf305
 v77 := Tryz.zeroValue305 }
end Go.Proofs
namespace Go.K
open Go.Proofs
set_option linter.unusedVariables false
set_option linter.unusedSimpArgs false
set_option maxRecDepth 10000
open Go.Proofs Go.Sort
abbrev TK : Type := {t : Fd // (0 : UInt8) ∉ t.1 ∧ t.1.length ≤ 1000000 ∧ t.2.length ≤ 1000000}
instance inhTK : Inhabited TK := ⟨⟨([], []), by simp, by simp, by simp⟩⟩
def encT (x : TK) : List Value := [.string ⟨x.1.1.toArray⟩, .string ⟨x.1.2.toArray⟩]
def cfT (x y : TK) : Int := Lib.compareBytes (keyE x.1) (keyE y.1)
theorem keyE_inj : ∀ {a b x y : List UInt8}, (0 : UInt8) ∉ a → (0 : UInt8) ∉ b → a ++ [0] ++ x = b ++ [0] ++ y → a = b ∧ x = y
 |[], [], _, _, _, _, h => ⟨rfl, by simpa using h⟩
 |[], c :: b, _, _, _, hb, h => by
  simp at h; exact absurd (by rw [← h.1]; exact List.mem_cons_self ..) hb
 |c :: a, [], _, _, ha, _, h => by
  simp at h; exact absurd (by rw [h.1]; exact List.mem_cons_self ..) ha
 |c :: a, e :: b, x, y, ha, hb, h => by
  simp only [List.cons_append, List.cons.injEq] at h
  obtain ⟨h1, h2⟩ := keyE_inj (fun h => ha (List.mem_cons_of_mem _ h)) (fun h => hb (List.mem_cons_of_mem _ h)) h.2
  exact ⟨by rw [h.1, h1], h2⟩
theorem agg_ (w : World) : (isAgg 47).run Tryz.prog w = .ok true w := by simp [isAgg, Sem.run_bind, run_underlying Tryz.underlying47]
theorem size_ (w : World) : (Go.sizeOf 47).run Tryz.prog w = .ok 2 w := by
 obtain ⟨i, h1, _, h2, _⟩ := I47.get
 simp [Go.sizeOf, typeInfo, Sem.run_bind, program, Sem.run, h1, h2]
theorem cmpLays_ (blk off size : Nat) (w : World) : CmpLays Tryz.prog 158 #[] encT 2 cfT blk off size w := fun m os dk hs x y =>
 (show Calls Tryz.prog 158 #[kv x.1, kv y.1] (sortWorldK encT 2 w blk off m dk os) (fun e w' => ∃ v, e = .returned v ∧ _ ∧ _) from inv2_ex (s := x.1) (t := y.1) _ x.2.2.1 x.2.2.2 y.2.2.1 y.2.2.2).mono fun e w' ⟨v, h1, h2, h3⟩ => ⟨by rw [h1, h2]; rfl, 1, #[termO x.1, termO y.1, termO x.1, termO y.1], by rw [h3]; simp only [alloc_grow, grow_drewN, Go.Sort.grow_grow]; rfl⟩
theorem sortF (blk off cap : Nat) (d : Array TK) (w : World) (hH : HoldsK encT 2 w blk off d) (hblk : blk < w.heap.size) (hsz : d.size < 4611686018427387904) :
  Spec Tryz.prog 196 #[.slice (some ⟨blk, off, none⟩) d.size cap, .func (.func 158) #[] #[]] w (fun v w' => v = .tuple #[] ∧ ∃ n os, w' = sortWorldK encT 2 w blk off n (d.toList.mergeSort fun x y => !(Go.Proofs.ltOf cfT) y x).toArray os) := by
 exact (Go.Proofs.AnyQ.slices_SortFunc_total Tryz.sortFt 2 agg_ size_ encT (fun _ => rfl) (fun x v hv => by simp [encT] at hv; rcases hv with rfl | rfl <;> rfl) cfT (cmp_swo _) 158 #[] blk off cap d w E158 (cmpLays_ blk off d.size w) hH hblk hsz (fun x y h1 h2 => by
  have h0 : cfT x y = 0 := by
   have := cmp_neg (keyE x.1) (keyE y.1)
   simp only [Go.Proofs.ltOf, decide_eq_false_iff_not] at h1 h2
   unfold cfT at h1 h2 ⊢; omega
  have h3 := cmp_zero h0
  obtain ⟨h4, h5⟩ := keyE_inj x.2.1 y.2.1 h3
  exact Subtype.ext (Prod.ext h4 h5))).mono fun e w' ⟨h1, h2⟩ => ⟨_, h1, rfl, h2⟩
end Go.K
namespace Go.K
set_option linter.unusedVariables false
set_option linter.unusedSimpArgs false
set_option linter.unusedSectionVars false
open Go.Sort Go.Proofs
section
variable {α : Type} [Inhabited α] {enc : α → List Value} {k : Nat}
theorem flatMap_get (hk : ∀ x, (enc x).length = k) (h0 : 0 < k) : ∀ (l : List α) (t : Nat), (l.flatMap enc)[t]? = (l[t / k]?).bind fun x => (enc x)[t % k]?
 |[], t => by simp
 |x :: l, t => by
  rw [List.flatMap_cons]
  rcases Nat.lt_or_ge t k with h | h
  ·rw [List.getElem?_append_left (by rw [hk]; exact h), Nat.div_eq_of_lt h, Nat.mod_eq_of_lt h]; rfl
  ·rw [List.getElem?_append_right (by rw [hk]; exact h), hk, flatMap_get hk h0 l]
   have e1 : t / k = (t - k) / k + 1 := by rw [Nat.div_eq t k, if_pos ⟨h0, h⟩]
   have e2 : (t - k) % k = t % k := by rw [Nat.mod_eq t k, if_pos ⟨h0, h⟩]
   rw [e1, e2, List.getElem?_cons_succ]
theorem flatMap_len (hk : ∀ x, (enc x).length = k) : ∀ l : List α, (l.flatMap enc).length = l.length * k
 |[] => by simp
 |x :: l => by rw [List.flatMap_cons, List.length_append, hk, flatMap_len hk l, List.length_cons, Nat.add_mul]; omega
theorem flatK_list (hk : ∀ x, (enc x).length = k) (h0 : 0 < k) (d : Array α) {t : Nat} (ht : t < d.size * k) : (d.toList.flatMap enc)[t]? = some (flatK enc k d)[t]! := by
 have h1 : t / k < d.size := Nat.div_lt_of_lt_mul (by rw [Nat.mul_comm]; exact ht)
 have h2 : t % k < k := Nat.mod_lt _ h0
 rw [flatMap_get hk h0, get_flatK _ _ _ _ ht]
 have e : d.toList[t / k]? = some d[t / k]! := by simp [h1]
 rw [e]
 simp [hk, h2]
theorem holdsK_of {w : World} {g : Nat} {cur : Array Value} {e : TypeId} {d : Array α} (hk : ∀ x, (enc x).length = k) (h0 : 0 < k) (hg : w.heap[g]? = some (.cells cur e (0, 0))) (hC : cur.toList.take (d.size * k) = d.toList.flatMap enc) : HoldsK enc k w g 0 d := fun j hj => by
 rw [size_flatK] at hj
 have h1 := flatK_list hk h0 d hj
 rw [← hC, List.getElem?_take, if_pos hj, Array.getElem?_toList] at h1
 constructor
 ·simp [World.cell?, hg, h1]
 ·simp [World.frozen?, hg]
theorem sortWorldK_at {w : World} {g n : Nat} {cur : Array Value} {e : TypeId} {d : Array α} {os : Array Obj} (hg : w.heap[g]? = some (.cells cur e (0, 0))) : (sortWorldK enc k w g 0 n d os).heap[g]? = some (.cells (putCells id 0 (flatK enc k d) cur) e (0, 0)) := by
 have hlt : g < w.heap.size := lt_of_get hg
 have h1 : (w.heap.modify g (onCells (putCells id 0 (flatK enc k d))))[g]? = some (.cells (putCells id 0 (flatK enc k d) cur) e (0, 0)) := by
  rw [Array.getElem?_modify, if_pos rfl, hg]; rfl
 show ((w.heap.modify g (onCells (putCells id 0 (flatK enc k d)))) ++ os)[g]? = _
 rw [Array.getElem?_append_left (by simpa using hlt)]; exact h1
theorem sortWorldK_step {w : World} {g n : Nat} {d : Array α} {os : Array Obj} : Step allM w allM (sortWorldK enc k w g 0 n d os) (fun b => b = g) :=
 ⟨fun h => absurd (h w.heap.size trivial) (Nat.lt_irrefl _), rfl, rfl, rfl, by show _ ≤ ((w.heap.modify g _) ++ os).size; simp, fun _ _ => Iff.rfl, fun b hb hn => by
  have hn : ¬ b = g := hn
  show ((w.heap.modify g (onCells (putCells id 0 (flatK enc k d)))) ++ os)[b]? = _
  rw [Array.getElem?_append_left (by simpa using hb), Array.getElem?_modify, if_neg (fun h => hn h.symm)], fun _ _ => trivial⟩
theorem putCells_take {F cur : Array Value} (h : F.size ≤ cur.size) : (putCells id 0 F cur).toList.take F.size = F.toList := by
 apply List.ext_getElem?
 intro j
 rw [List.getElem?_take]
 by_cases hj : j < F.size
 ·rw [if_pos hj]
  simp [putCells, hj, Nat.lt_of_lt_of_le hj h]
 ·rw [if_neg hj, List.getElem?_eq_none (by simpa using hj)]
theorem flatK_toList (hk : ∀ x, (enc x).length = k) (h0 : 0 < k) (d : Array α) : (flatK enc k d).toList = d.toList.flatMap enc := by
 apply List.ext_getElem?
 intro j
 by_cases hj : j < d.size * k
 ·rw [flatK_list hk h0 d hj]
  have : j < (flatK enc k d).size := by rw [size_flatK]; exact hj
  rw [Array.getElem?_toList, getElem!_pos _ j this]; exact Array.getElem?_eq_getElem this
 ·rw [List.getElem?_eq_none (by rw [Array.length_toList, size_flatK]; omega), List.getElem?_eq_none (by rw [flatMap_len hk, Array.length_toList]; omega)]
end
end Go.K
namespace Go.K
open Go.Proofs
set_option linter.unusedVariables false
set_option linter.unusedSimpArgs false
set_option maxRecDepth 10000
open Go.Proofs Go.Sort
theorem AllR_fd : ∀ {ts : List Fd} {C : List Value} {M : PSet} {w : World}, AllR RT.fd M w ts C → C = ts.flatMap fun t => [.string ⟨t.1.toArray⟩, .string ⟨t.2.toArray⟩]
 |[], C, _, _, h => h
 |t :: ts, C, _, _, ⟨vs, r, h1, h2, h3⟩ => by
  obtain ⟨va, vb, rfl, h4, h5⟩ := h2
  rw [h1, AllR_fd h3, h4.1, h5.1]; rfl
theorem AllR_fd' {M : PSet} {w : World} : ∀ {ts : List Fd}, (∀ t ∈ ts, t.1.length ≤ 1000000 ∧ t.2.length ≤ 1000000) → AllR RT.fd M w ts (ts.flatMap fun t => [.string ⟨t.1.toArray⟩, .string ⟨t.2.toArray⟩])
 |[], _ => rfl
 |t :: ts, h => by
  obtain ⟨h1, h2⟩ := h t (List.mem_cons_self ..)
  exact ⟨_, _, rfl, ⟨_, _, rfl, ⟨rfl, by omega⟩, ⟨rfl, by omega⟩⟩, AllR_fd' fun u hu => h u (List.mem_cons_of_mem _ hu)⟩
def ByKey (us : List Fd) : Prop := us.Pairwise fun a b => ¬ Lib.compareBytes (keyE b) (keyE a) < 0
theorem termSort_spec {base : Nat} {v : Value} {ts : List Fd} (w0 : World) (ho : Own RT.fd 47 (blkM v) w0 base v ts) (hT : ∀ t ∈ ts, (0 : UInt8) ∉ t.1 ∧ t.1.length ≤ 1000000 ∧ t.2.length ≤ 1000000) (hl : ts.length ≤ 100000000) :
  Spec Tryz.prog 196 #[v, .func (.func 158) #[] #[]] w0 (fun r w => r = .tuple #[] ∧ ∃ us : List Fd, us.Perm ts ∧ ByKey us ∧ Own RT.fd 47 (blkM v) w base v us ∧ Step allM w0 allM w (blkM v)) := by
 obtain ⟨⟨C, ⟨hC, hr⟩, hA⟩, hm⟩ := ho
 rcases hr with ⟨rfl, h0⟩ | ⟨g, cap, cur, rfl, hb, hg, hle, hmx, hcz, hpre⟩
 ·have hts : ts = [] := List.length_eq_zero_iff.1 h0
  subst hts
  exact (AnyF.slices_SortFunc_none Tryz.sortFt none 0 _ w0).mono fun e w' ⟨h1, h2⟩ => ⟨_, h1, rfl, [], .refl _, List.Pairwise.nil, Own.nil _ _ _ _ _, by rw [h2]; exact (Step.refl allM w0).widen (fun _ h => h.elim) (fun _ _ => trivial)⟩
 ·obtain ⟨d, hd⟩ : ∃ d : Array TK, d.toList.map (·.1) = ts := ⟨(ts.attach.map fun x => (⟨x.1, hT x.1 x.2⟩ : TK)).toArray, by rw [List.toList_toArray, List.map_map]; exact List.attach_map_subtype_val ts⟩
  have hsz : d.size = ts.length := by rw [← hd]; simp
  have hk : ∀ x : TK, (encT x).length = 2 := fun _ => rfl
  have henc : ∀ l : List TK, (l.map (·.1)).flatMap (fun t : Fd => [Value.string ⟨t.1.toArray⟩, .string ⟨t.2.toArray⟩]) = l.flatMap encT := fun l => by rw [List.flatMap_map]; rfl
  have hH : HoldsK encT 2 w0 g 0 d := holdsK_of hk (by omega) hg (by
   have e2 : RT.fd.n = 2 := rfl
   rw [e2] at hpre; rw [hsz, hpre, AllR_fd hA, ← hd, henc])
  have hs := sortF g 0 cap d w0 hH (lt_of_get hg) (by omega)
  rw [hsz] at hs
  refine hs.mono fun r w' ⟨h1, n, os, h2⟩ => ⟨h1, (d.toList.mergeSort fun x y => !(ltOf cfT) y x).map (·.1), ?_, ?_, ?_, ?_⟩
  ·rw [← hd]; exact (List.mergeSort_perm _ _).map _
  ·refine List.pairwise_map.2 ((List.pairwise_mergeSort (fun a b c h1 h2 => ?_) (fun a b => ?_) _).imp fun h => ?_)
   ·simp only [ltOf, Bool.not_eq_true', decide_eq_false_iff_not] at *
    have := (cmp_swo fun x : TK => keyE x.1).ntrans c b a (by simpa [ltOf, cfT] using h2) (by simpa [ltOf, cfT] using h1)
    simpa [ltOf, cfT] using this
   ·simp only [ltOf, Bool.or_eq_true, Bool.not_eq_true', decide_eq_false_iff_not]
    have := cmp_neg (keyE a.1) (keyE b.1)
    unfold cfT; omega
   ·rw [Bool.not_eq_true'] at h; exact of_decide_eq_false h
  ·have hp := List.mergeSort_perm d.toList fun x y => !(ltOf cfT) y x
   rw [h2]
   generalize (d.toList.mergeSort fun x y => !(ltOf cfT) y x) = us at hp
   have hul : (us.map (·.1)).length = ts.length := by rw [List.length_map, hp.length_eq, Array.length_toList, hsz]
   have hus : us.toArray.size * 2 = ts.length * 2 := by rw [← hul]; simp
   have e2 : RT.fd.n = 2 := rfl
   refine ⟨⟨(us.map (·.1)).flatMap (fun t : Fd => [Value.string ⟨t.1.toArray⟩, .string ⟨t.2.toArray⟩]), ⟨?_, .inr ⟨g, cap, _, by rw [hul], hb, sortWorldK_at hg, by rw [hul]; exact hle, hmx, by rw [← hcz]; simp [putCells], ?_⟩⟩, AllR_fd' fun t ht => ?_⟩, hm⟩
   ·rw [henc, flatMap_len hk, List.length_map, e2]
   ·rw [henc, hul, e2, ← hus, ← size_flatK encT, putCells_take (by rw [size_flatK, hus, hcz, e2]; omega), flatK_toList hk (by omega)]
   ·obtain ⟨x, _, rfl⟩ := List.mem_map.1 ht
    exact x.2.2
  ·rw [h2]; exact sortWorldK_step.widen (fun b hb => by have hb : b = g := hb; subst hb; rfl) (fun _ _ => trivial)
end Go.K
namespace Go.K
open Go.Proofs
set_option linter.unusedVariables false
set_option linter.unusedSimpArgs false
set_option maxRecDepth 10000
theorem sorted_spec {bs mb clock : Nat} {es : List MapEntry} (w0 : World) (hk : Known es) (hT : ∀ e ∈ es, ∀ t, e.key = kv t → (0 : UInt8) ∉ t.1 ∧ t.1.length ≤ 1000000 ∧ t.2.length ≤ 1000000) (hes : es.length ≤ 100000000) (hlen : ∀ ts : List Fd, ts.Nodup → (∀ t ∈ ts, ∃ e ∈ es, e.key = kv t) → ts.length ≤ 100000000) (gbs : w0.heap[bs]? = some (.cells #[.map (some mb)] 227 (0, 0))) (hW : MapW Tryz.prog 47 w0 mb es clock) :
  Spec Tryz.prog 156 #[.func (.func 197) #[] [.pointer (some ⟨bs, 0, none⟩)].toArray, .func (.func 158) #[] #[]] w0 (fun v w => ∃ us : List Fd, us.Nodup ∧ (∀ t, t ∈ us ↔ ∃ e ∈ es, e.key = kv t) ∧ ByKey us ∧ Own RT.fd 47 (blkM v) w w0.heap.size v us ∧ Step allM w0 allM w none') := by
 refine spec_of (args := [_, _]) (fn := Tryz.f156) Tryz.func156 rfl (n := 12) Tryz.ntmps156 ?_
 refine T.seq ?_
 refine T.region ?_
 refine Rg.assign rfl rfl ?_
 refine Rg.nil ?_
 refine T.seq ?_
 refine T.region ?_
 refine Rg.move rfl rfl ?_
 refine Rg.call rfl rfl E195 (collect_spec _ hk hes gbs hW) (fun v1 w1 hc => ?_)
 obtain ⟨ts, hnd, hin, ho, s1⟩ := hc
 refine Rg.assign rfl rfl ?_
 refine Rg.nil ?_
 refine T.seq ?_
 refine T.region ?_
 refine Rg.move rfl rfl ?_
 refine Rg.move rfl rfl ?_
 refine Rg.call rfl rfl E196 (termSort_spec _ ho (fun t ht => by obtain ⟨e, he, hke⟩ := (hin t).1 ht; exact hT e he t hke) (hlen ts hnd fun t ht => (hin t).1 ht)) (fun r2 w2 hc => ?_)
 obtain ⟨rfl, us, hp, hby, hou, s2⟩ := hc
 refine Rg.nil ?_
 refine T.seq ?_
 refine T.region ?_
 refine Rg.move rfl rfl ?_
 refine Rg.assign rfl rfl ?_
 refine Rg.nil ?_
 refine T.ret ?_
 exact Kret1 rfl rfl ⟨us, hp.nodup_iff.2 hnd, fun t => hp.mem_iff.trans (hin t), hby, hou, s1.trans s2 (fun k hk hn => by have := (ho.base k hn).1; omega)⟩
theorem mkeys_spec {mb : Nat} (w0 : World) :
  Spec Tryz.prog 157 #[.map (some mb)] w0 (fun v w => ∃ bs, v = .func (.func 197) #[] [.pointer (some ⟨bs, 0, none⟩)].toArray ∧ w.heap[bs]? = some (.cells #[.map (some mb)] 227 (0, 0)) ∧ w0.heap.size ≤ bs ∧ Step allM w0 allM w none') := by
 refine spec_of (args := [_]) (fn := Tryz.f157) Tryz.func157 rfl (n := 4) Tryz.ntmps157 ?_
 refine T.seq ?_
 refine T.region ?_
 refine Rg.box allM rfl rfl (fun bs w1 hb1 hb2 gs s1 => ?_)
 change w1.heap[bs]? = some (.cells #[.map (some mb)] 227 (0, 0)) at gs
 replace s1 := s1.all
 refine Rg.assign rfl rfl ?_
 refine Rg.nil ?_
 refine T.seq ?_
 refine T.region ?_
 refine Rg.makeFunc (xs := []) (ys := [.tmp 1]) rfl rfl rfl ?_
 refine Rg.assign rfl rfl ?_
 refine Rg.nil ?_
 refine T.ret ?_
 exact Kret1 rfl rfl ⟨bs, rfl, gs, hb1, s1⟩
end Go.K
namespace Go.K
open Go.Proofs
set_option linter.unusedVariables false
set_option linter.unusedSimpArgs false
set_option maxRecDepth 10000
def posOf (ts : List (Fd × Nat)) (t : Fd) : List Int := (ts.filter fun p => decide (p.1 = t)).map fun p => (p.2 : Int)
def seen (ts : List (Fd × Nat)) : List Fd := ts.foldl (fun l p => if p.1 ∈ l then l else l ++ [p.1]) []
theorem seen_snoc (ts : List (Fd × Nat)) (t : Fd) (i : Nat) : seen (ts ++ [(t, i)]) = if t ∈ seen ts then seen ts else seen ts ++ [t] := by unfold seen; rw [List.foldl_append]; rfl
theorem posOf_snoc (ts : List (Fd × Nat)) (t t' : Fd) (i : Nat) : posOf (ts ++ [(t, i)]) t' = if t = t' then posOf ts t' ++ [(i : Int)] else posOf ts t' := by
 unfold posOf
 rw [List.filter_append]
 by_cases h : t = t' <;> simp [h]
theorem posOf_len (ts : List (Fd × Nat)) (t : Fd) : (posOf ts t).length ≤ ts.length := by
 unfold posOf; rw [List.length_map]; exact List.length_filter_le _ _
abbrev nilS : Value := .slice none 0 0
structure InvS (M : PSet) (w : World) (B : Nat) (ts : List (Fd × Nat)) (es : List MapEntry) : Prop where
 o : ∀ t v, ValAt nilS es (kv t) v → Own (RT.int .i64) 3 M w B v (posOf ts t)
 a : ∀ t t' v v', t ≠ t' → ValAt nilS es (kv t) v → ValAt nilS es (kv t') v' → Apart v v'
 k : es.map (·.key) = (seen ts).map kv
theorem InvS.step0 {M M' : PSet} {w w' : World} {B : Nat} {ts : List (Fd × Nat)} {es : List MapEntry} (h : InvS M w B ts es) (s : Step M w M' w' none') : InvS M' w' B ts es := ⟨fun t v hv => (h.o t v hv).step0 s, h.a, h.k⟩
def IJ (bt mb B : Nat) (ts : List (Fd × Nat)) (M : PSet) (w : World) : Prop := w.heap[bt]? = some (.cells #[.map (some mb)] 227 (0, 0)) ∧ M bt ∧ M mb ∧ B ≤ bt ∧ B ≤ mb ∧ ∃ es clock, MapW Tryz.prog 47 w mb es clock ∧ InvS M w B ts es
theorem Own.notMap {α : Type} {A : RT α} {e : TypeId} {M : PSet} {w : World} {base b c : Nat} {a : Array MapEntry} {v : Value} {xs : List α} (h : Own A e M w base v xs) (hb : w.heap[b]? = some (.map a c)) : v.ownBlock ≠ some b := fun hv => by
 obtain ⟨⟨C, h1, _⟩, _⟩ := h
 rcases h1.2 with ⟨h2, _⟩ | ⟨g, cap, cur, h2, _, h3, _⟩
 ·rw [h2] at hv; cases hv
 ·rw [h2] at hv; cases hv; rw [h3] at hb; cases hb
theorem seen_has {ts : List (Fd × Nat)} {es : List MapEntry} {t : Fd} (hk : es.map (·.key) = (seen ts).map kv) : (∃ e ∈ es, e.key = kv t) ↔ t ∈ seen ts := by
 constructor
 ·rintro ⟨e, he, h⟩
  have : kv t ∈ (seen ts).map kv := by rw [← hk, ← h]; exact List.mem_map_of_mem he
  obtain ⟨t', h1, h2⟩ := List.mem_map.1 this
  rw [← kv_inj h2]; exact h1
 ·intro h
  have : kv t ∈ es.map (·.key) := by rw [hk]; exact List.mem_map_of_mem h
  obtain ⟨e, h1, h2⟩ := List.mem_map.1 this
  exact ⟨e, h1, h2⟩
theorem inv1_spec {M : PSet} {bt mb B : Nat} {ts : List (Fd × Nat)} {t : Fd} {i : Nat} (w0 : World) (hM : Lt M w0) (h1 : t.1.length ≤ 900000) (h2 : t.2.length ≤ 140737488355328) (hi : i ≤ 1000000) (hts : ts.length ≤ 10000000) (hJ : IJ bt mb B ts M w0) :
  Spec Tryz.prog 155 #[kv t, .int .i64 (i : Int), .pointer (some ⟨bt, 0, none⟩)] w0 (fun v w => ∃ M', Lt M' w ∧ IJ bt mb B (ts ++ [(t, i)]) M' w ∧ Step M w0 M' w (mine M B)) := by
 obtain ⟨gb, m_gb, m_mb, hB, hBm, es, clock, hW, hI⟩ := hJ
 refine spec_of (args := [_, _, _]) (fn := Tryz.f155) Tryz.func155 rfl (n := 13) Tryz.ntmps155 ?_
 have S : Step M w0 M w0 (mine M B) := (Step.refl _ _).widen (fun _ h => h.elim) (fun _ h => h.2)
 refine T.seq ?_
 refine T.region ?_
 refine Rg.boxp (A := RT.fd) rfl rfl hM (kv_V (by omega) h2) rfl (fun u0 w1 hu0 s0 _ => ?_) --@step s0
 --@vf hu0*
 have := lt_of_get gb
 replace m_gb := (s0.mem _ this).2 m_gb
 replace gb := s0.same0 gb
 replace m_mb := (s0.mem _ (lt_of_get hW.at_)).2 m_mb
 replace hW := hW.step0 s0
 replace hI := hI.step0 s0
 replace hM := s0.lt hM
 have := S.size
 replace S := S.trans0 s0
 refine Rg.nil ?_
 refine T.region ?_
 refine Rg.loadc Tryz.underlying227 rfl rfl rfl (by assumption) rfl ?_
 refine Rg.loadagg (M := M) (A := RT.fd) Tryz.underlying47 rfl I47 (by decide) rfl rfl rfl hu0 (Le.refl _ _) (fun v1 hv1 => ?_)
 obtain rfl := fd_val hv1
 refine Rg.move rfl rfl ?_
 refine Rg.sl1 (A := RT.int .i64) (hn := by decide) (M := M) Tryz.underlying32 I3 (by decide) rfl rfl hM (V_i64 (by omega)) (.inr ⟨rfl, rfl⟩) (fun u1_3 w1_3 hu1_3 s1_3 => ?_)
 have := lt_of_get gb
 replace m_gb := (s1_3.mem _ this).2 m_gb
 replace gb := s1_3.same0 gb
 replace hu0 := hu0.le (by decide) s1_3.le
 replace m_mb := (s1_3.mem _ (lt_of_get hW.at_)).2 m_mb
 replace hW := hW.step0 s1_3
 replace hI := hI.step0 s1_3
 replace hM := s1_3.lt hM
 have := S.size
 replace S := S.trans0 s1_3
 obtain ⟨kl, hkl⟩ := kv_key t (by omega) h2
 refine Rg.mapEntry (M := M) (zv := nilS) Tryz.underlying227 termKeyed I32 rfl rfl rfl hkl hW m_mb (fun w4 es4 cl4 v s hW4 hv hin hval hkk s4 => ?_)
 have hmo : ∀ t v, ValAt nilS es (kv t) v → v.ownBlock ≠ some mb := fun t v h => (hI.o t v h).notMap hW.at_
 have nbm : bt ≠ mb := fun e => by subst e; have := hW.at_; rw [gb] at this; cases this
 replace hI : InvS M w4 B ts es := ⟨fun t v hv => (hI.o t v hv).step s4 (fun b hb hk => hmo t v hv (by have hk : b = mb := hk; rw [← hk]; exact hb)), hI.a, hI.k⟩
 have m_mb4 := (s4.mem _ (lt_of_get hW.at_)).2 m_mb
 replace m_gb := (s4.mem _ (lt_of_get gb)).2 m_gb
 replace gb := s4.keep gb nbm
 replace hu1_3 := hu1_3.le s4.le
 replace hM := s4.lt hM
 have hmM : ∀ b, b < w0.heap.size → M b → M b := fun b hb h => (S.mem b hb).1 h
 have hz0 := S.size
 replace S := S.trans s4 (fun k hk h => by have h : k = mb := h; subst h; exact ⟨hBm, hmM k hk m_mb⟩)
 have hov := hI.o t v hv
 have hpl := posOf_len ts t
 refine Rg.extract rfl rfl rfl ?_
 refine Rg.appendF (M := M) (base := B) Tryz.underlying32 I3 rfl rfl rfl rfl hov hu1_3 (Le.refl _ _) (by simp; omega) (by simp; omega) (by have := lt_of_get gb; omega) (fun v6 w6 ho6 s6 hF => ?_)
 have hblk : ∀ b, blk v b → B ≤ b ∧ M b := fun b h => ⟨(hov.base b h).1, hov.mut_ b h⟩
 have hap : ∀ t' v', t' ≠ t → ValAt nilS es (kv t') v' → Apart v' v := fun t' v' hne hv' => hI.a t' t v' v hne hv' hv
 have hoth : ∀ t' v', t' ≠ t → ValAt nilS es (kv t') v' → Own (RT.int .i64) 3 (insV M v6) w6 B v' (posOf ts t') := fun t' v' hne hv' => (hI.o t' v' hv').step s6 (fun b hb hk => hap t' v' hne hv' b hb hk)
 have hsz : ∀ t' v', ValAt nilS es (kv t') v' → ∀ b, v'.ownBlock = some b → b < w4.heap.size := fun t' v' hv' b hb => ((hI.o t' v' hv').base b hb).2
 have hap6 : ∀ t' v', t' ≠ t → ValAt nilS es (kv t') v' → Apart v6 v' := fun t' v' hne hv' => (hap t' v' hne hv').symm.grown hF (hsz t' v' hv')
 have hmo6 : v.ownBlock ≠ some mb := hov.notMap hW4.at_
 have m_mb6 := (s6.mem _ (lt_of_get hW4.at_)).2 m_mb4
 replace hW4 := hW4.step s6 hmo6
 replace m_gb := (s6.mem _ (lt_of_get gb)).2 m_gb
 replace gb := s6.keep gb (fun h => hov.neT gb (by decide) h)
 replace hM := s6.lt hM
 have hmM4 : ∀ b, b < w0.heap.size → M b → M b := fun b hb h => (S.mem b hb).1 h
 replace S := S.trans s6 (fun k hk h => ⟨(hblk k h).1, hmM4 k hk (hblk k h).2⟩)
 refine Rg.extract rfl rfl rfl ?_
 have hat6 := hW4.at_
 refine Rg.entryStore rfl rfl rfl hW4 m_mb6 hin (fun w8 es8 hW8 hkeys hval8 s8 => ?_)
 have hm8 : v6.ownBlock ≠ some mb := ho6.notMap hat6
 replace ho6 := ho6.step s8 (fun b hb hk => hm8 (by have hk : b = mb := hk; rw [← hk]; exact hb))
 have hoth8 : ∀ t' v', t' ≠ t → ValAt nilS es (kv t') v' → Own (RT.int .i64) 3 _ w8 B v' (posOf ts t') := fun t' v' hne hv' => (hoth t' v' hne hv').step s8 (fun b hb hk => hmo t' v' hv' (by have hk : b = mb := hk; rw [← hk]; exact hb))
 have m_mb8 := (s8.mem _ (lt_of_get hat6)).2 m_mb6
 refine Rg.nil ?_
 first | refine EndP.nil ?_ | simp +decide only [Kseq, Kblock, if_true, if_false] | skip
 replace m_gb := (s8.mem _ (lt_of_get gb)).2 m_gb
 replace gb := s8.keep gb nbm
 replace hM := s8.lt hM
 replace S := S.trans s8 (fun k hk h => by have h : k = mb := h; subst h; exact ⟨hBm, (S.mem k hk).1 m_mb6⟩)
 have hcase : ∀ t1 v1, ValAt nilS es8 (kv t1) v1 → (t1 = t ∧ v1 = v6) ∨ (t1 ≠ t ∧ ValAt nilS es (kv t1) v1) := fun t1 v1 hv1 => by
  rcases (hval8 nilS (kv t1) v1).1 hv1 with ⟨h3, h4⟩ | ⟨h3, h4⟩
  ·exact .inl ⟨kv_inj h3, h4⟩
  ·exact .inr ⟨fun e => h3 (by rw [e]; rfl), (hval (kv t1) v1).1 h4⟩
 refine Kret0n rfl ⟨_, hM, ⟨gb, m_gb, m_mb8, hB, hBm, es8, _, hW8, ⟨fun t1 v1 hv1 => ?_, fun t1 t2 v1 v2 hne hv1 hv2 => ?_, ?_⟩⟩, S⟩
 ·rcases hcase t1 v1 hv1 with ⟨rfl, rfl⟩ | ⟨h3, h4⟩
  ·rw [posOf_snoc, if_pos rfl]; exact ho6
  ·rw [posOf_snoc, if_neg (fun e => h3 e.symm)]; exact hoth8 t1 v1 h3 h4
 ·rcases hcase t1 v1 hv1 with ⟨rfl, rfl⟩ | ⟨h3, h4⟩
  ·rcases hcase t2 v2 hv2 with ⟨rfl, _⟩ | ⟨h5, h6⟩
   ·exact absurd rfl hne
   ·exact hap6 t2 v2 h5 h6
  ·rcases hcase t2 v2 hv2 with ⟨rfl, rfl⟩ | ⟨h5, h6⟩
   ·exact (hap6 t1 v1 h3 h4).symm
   ·exact hI.a t1 t2 v1 v2 hne h4 h6
 ·rw [hkeys, seen_snoc]
  rcases hkk with ⟨h3, h4⟩ | ⟨h3, h4⟩
  ·rw [h3, hI.k, if_pos ((seen_has hI.k).1 h4)]
  ·rw [h3, hI.k, if_neg (fun h => by obtain ⟨e, he, hk⟩ := (seen_has hI.k).2 h; exact h4 e he hk)]
   simp [kv]
end Go.K
namespace Go.K
set_option linter.unusedVariables false
set_option linter.unusedSimpArgs false
open Go.Maps (Keyed)
open Go.Lib (compareBytes)
theorem less_cmp : ∀ a b : List UInt8, Op.bytesLess a b = decide (compareBytes a b < 0)
 |[], [] => by simp [Op.bytesLess, compareBytes]
 |_ :: _, [] => by simp [Op.bytesLess, compareBytes]
 |[], _ :: _ => by simp [Op.bytesLess, compareBytes]
 |a :: x, b :: y => by
  rw [Op.bytesLess, less_cmp x y, cmp_cons]
  by_cases h1 : a.toNat < b.toNat
  ·simp [UInt8.lt_iff_toNat_lt, h1]
  ·by_cases h2 : b.toNat < a.toNat
   ·have : ¬ a = b := fun e => by subst e; omega
    simp [UInt8.lt_iff_toNat_lt, h1, h2, this]
   ·have : a = b := UInt8.toNat_inj.1 (by omega)
    simp [UInt8.lt_iff_toNat_lt, h1, h2, this]
theorem cmp_lt (a b : List UInt8) : compareBytes a b < 0 ↔ a < b := by
 have h := less_cmp a b
 rw [Go.Proofs.bytesLess_eq] at h
 exact (decide_eq_decide.1 h).symm
theorem txt_irr (a : List UInt8) : ¬ a < a := fun h => by have := (cmp_lt a a).2 h; rw [cmp_self] at this; omega
theorem txt_trans {a b c : List UInt8} (h : a < b) (h' : b < c) : a < c := (cmp_lt _ _).1 (cmp_trans ((cmp_lt _ _).2 h) ((cmp_lt _ _).2 h'))
theorem txt_tri (a b : List UInt8) : a < b ∨ a = b ∨ b < a := by
 rcases Int.lt_trichotomy (compareBytes a b) 0 with h | h | h
 ·exact .inl ((cmp_lt _ _).1 h)
 ·exact .inr (.inl (cmp_zero h))
 ·exact .inr (.inr ((cmp_lt _ _).1 (by rw [cmp_neg]; omega)))
theorem txt_asym {a b : List UInt8} (h : a < b) : ¬ b < a := fun h' => txt_irr a (txt_trans h h')
theorem txt_le {a b : List UInt8} : a ≤ b ↔ ¬ b < a := Iff.rfl
section
variable {P : Program} {r : Option Nat} {n : Nat} {L : Sl} {ds : List Deferred} {w : World} {K : Kt} {ops : Array Oper} {rest : List Oper} {d : Nat} {x y : Operand} {ty : TypeId} {pos : String} {af : Array Edge}
theorem Rg.strgtr {t t' : TypeId} {p q : List UInt8} (hx : ev L x = some (.string ⟨p.toArray⟩)) (hy : ev L y = some (.string ⟨q.toArray⟩)) (hd : Nat.blt d n = true)
  (k : Rg P r n ops rest ((d, .bool (decide (q < p))) :: L) ds w K) :
  Rg P r n ops ({ dst := some d, op := .binOp .gtr t x y t', type := ty, pos, after := af, guard := none } :: rest) L ds w K :=
 .op (fun _ h => by cases h) rfl rfl hd _ w (fun ρ h => by
  have e : (!(decide (p < q) || p == q)) = decide (q < p) := by
   rcases txt_tri p q with h | h | h
   ·simp [h, txt_asym h]
   ·subst h; simp [txt_irr]
   ·have : ¬ p = q := fun e => by subst e; exact txt_irr p h
    simp [h, txt_asym h, this]
  simp only [execOp]; rw [h x _ hx, h y _ hy]; simp only [binOp, Op.stringOp, bytes_toList, Go.Proofs.bytesLess_eq, e]; simp [eqGuard]) k
theorem Rg.strgeq {t t' : TypeId} {p q : List UInt8} (hx : ev L x = some (.string ⟨p.toArray⟩)) (hy : ev L y = some (.string ⟨q.toArray⟩)) (hd : Nat.blt d n = true)
  (k : Rg P r n ops rest ((d, .bool (decide (¬ p < q))) :: L) ds w K) :
  Rg P r n ops ({ dst := some d, op := .binOp .geq t x y t', type := ty, pos, after := af, guard := none } :: rest) L ds w K :=
 .op (fun _ h => by cases h) rfl rfl hd _ w (fun ρ h => by
  have e : (!decide (p < q)) = decide (¬ p < q) := by by_cases h : p < q <;> simp [h]
  simp only [execOp]; rw [h x _ hx, h y _ hy]; simp only [binOp, Op.stringOp, bytes_toList, Go.Proofs.bytesLess_eq, e]; simp [eqGuard]) k
theorem Rg.strleq {t t' : TypeId} {p q : List UInt8} (hx : ev L x = some (.string ⟨p.toArray⟩)) (hy : ev L y = some (.string ⟨q.toArray⟩)) (hd : Nat.blt d n = true)
  (k : Rg P r n ops rest ((d, .bool (decide (¬ q < p))) :: L) ds w K) :
  Rg P r n ops ({ dst := some d, op := .binOp .leq t x y t', type := ty, pos, after := af, guard := none } :: rest) L ds w K :=
 .op (fun _ h => by cases h) rfl rfl hd _ w (fun ρ h => by
  have e : (decide (p < q) || p == q) = decide (¬ q < p) := by
   rcases txt_tri p q with h | h | h
   ·simp [h, txt_asym h]
   ·subst h; simp [txt_irr]
   ·have : ¬ p = q := fun e => by subst e; exact txt_irr p h
    simp [h, txt_asym h, this]
  simp only [execOp]; rw [h x _ hx, h y _ hy]; simp only [binOp, Op.stringOp, bytes_toList, Go.Proofs.bytesLess_eq, e]; simp [eqGuard]) k
end
abbrev UpT (l : List (List UInt8)) : Prop := l.Pairwise (· < ·)
theorem up_sorted {ss : List (List UInt8)} (h : ss.Nodup) : UpT (ss.mergeSort fun x y => decide (x ≤ y)) := by
 have h1 : (ss.mergeSort fun x y => decide (x ≤ y)).Pairwise (fun x y => decide (x ≤ y) = true) := List.pairwise_mergeSort (fun a b c h1 h2 => by
  simp only [decide_eq_true_eq, txt_le] at h1 h2 ⊢
  intro h3
  rcases txt_tri a b with h | h | h
  ·exact h2 (txt_trans h3 h)
  ·subst h; exact h2 h3
  ·exact h1 h) (fun a b => by
  simp only [Bool.or_eq_true, decide_eq_true_eq, txt_le]
  rcases txt_tri a b with h | h | h
  ·exact .inl (txt_asym h)
  ·subst h; exact .inl (txt_irr a)
  ·exact .inr (txt_asym h)) ss
 have h2 : (ss.mergeSort fun x y => decide (x ≤ y)).Nodup := (List.mergeSort_perm ss _).nodup_iff.2 h
 refine (h1.and h2).imp ?_
 rintro a b ⟨h3, h4⟩
 simp only [decide_eq_true_eq, txt_le] at h3
 rcases txt_tri a b with h | h | h
 ·exact h
 ·exact absurd h h4
 ·exact absurd h h3
theorem UpT.nodup {l : List (List UInt8)} (h : UpT l) : l.Nodup := h.imp fun {a b} h e => by subst e; exact txt_irr a h
theorem perm_one {α : Type} {R : α → α → Prop} (hR : ∀ a b, R a b → R b a → a = b) {l l' : List α} (h : l.Pairwise R) (h' : l'.Pairwise R) (hn : l.Nodup) (hn' : l'.Nodup) (hm : ∀ x, x ∈ l ↔ x ∈ l') : l = l' :=
 List.Perm.eq_of_pairwise (fun a b _ _ h1 h2 => hR a b h1 h2) h h' ((List.perm_ext_iff_of_nodup hn hn').2 hm)
theorem up_one {l l' : List (List UInt8)} (h : UpT l) (h' : UpT l') (hm : ∀ x, x ∈ l ↔ x ∈ l') : l = l' :=
 perm_one (fun a b h1 h2 => absurd h2 (txt_asym h1)) h h' h.nodup h'.nodup hm
abbrev sv (k : List UInt8) : Value := .string ⟨k.toArray⟩
theorem sv_inj {a b : List UInt8} (h : sv a = sv b) : a = b := by simpa [sv] using h
def anyR : Value → Option (DU × List MemPlace) := fun _ => some (.nil, [])
theorem MapW.mapO {P : Program} {kt : TypeId} {M : PSet} {w : World} {b : Nat} {es : List MapEntry} {clock : Nat} (hk : P.underlying kt = some .string) (h : MapW P kt w b es clock) (hm : M b) (hl : es.length ≤ maxLen) (ks : List (List UInt8)) (hks : es.map (·.key) = ks.map sv) :
  ∃ m : List (Lit × DU), MapO P kt anyR M w b m ∧ (strKeys (DataW.map m)).Perm ks ∧ m.length = ks.length := by
 have hF : Go.WideElems.Fit P kt anyR es.toArray clock := by
  refine ⟨by simpa using hl, ⟨fun x hx => h.lt x (by simpa using hx), ?_, ?_⟩, fun x hx => ?_⟩
  ·simpa [List.Nodup, List.pairwise_map] using h.born
  ·simpa [List.Nodup, List.pairwise_map] using h.keys
  ·obtain ⟨l, hl⟩ := h.ok x (by simpa using hx)
   exact ⟨(l, .nil), by simp [Go.WideElems.rd, hl, anyR]⟩
 have hp := Go.WideShapes.sorted_perm (es.toArray.toList.map (Go.WideElems.rg P kt anyR))
 have hlen : (List.foldr DataW.insert [] (es.toArray.toList.map (Go.WideElems.rg P kt anyR))).length = es.length := by rw [hp.length_eq]; simp
 refine ⟨_, ⟨hm, es.toArray, clock, h.at_, hF, by rw [hlen]; simp, rfl⟩, ?_, ?_⟩
 ·refine (hp.map fun p => strOf p.1).trans ?_
  rw [List.map_map]
  have e : es.toArray.toList.map ((fun p => strOf p.1) ∘ Go.WideElems.rg (H := Unit) P kt anyR) = ks := by
   refine List.ext_getElem? fun i => ?_
   have hi := congrArg (·[i]?) hks
   simp only [List.getElem?_map] at hi ⊢
   cases he : es[i]? with
   |none =>
    rw [he] at hi
    cases hks' : ks[i]? with
    |none => simp [he]
    |some a => rw [hks'] at hi; cases hi
   |some e =>
    rw [he] at hi
    obtain ⟨l, hl⟩ := h.ok e (List.mem_of_getElem? he)
    obtain ⟨s, hs, h1⟩ := Option.map_eq_some_iff.1 hi.symm
    obtain ⟨z, hz1, hz2, _⟩ := Maps.keyOf_str hk hl
    have : z = s := sv_inj (hz1.symm.trans (by simpa using h1.symm))
    subst this
    simp [he, hs, Go.WideElems.rg, Go.WideElems.rd, hl, anyR, hz2, strOf]
  rw [e]
 ·rw [hlen]; have := congrArg List.length hks; simpa using this
end Go.K
namespace Go.K
set_option linter.unusedVariables false
set_option linter.unusedSimpArgs false
open Go.Lib (compareBytes)
def putBy {α : Type} [DecidableEq α] (key : α → List UInt8) (t : α) : List α → List α
 |[] => [t]
 |u :: l => if key t < key u then t :: u :: l else if u = t then u :: l else u :: putBy key t l
theorem putBy_mem {α : Type} [DecidableEq α] {key : α → List UInt8} {t x : α} : ∀ {l : List α}, x ∈ putBy key t l ↔ x = t ∨ x ∈ l
 |[] => by simp [putBy]
 |u :: l => by
  unfold putBy
  split
  ·simp
  ·split
   ·rename_i h; subst h; simp
   ·rw [List.mem_cons, putBy_mem (l := l), List.mem_cons]
    constructor
    ·rintro (h | h | h)
     ·exact .inr (.inl h)
     ·exact .inl h
     ·exact .inr (.inr h)
    ·rintro (h | h | h)
     ·exact .inr (.inl h)
     ·exact .inl h
     ·exact .inr (.inr h)
abbrev UpBy {α : Type} (key : α → List UInt8) (l : List α) : Prop := l.Pairwise fun a b => key a < key b
theorem putBy_up {α : Type} [DecidableEq α] {key : α → List UInt8} {t : α} : ∀ {l : List α}, (∀ u ∈ l, key u = key t → u = t) → UpBy key l → UpBy key (putBy key t l)
 |[], _, _ => by simp [putBy]
 |u :: l, hi, h => by
  have h' := List.pairwise_cons.1 h
  unfold putBy
  split
  ·rename_i hlt
   refine List.pairwise_cons.2 ⟨fun x hx => ?_, h⟩
   rcases List.mem_cons.1 hx with rfl | hx
   ·exact hlt
   ·exact txt_trans hlt (h'.1 x hx)
  ·rename_i hlt
   split
   ·exact h
   ·rename_i hne
    have hut : key u < key t := by
     rcases txt_tri (key u) (key t) with h1 | h1 | h1
     ·exact h1
     ·exact absurd (hi u (List.mem_cons_self ..) h1) hne
     ·exact absurd h1 hlt
    refine List.pairwise_cons.2 ⟨fun x hx => ?_, putBy_up (fun v hv => hi v (List.mem_cons_of_mem _ hv)) h'.2⟩
    rcases putBy_mem.1 hx with rfl | hx
    ·exact hut
    ·exact h'.1 x hx
def allBy {α : Type} [DecidableEq α] (key : α → List UInt8) (l : List α) : List α := l.foldl (fun a t => putBy key t a) []
theorem fold_by {α : Type} [DecidableEq α] {key : α → List UInt8} {S : α → Prop} (hS : ∀ a b, S a → S b → key a = key b → a = b) : ∀ (l a : List α), (∀ x ∈ l, S x) → (∀ x ∈ a, S x) → UpBy key a →
  UpBy key (l.foldl (fun a t => putBy key t a) a) ∧ ∀ x, x ∈ l.foldl (fun a t => putBy key t a) a ↔ x ∈ a ∨ x ∈ l
 |[], a, _, _, h => ⟨h, fun x => by simp⟩
 |t :: l, a, hl, ha, h => by
  have ht := hl t (List.mem_cons_self ..)
  obtain ⟨h1, h2⟩ := fold_by hS l (putBy key t a) (fun x hx => hl x (List.mem_cons_of_mem _ hx)) (fun x hx => by
   rcases putBy_mem.1 hx with rfl | hx
   ·exact ht
   ·exact ha x hx) (putBy_up (fun u hu e => hS _ _ (ha u hu) ht e) h)
  refine ⟨h1, fun x => ?_⟩
  rw [List.foldl_cons, h2, putBy_mem, List.mem_cons]
  constructor
  ·rintro ((h | h) | h)
   ·exact .inr (.inl h)
   ·exact .inl h
   ·exact .inr (.inr h)
  ·rintro (h | h | h)
   ·exact .inl (.inr h)
   ·exact .inl (.inl h)
   ·exact .inr h
theorem UpBy.nodup {α : Type} {key : α → List UInt8} {l : List α} (h : UpBy key l) : l.Nodup := h.imp fun {a b} h e => by subst e; exact txt_irr _ h
abbrev NoZ (t : Fd) : Prop := (0 : UInt8) ∉ t.1
theorem keyE_one {a b : Fd} (ha : NoZ a) (hb : NoZ b) (h : keyE a = keyE b) : a = b := by
 obtain ⟨h1, h2⟩ := keyE_inj ha hb h
 exact Prod.ext h1 h2
def termsOf (tl : List (Fd × Nat)) : List Fd := allBy keyE (tl.map (·.1))
theorem terms_up {tl : List (Fd × Nat)} (hz : ∀ p ∈ tl, NoZ p.1) : UpBy keyE (termsOf tl) :=
 (fold_by (S := NoZ) (fun _ _ => keyE_one) _ [] (fun x hx => by obtain ⟨p, hp, rfl⟩ := List.mem_map.1 hx; exact hz p hp) (fun x h => by cases h) List.Pairwise.nil).1
theorem terms_mem {tl : List (Fd × Nat)} (hz : ∀ p ∈ tl, NoZ p.1) {t : Fd} : t ∈ termsOf tl ↔ t ∈ tl.map (·.1) := by
 have := (fold_by (S := NoZ) (key := keyE) (fun _ _ => keyE_one) (tl.map (·.1)) [] (fun x hx => by obtain ⟨p, hp, rfl⟩ := List.mem_map.1 hx; exact hz p hp) (fun x h => by cases h) List.Pairwise.nil).2 t
 simpa [termsOf, allBy] using this
theorem seen_go (t : Fd) : ∀ (ts : List (Fd × Nat)) (l : List Fd), t ∈ ts.foldl (fun l p => if p.1 ∈ l then l else l ++ [p.1]) l ↔ t ∈ l ∨ t ∈ ts.map (·.1)
 |[], l => by simp
 |p :: ts, l => by
  rw [List.foldl_cons, seen_go t ts, List.map_cons, List.mem_cons]
  split
  ·rename_i h
   constructor
   ·rintro (h1 | h1)
    ·exact .inl h1
    ·exact .inr (.inr h1)
   ·rintro (h1 | h1 | h1)
    ·exact .inl h1
    ·exact .inl (by rw [h1]; exact h)
    ·exact .inr h1
  ·rw [List.mem_append, List.mem_singleton]
   constructor
   ·rintro ((h1 | h1) | h1)
    ·exact .inl h1
    ·exact .inr (.inl h1)
    ·exact .inr (.inr h1)
   ·rintro (h1 | h1 | h1)
    ·exact .inl (.inl h1)
    ·exact .inl (.inr h1)
    ·exact .inr h1
theorem seen_mem {tl : List (Fd × Nat)} {t : Fd} : t ∈ seen tl ↔ t ∈ tl.map (·.1) := by unfold seen; rw [seen_go]; simp
theorem byKey_terms {tl : List (Fd × Nat)} {us : List Fd} (hz : ∀ p ∈ tl, NoZ p.1) (hnd : us.Nodup) (hin : ∀ t, t ∈ us ↔ t ∈ seen tl) (hby : ByKey us) : us = termsOf tl := by
 have hm : ∀ t, t ∈ us ↔ t ∈ termsOf tl := fun t => by rw [hin, seen_mem, terms_mem hz]
 have hno : ∀ t ∈ termsOf tl, NoZ t := fun t ht => by obtain ⟨p, hp, rfl⟩ := List.mem_map.1 ((terms_mem hz).1 ht); exact hz p hp
 refine List.Perm.eq_of_pairwise (le := fun a b => ¬ compareBytes (keyE b) (keyE a) < 0) (fun a b ha hb h1 h2 => ?_) hby ((terms_up hz).imp fun {a b} h h' => txt_asym h ((cmp_lt _ _).1 h')) ((List.perm_ext_iff_of_nodup hnd (terms_up hz).nodup).2 hm)
 rw [cmp_lt] at h1 h2
 rcases txt_tri (keyE a) (keyE b) with h | h | h
 ·exact absurd h h2
 ·exact keyE_one (hno a ((hm a).1 ha)) (hno b hb) h
 ·exact absurd h h1
theorem posOf_append (a b : List (Fd × Nat)) (t : Fd) : posOf (a ++ b) t = posOf a t ++ posOf b t := by simp [posOf]
theorem posOf_ne {tl : List (Fd × Nat)} {t : Fd} (h : t ∈ tl.map (·.1)) : posOf tl t ≠ [] := by
 obtain ⟨p, hp, rfl⟩ := List.mem_map.1 h
 intro e
 have : p ∈ tl.filter fun q => decide (q.1 = p.1) := List.mem_filter.2 ⟨hp, by simp⟩
 rw [List.map_eq_nil_iff.1 e] at this; cases this
theorem posOf_nil {tl : List (Fd × Nat)} {t : Fd} (h : t ∉ tl.map (·.1)) : posOf tl t = [] := by
 unfold posOf
 rw [List.filter_eq_nil_iff.2 fun p hp => by simp; intro e; exact h (List.mem_map.2 ⟨p, hp, e⟩)]; rfl
theorem posF_sub (x : Fd) (t : Fd) : (posOf (tellF x) t).Sublist ((List.range' 0 (words x.2).length).map fun (i : Nat) => (i : Int)) := by
 have e : (tellF x).map (fun p => (p.2 : Int)) = (List.range' 0 (words x.2).length).map fun (i : Nat) => (i : Int) := by
  rw [← List.zipIdx_map_snd 0 (words x.2), List.map_map]; unfold tellF; rw [List.map_map]; rfl
 rw [← e]
 exact List.filter_sublist.map _
theorem posF_rise (x : Fd) (t : Fd) : (posOf (tellF x) t).Pairwise (· < ·) ∧ ∀ i ∈ posOf (tellF x) t, 0 ≤ i ∧ i < (words x.2).length := by
 refine ⟨List.Pairwise.sublist (posF_sub x t) (List.pairwise_map.2 ((List.pairwise_lt_range' (s := 0) (n := (words x.2).length)).imp fun h => by omega)), fun i hi => ?_⟩
 have := (posF_sub x t).subset hi
 obtain ⟨k, hk, rfl⟩ := List.mem_map.1 this
 have := List.mem_range'_1.1 hk; omega
theorem tellF_mem {x : Fd} {p : Fd × Nat} (h : p ∈ tellF x) : p.1.1 = x.1 ∧ p.1.2 ∈ words x.2 := by
 obtain ⟨q, hq, rfl⟩ := List.mem_map.1 h
 have := List.mem_zipIdx hq
 exact ⟨rfl, by simp only; rw [this.2.2]; exact List.getElem_mem _⟩
theorem tells_mem {fs : List Fd} {p : Fd × Nat} (h : p ∈ tellsL fs) : ∃ x ∈ fs, p.1.1 = x.1 ∧ p.1.2 ∈ words x.2 := by
 obtain ⟨x, hx, hp⟩ := List.mem_flatMap.1 h
 exact ⟨x, hx, tellF_mem hp⟩
theorem posF_other {x t : Fd} (h : x.1 ≠ t.1) : posOf (tellF x) t = [] := posOf_nil fun hm => by
 obtain ⟨p, hp, rfl⟩ := List.mem_map.1 hm
 exact h (tellF_mem hp).1.symm
theorem posL_none {t : Fd} : ∀ {fs : List Fd}, (∀ x ∈ fs, x.1 ≠ t.1) → posOf (tellsL fs) t = []
 |[], _ => rfl
 |x :: fs, h => by
  show posOf (tellF x ++ tellsL fs) t = []
  rw [posOf_append, posF_other (h x (List.mem_cons_self ..)), posL_none fun y hy => h y (List.mem_cons_of_mem _ hy)]; rfl
theorem posL_one {t : Fd} : ∀ {fs : List Fd}, (fs.map (·.1)).Nodup → posOf (tellsL fs) t = [] ∨ ∃ x ∈ fs, posOf (tellsL fs) t = posOf (tellF x) t
 |[], _ => .inl rfl
 |x :: fs, h => by
  have h' := List.nodup_cons.1 h
  have e : posOf (tellsL (x :: fs)) t = posOf (tellF x) t ++ posOf (tellsL fs) t := by show posOf (tellF x ++ tellsL fs) t = _; rw [posOf_append]
  by_cases hx : x.1 = t.1
  ·refine .inr ⟨x, List.mem_cons_self .., ?_⟩
   rw [e, posL_none fun y hy e => h'.1 (by have h9 : y.1 ∈ fs.map (·.1) := List.mem_map_of_mem hy; rw [e, ← hx] at h9; exact h9), List.append_nil]
  ·rw [e, posF_other hx, List.nil_append]
   rcases posL_one (t := t) h'.2 with h1 | ⟨y, hy, h1⟩
   ·exact .inl h1
   ·exact .inr ⟨y, List.mem_cons_of_mem _ hy, h1⟩
theorem rises_of : ∀ {l : List Int} {last : Int}, (∀ x ∈ l, last < x) → l.Pairwise (· < ·) → rises last l = true
 |[], _, _, _ => rfl
 |x :: l, last, h1, h2 => by
  have h2' := List.pairwise_cons.1 h2
  simp only [rises, Bool.and_eq_true, decide_eq_true_eq]
  exact ⟨h1 x (List.mem_cons_self ..), rises_of h2'.1 h2'.2⟩
structure Fine (d : Dc) : Prop where
 names : ∀ f ∈ d.2, nameB f.1 = true
 once : (d.2.map (·.1)).Nodup
 toks : ∀ f ∈ d.2, tokE 0 (words f.2) = 0
 many : (tellsL d.2).length ≤ 500
 few : d.2.length ≤ 8
theorem mayL_fine : ∀ {fs sn : List Fd} {n : Nat}, mayL sn fs n = 0 → (∀ f ∈ fs, nameB f.1 = true ∧ tokE 0 (words f.2) = 0 ∧ ∀ g ∈ sn, g.1 ≠ f.1) ∧ (fs.map (·.1)).Nodup ∧ n + (tellsL fs).length ≤ 500
 |[], sn, n, h => by
  refine ⟨(fun f hf => by cases hf), List.nodup_nil, ?_⟩
  simp only [mayL] at h
  split at h
  ·cases h
  ·simp [tellsL]; omega
 |f :: fs, sn, n, h => by
  simp only [mayL] at h
  split at h
  ·cases h
  ·rename_i h1
   split at h
   ·cases h
   ·rename_i h2
    split at h
    ·exact absurd h (by assumption)
    ·rename_i h3
     obtain ⟨h4, h5, h6⟩ := mayL_fine h
     have h7 : ∀ g ∈ sn, g.1 ≠ f.1 := fun g hg e => h2 (List.any_eq_true.2 ⟨g, hg, by simp [e]⟩)
     refine ⟨fun x hx => ?_, List.nodup_cons.2 ⟨fun hm => ?_, h5⟩, ?_⟩
     ·rcases List.mem_cons.1 hx with rfl | hx
      ·exact ⟨by simpa using h1, by simpa using h3, h7⟩
      ·obtain ⟨a, b, c⟩ := h4 x hx
       exact ⟨a, b, fun g hg => c g (List.mem_append_left _ hg)⟩
     ·obtain ⟨y, hy, e⟩ := List.mem_map.1 hm
      exact (h4 y hy).2.2 f (List.mem_append_right _ (List.mem_singleton.2 rfl)) e.symm
     ·have : (tellsL (f :: fs)).length = (tellF f).length + (tellsL fs).length := by show (tellF f ++ tellsL fs).length = _; rw [List.length_append]
      rw [this, tellF_len]; omega
theorem fine_of {d : Dc} (h : mayD d = 0) : Fine d := by
 unfold mayD at h
 split at h
 ·cases h
 ·obtain ⟨h1, h2, h3⟩ := mayL_fine h
  exact ⟨fun f hf => (h1 f hf).1, h2, fun f hf => (h1 f hf).2.1, by omega, by omega⟩
theorem tok_small : ∀ {ws : List (List UInt8)} {i : Nat}, tokE i ws = 0 → ∀ x ∈ ws, x.length ≤ 30
 |[], _, _, x, hx => by cases hx
 |a :: ws, i, h, x, hx => by
  simp only [tokE] at h
  split at h
  ·cases h
  ·split at h
   ·cases h
   ·rcases List.mem_cons.1 hx with rfl | hx
    ·omega
    ·exact tok_small h x hx
theorem name_noz {s : List UInt8} (h : nameB s = true) : (0 : UInt8) ∉ s := fun h0 => by
 simp only [nameB, Bool.and_eq_true, List.all_eq_true] at h
 have := h.2 0 h0
 revert this; decide
theorem Fine.noz {d : Dc} (h : Fine d) : ∀ p ∈ tellsL d.2, NoZ p.1 := fun p hp => by
 obtain ⟨x, hx, h1, _⟩ := tells_mem hp
 show (0 : UInt8) ∉ p.1.1
 rw [h1]; exact name_noz (h.names x hx)
theorem Fine.small {d : Dc} (h : Fine d) : ∀ p ∈ tellsL d.2, p.1.1.length ≤ 12 ∧ p.1.2.length ≤ 30 := fun p hp => by
 obtain ⟨x, hx, h1, h2⟩ := tells_mem hp
 exact ⟨by rw [h1]; exact name_len (h.names x hx), tok_small (h.toks x hx) _ h2⟩
theorem Fine.pos {d : Dc} (h : Fine d) (t : Fd) : (posOf (tellsL d.2) t).Pairwise (· < ·) ∧ (∀ i ∈ posOf (tellsL d.2) t, 0 ≤ i ∧ i < 500) ∧ (posOf (tellsL d.2) t).length ≤ 500 := by
 have hl := posOf_len (tellsL d.2) t
 have hm := h.many
 rcases posL_one (t := t) h.once with h1 | ⟨x, hx, h1⟩
 ·rw [h1]; exact ⟨List.Pairwise.nil, (fun i hi => by cases hi), by simp⟩
 ·obtain ⟨h2, h3⟩ := posF_rise x t
  have hxl : (words x.2).length ≤ 500 := by
   have : (tellF x).length ≤ (tellsL d.2).length := by
    obtain ⟨i, hi⟩ := List.mem_iff_getElem?.1 hx
    have := tells_take hi
    have h5 : (tellsL (d.2.take (i + 1))).length ≤ (tellsL d.2).length := by
     have : tellsL d.2 = tellsL (d.2.take (i + 1)) ++ tellsL (d.2.drop (i + 1)) := by unfold tellsL; rw [← List.flatMap_append, List.take_append_drop]
     rw [this, List.length_append]; omega
    rw [this, List.length_append] at h5; omega
   rw [tellF_len] at this; omega
  rw [h1] at hl ⊢
  exact ⟨h2, fun i hi => ⟨(h3 i hi).1, by have := (h3 i hi).2; omega⟩, by omega⟩
theorem Fine.rises {d : Dc} (h : Fine d) (t : Fd) : risesB (posOf (tellsL d.2) t) = true := by
 obtain ⟨h1, h2, _⟩ := h.pos t
 exact risesB_iff.2 ⟨rises_of (fun x hx => by have := (h2 x hx).1; omega) h1, fun x hx => by have := (h2 x hx).2; omega⟩
abbrev tlE (e : En) : List (Fd × Nat) := tellsL e.1.2
def pkE (i : Nat) (tl : List (Fd × Nat)) (k : List UInt8) : List Po := ((termsOf tl).filter fun t => decide (keyE t = k)).map fun t => ((i : Int), posOf tl t)
def pkF (k : List UInt8) : Nat → List En → List Po
 |_, [] => []
 |i, e :: L => pkE i (tlE e) k ++ pkF k (i + 1) L
def pk (L : List En) (k : List UInt8) : List Po := pkF k 0 L
theorem pkF_snoc (k : List UInt8) (e : En) : ∀ (L : List En) (i : Nat), pkF k i (L ++ [e]) = pkF k i L ++ pkE (i + L.length) (tlE e) k
 |[], i => by simp [pkF]
 |x :: L, i => by
  simp only [List.cons_append, pkF, pkF_snoc k e L (i + 1), List.append_assoc, List.length_cons]
  rw [show i + 1 + L.length = i + (L.length + 1) by omega]
theorem pk_snoc (L : List En) (e : En) (k : List UInt8) : pk (L ++ [e]) k = pk L k ++ pkE L.length (tlE e) k := by
 unfold pk; rw [pkF_snoc]; simp
def keysL (L : List En) : List (List UInt8) := L.flatMap fun e => (termsOf (tlE e)).map keyE
theorem keysL_snoc (L : List En) (e : En) : keysL (L ++ [e]) = keysL L ++ (termsOf (tlE e)).map keyE := by simp [keysL]
def keysOf (L : List En) : List (List UInt8) := allBy id (keysL L)
theorem keys_up (L : List En) : UpT (keysOf L) := (fold_by (key := id) (S := fun _ => True) (fun a b _ _ h => h) _ [] (fun _ _ => trivial) (fun _ _ => trivial) List.Pairwise.nil).1
theorem keys_mem {L : List En} {k : List UInt8} : k ∈ keysOf L ↔ k ∈ keysL L := by
 have := (fold_by (key := id) (S := fun _ => True) (fun a b _ _ h => h) (keysL L) [] (fun _ _ => trivial) (fun _ _ => trivial) List.Pairwise.nil).2 k
 simpa [keysOf, allBy] using this
theorem filter_one {α : Type} {key : α → List UInt8} {l : List α} (h : UpBy key l) (k : List UInt8) : l.filter (fun t => decide (key t = k)) = [] ∨ ∃ t ∈ l, key t = k ∧ l.filter (fun t => decide (key t = k)) = [t] := by
 have h1 : UpBy key (l.filter fun t => decide (key t = k)) := List.Pairwise.sublist List.filter_sublist h
 have h2 : ∀ x ∈ l.filter (fun t => decide (key t = k)), x ∈ l ∧ key x = k := fun x hx => by simpa using List.mem_filter.1 hx
 revert h1 h2
 generalize l.filter (fun t => decide (key t = k)) = m
 intro h1 h2
 match m, h1, h2 with
 |[], _, _ => exact .inl rfl
 |[t], _, h2 => exact .inr ⟨t, (h2 t (List.mem_cons_self ..)).1, (h2 t (List.mem_cons_self ..)).2, rfl⟩
 |t :: u :: m, h1, h2 =>
  have := (List.pairwise_cons.1 h1).1 u (List.mem_cons_self ..)
  rw [(h2 t (List.mem_cons_self ..)).2, (h2 u (by simp)).2] at this
  exact absurd this (txt_irr k)
theorem pkE_one {d : Dc} (h : Fine d) (i : Nat) (k : List UInt8) : pkE i (tellsL d.2) k = [] ∨ ∃ t ∈ termsOf (tellsL d.2), keyE t = k ∧ pkE i (tellsL d.2) k = [((i : Int), posOf (tellsL d.2) t)] := by
 rcases filter_one (terms_up h.noz) k with h1 | ⟨t, ht, hk, h1⟩
 ·exact .inl (by unfold pkE; rw [h1]; rfl)
 ·exact .inr ⟨t, ht, hk, by unfold pkE; rw [h1]; rfl⟩
theorem pkE_ne {tl : List (Fd × Nat)} {i : Nat} {t : Fd} (h : t ∈ termsOf tl) : pkE i tl (keyE t) ≠ [] := fun e => by
 have : t ∈ (termsOf tl).filter fun u => decide (keyE u = keyE t) := List.mem_filter.2 ⟨h, by simp⟩
 rw [List.map_eq_nil_iff.1 e] at this; cases this
theorem pkF_may (k : List UInt8) : ∀ (L : List En) (i : Nat) (last : Int), (∀ e ∈ L, Fine e.1) → last < i → i + L.length ≤ 2147483648 → mayPo last (pkF k i L) = true
 |[], _, _, _, _, _ => rfl
 |e :: L, i, last, hF, h1, h2 => by
  have hf := hF e (List.mem_cons_self ..)
  have hr := fun last h => pkF_may k L (i + 1) last (fun x hx => hF x (List.mem_cons_of_mem _ hx)) h (by simp at h2; omega)
  simp only [pkF]
  rcases pkE_one hf i k with h3 | ⟨t, ht, hk, h3⟩
  ·rw [show pkE i (tlE e) k = [] from h3]; exact hr last (by omega)
  ·rw [show pkE i (tlE e) k = _ from h3]
   have hne : (posOf (tellsL e.1.2) t).isEmpty = false := by
    have := posOf_ne ((terms_mem hf.noz).1 ht)
    cases h : posOf (tellsL e.1.2) t with
    |nil => exact absurd h this
    |cons a b => rfl
   simp only [List.cons_append, List.nil_append, mayPo, hne, hf.rises t, hr i (by omega), Bool.and_true, Bool.not_false, Bool.and_eq_true, decide_eq_true_eq]
   simp at h2; omega
theorem pkF_at (k : List UInt8) : ∀ (L : List En) (i : Nat), (∀ e ∈ L, Fine e.1) → (pkF k i L).length ≤ L.length ∧ ∀ p ∈ pkF k i L, (i : Int) ≤ p.1 ∧ p.1 < i + L.length ∧ p.2.length ≤ 500
 |[], _, _ => ⟨Nat.le_refl _, fun p h => by cases h⟩
 |e :: L, i, hF => by
  have hf := hF e (List.mem_cons_self ..)
  obtain ⟨h1, h2⟩ := pkF_at k L (i + 1) (fun x hx => hF x (List.mem_cons_of_mem _ hx))
  simp only [pkF, List.length_cons]
  rcases pkE_one hf i k with h3 | ⟨t, ht, hk, h3⟩
  ·rw [show pkE i (tlE e) k = [] from h3]
   exact ⟨by simpa using Nat.le_succ_of_le h1, fun p hp => by have := h2 p (by simpa using hp); exact ⟨by omega, by omega, this.2.2⟩⟩
  ·rw [show pkE i (tlE e) k = _ from h3]
   refine ⟨by simp; omega, fun p hp => ?_⟩
   rcases List.mem_cons.1 hp with rfl | hp
   ·exact ⟨Int.le_refl _, by simp only; omega, (hf.pos t).2.2⟩
   ·have := h2 p (by simpa using hp); exact ⟨by omega, by omega, this.2.2⟩
theorem putPo_len : ∀ (l : List Po) (last : Int) (m : Nat), -1 ≤ last → mayPo last l = true → (∀ p ∈ l, p.2.length ≤ m) → m ≤ 1000000 → (putPo last l).length ≤ (18 + 9 * m) * l.length ∧ totPo l ≤ m * l.length
 |[], _, _, _, _, _, _ => ⟨by simp [putPo], by simp [totPo]⟩
 |(d, ps) :: l, last, m, h0, hm, hs, hmm => by
  simp only [mayPo, Bool.and_eq_true, decide_eq_true_eq] at hm
  obtain ⟨⟨⟨⟨h1, h2⟩, h3⟩, h4⟩, h5⟩ := hm
  obtain ⟨h6, h7⟩ := risesB_iff.1 h4
  have hps := hs _ (List.mem_cons_self ..)
  simp only at hps
  obtain ⟨i1, i2⟩ := putPo_len l d m (by omega) h5 (fun p hp => hs p (List.mem_cons_of_mem _ hp)) hmm
  have a1 := putR_len ps (-1) (by omega) (fun x hx => by have := h7 x hx; omega) h6
  have a3 := put_len9 (n := (d - last - 1).toNat) (by omega)
  have a4 := put_len9 (n := ps.length) (by omega)
  have e1 : 9 * ps.length ≤ 9 * m := by omega
  constructor
  ·simp only [putPo, putRising, List.length_append, List.length_cons, Nat.mul_add, Nat.mul_one]; omega
  ·simp only [totPo, List.map_cons, List.sum_cons, List.length_cons] at i2 ⊢
   rw [Int.natCast_add, Int.mul_add]; omega
theorem pkF_ne {k : List UInt8} : ∀ {L : List En} (i : Nat), k ∈ keysL L → pkF k i L ≠ []
 |[], _, h => by cases h
 |e :: L, i, h => by
  simp only [pkF]
  intro hn
  obtain ⟨h1, h2⟩ := List.append_eq_nil_iff.1 hn
  have h : k ∈ (termsOf (tlE e)).map keyE ++ keysL L := h
  rcases List.mem_append.1 h with h | h
  ·obtain ⟨t, ht, rfl⟩ := List.mem_map.1 h
   exact pkE_ne ht h1
  ·exact pkF_ne (i + 1) h h2
theorem pkF_nil {k : List UInt8} : ∀ {L : List En} (i : Nat), k ∉ keysL L → pkF k i L = []
 |[], _, _ => rfl
 |e :: L, i, h => by
  have h : k ∉ (termsOf (tlE e)).map keyE ++ keysL L := h
  rw [List.mem_append, not_or] at h
  simp only [pkF]
  rw [pkF_nil (i + 1) h.2, List.append_nil]
  unfold pkE
  rw [List.filter_eq_nil_iff.2 fun t ht => by simp; intro e'; exact h.1 (List.mem_map.2 ⟨t, ht, e'⟩)]; rfl
end Go.K
namespace Go.K
set_option linter.unusedVariables false
set_option linter.unusedSimpArgs false
def RT.ptr {α : Type} (A : RT α) (hn : 0 < A.n := by decide) : RT α where
 n := 1
 agg := false
 R := fun M w x vs => ∃ b o us, vs = [.pointer (some ⟨b, o, none⟩)] ∧ ¬ M b ∧ A.R M w x us ∧ w.rangeAt b o us
 len := by rintro _ _ x vs ⟨b, o, us, rfl, _⟩; rfl
 one := by rintro _ _ x vs ⟨b, o, us, rfl, _⟩ v hv; simp at hv; subst hv; rfl
 le := by
  rintro M w M' w' x vs hl ⟨b, o, us, h1, h2, h3, h4⟩
  have hp : 0 < us.length := by rw [A.len h3]; exact hn
  have hc := h4 0 (us[0]'hp) (List.getElem?_eq_getElem hp)
  exact ⟨b, o, us, h1, (hl b (World.block_lt_of_cell? w _ hc) h2).1, A.le hl h3, rangeAt_le hl h2 h4⟩
theorem V_ptr {α : Type} {A : RT α} {hn : 0 < A.n} {M : PSet} {w : World} {x : α} {v : Value} : (A.ptr hn).V M w x v ↔ PtrTo A M w v x :=
 ⟨fun ⟨vs, ⟨b, o, us, h1, h2, h3, h4⟩, h5⟩ => ⟨b, o, us, by subst h1; exact h5, h2, h3, h4⟩, fun ⟨b, o, us, h1, h2, h3, h4⟩ => ⟨[v], ⟨b, o, us, by rw [h1], h2, h3, h4⟩, rfl⟩⟩
abbrev Di := List (List UInt8) × List Li
abbrev Se := List Int × List Int × Di
abbrev RT.di : RT Di := RT.pair (RT.str.sl) (((RT.li).ptr).sl)
abbrev RT.se : RT Se := RT.pair ((RT.int .i64).sl) (RT.pair ((RT.int .i64).sl) ((RT.di).ptr))
theorem di0 : Part RT.di (RT.str.sl) (fun p => p.1) 0 := Part.fst _ _
theorem di1 : Part RT.di (((RT.li).ptr).sl) (fun p => p.2) 1 := Part.snd _ _
theorem se1 : Part RT.se ((RT.int .i64).sl) (fun p => p.2.1) 1 := (Part.snd ((RT.int .i64).sl) (RT.pair ((RT.int .i64).sl) ((RT.di).ptr))).trans (Part.fst _ _)
theorem se2 : Part RT.se ((RT.di).ptr) (fun p => p.2.2) 2 := (Part.snd ((RT.int .i64).sl) (RT.pair ((RT.int .i64).sl) ((RT.di).ptr))).trans (Part.snd ((RT.int .i64).sl) ((RT.di).ptr))
abbrev Pa := List Int × List Int × List (List UInt8) × List (List Po)
abbrev RT.pa : RT Pa := RT.pair ((RT.int .i64).sl) (RT.pair ((RT.int .i64).sl) (RT.pair (RT.str.sl) (((RT.po).sl).sl)))
theorem pa0 : Part RT.pa ((RT.int .i64).sl) (fun p => p.1) 0 := Part.fst _ _
theorem pa1 : Part RT.pa ((RT.int .i64).sl) (fun p => p.2.1) 1 := (Part.snd ((RT.int .i64).sl) (RT.pair ((RT.int .i64).sl) (RT.pair (RT.str.sl) (((RT.po).sl).sl)))).trans (Part.fst _ _)
theorem pa2 : Part RT.pa (RT.str.sl) (fun p => p.2.2.1) 2 := ((Part.snd ((RT.int .i64).sl) (RT.pair ((RT.int .i64).sl) (RT.pair (RT.str.sl) (((RT.po).sl).sl)))).trans (Part.snd ((RT.int .i64).sl) (RT.pair (RT.str.sl) (((RT.po).sl).sl)))).trans (Part.fst _ _)
theorem pa3 : Part RT.pa (((RT.po).sl).sl) (fun p => p.2.2.2) 3 := ((Part.snd ((RT.int .i64).sl) (RT.pair ((RT.int .i64).sl) (RT.pair (RT.str.sl) (((RT.po).sl).sl)))).trans (Part.snd ((RT.int .i64).sl) (RT.pair (RT.str.sl) (((RT.po).sl).sl)))).trans (Part.snd _ _)
theorem V_se {M : PSet} {w : World} {x : Se} {a b c : Value} (h0 : ((RT.int .i64).sl).V M w x.1 a) (h1 : ((RT.int .i64).sl).V M w x.2.1 b) (h2 : PtrTo RT.di M w c x.2.2) : RT.se.V M w x (.agg [a, b, c].toArray) :=
 ⟨[a, b, c], ⟨[a], [b, c], rfl, V_cell h0 rfl rfl, [b], [c], rfl, V_cell h1 rfl rfl, V_cell (V_ptr.2 h2) rfl rfl⟩, rfl⟩
theorem V_pa {M : PSet} {w : World} {x : Pa} {a b c d : Value} (h0 : ((RT.int .i64).sl).V M w x.1 a) (h1 : ((RT.int .i64).sl).V M w x.2.1 b) (h2 : (RT.str.sl).V M w x.2.2.1 c) (h3 : (((RT.po).sl).sl).V M w x.2.2.2 d) : RT.pa.V M w x (.agg [a, b, c, d].toArray) :=
 ⟨[a, b, c, d], ⟨[a], [b, c, d], rfl, V_cell h0 rfl rfl, [b], [c, d], rfl, V_cell h1 rfl rfl, [c], [d], rfl, V_cell h2 rfl rfl, V_cell h3 rfl rfl⟩, rfl⟩
theorem V_ones {α : Type} {A : RT α} (hg : A.agg = true) {M : PSet} {w : World} {x : α} {vs : List Value} (h : A.V M w x (.agg vs.toArray)) : ∀ u ∈ vs, u.oneCell' = true := by
 obtain ⟨us, h1, h2⟩ := h
 have : vs = us := by
  unfold RT.val at h2; rw [if_pos hg] at h2
  injection h2 with h2
  simpa using congrArg Array.toList h2
 subst this; exact A.one h1
theorem AllR.free {α : Type} {A : RT α} (hA : ∀ M w M' w' x vs, A.R M w x vs → A.R M' w' x vs) {M M' : PSet} {w w' : World} : ∀ {xs : List α} {C : List Value}, AllR A M w xs C → AllR A M' w' xs C
 |[], _, h => h
 |x :: xs, C, h => by
  obtain ⟨vs, r, h1, h2, h3⟩ := h
  exact ⟨vs, r, h1, hA _ _ _ _ _ _ h2, AllR.free hA h3⟩
theorem Own.tell {α : Type} {A : RT α} {hn : 0 < A.n} (hA : ∀ M w M' w' x vs, A.R M w x vs → A.R M' w' x vs) {e : TypeId} {M M0 : PSet} {w : World} {base : Nat} {v : Value} {xs : List α} (h : Own A e M w base v xs) (hb : ∀ b, v.ownBlock = some b → ¬ M0 b) (hlen : xs.length ≤ 140737488355328) : (A.sl hn).V M0 w xs v := by
 obtain ⟨⟨C, hr, ha⟩, hm⟩ := h
 have h' : Own A e (fun b => v.ownBlock = some b ∨ M0 b) w base v xs := ⟨⟨C, hr, AllR.free hA ha⟩, fun b hb => .inl hb⟩
 exact h'.sl (fun b _ hn => ⟨fun h => hn (.inr h), rfl⟩) hb hlen
end Go.K
namespace Go.K
set_option linter.unusedVariables false
set_option linter.unusedSimpArgs false
open Go.Maps (Keyed)
section
variable {P : Program} {r : Option Nat} {n : Nat} {L : Sl} {ds : List Deferred} {w : World} {K : Kt} {ops : Array Oper} {rest : List Oper} {d : Nat} {x y z : Operand} {ty : TypeId} {pos : String} {af : Array Edge}
variable {kt : TypeId} {M : PSet} {b clock : Nat} {es : List MapEntry}
theorem MapW.setVal (h : MapW P kt w b es clock) {i s : Nat} {key v0 val : Value} (hi : es[i]? = some ⟨key, v0, s⟩) {w' : World} (hw : w'.heap[b]? = some (.map (es.set i ⟨key, val, s⟩).toArray clock)) :
  MapW P kt w' b (es.set i ⟨key, val, s⟩) clock ∧ (es.set i ⟨key, val, s⟩).map (·.key) = es.map (·.key) ∧ ∀ zv key' v', ValAt zv (es.set i ⟨key, val, s⟩) key' v' ↔ (key' = key ∧ v' = val) ∨ (key' ≠ key ∧ ValAt zv es key' v') := by
 have hil := (List.getElem?_eq_some_iff.1 hi).1
 have hin : (⟨key, v0, s⟩ : MapEntry) ∈ es := List.mem_of_getElem? hi
 obtain ⟨es', hes'⟩ : ∃ es', es' = es.set i ⟨key, val, s⟩ := ⟨_, rfl⟩
 rw [← hes'] at hw ⊢
 have hget : ∀ j e', es'[j]? = some e' → (j = i ∧ e' = ⟨key, val, s⟩) ∨ (j ≠ i ∧ es[j]? = some e') := fun j e' hj => by
  rw [hes', List.getElem?_set] at hj
  split at hj
  ·rename_i hij
   left; exact ⟨hij.symm, by simpa [hil] using hj.symm⟩
  ·rename_i hij
   exact .inr ⟨fun e => hij e.symm, hj⟩
 have hkeys : es'.map (·.key) = es.map (·.key) := by
  rw [hes', List.map_set]
  apply List.ext_getElem?
  intro j
  rw [List.getElem?_set]
  split
  ·rename_i hij
   subst hij
   have e := (List.getElem?_eq_some_iff.1 hi).2
   simp [hil, e]
  ·rfl
 have hborn : es'.map (·.born) = es.map (·.born) := by
  rw [hes', List.map_set]
  apply List.ext_getElem?
  intro j
  rw [List.getElem?_set]
  split
  ·rename_i hij
   subst hij
   have e := (List.getElem?_eq_some_iff.1 hi).2
   simp [hil, e]
  ·rfl
 have hmem : ∀ e' ∈ es', (e' = ⟨key, val, s⟩) ∨ (e' ∈ es ∧ e'.key ≠ key) := fun e' he' => by
  obtain ⟨j, hj⟩ := List.mem_iff_getElem?.1 he'
  rcases hget j e' hj with ⟨_, e⟩ | ⟨hne, hj2⟩
  ·exact .inl e
  ·refine .inr ⟨List.mem_of_getElem? hj2, fun e => hne ?_⟩
   rcases Nat.lt_trichotomy j i with h1 | h1 | h1
   ·exact absurd e (pair_idx h.keys hj2 hi h1)
   ·exact h1
   ·exact absurd e.symm (pair_idx h.keys hi hj2 h1)
 have hnew : (⟨key, val, s⟩ : MapEntry) ∈ es' := List.mem_of_getElem? (i := i) (by rw [hes', List.getElem?_set]; simp [hil])
 have hold : ∀ e' ∈ es, e'.key ≠ key → e' ∈ es' := fun e' he' hne => by
  obtain ⟨j, hj⟩ := List.mem_iff_getElem?.1 he'
  refine List.mem_of_getElem? (i := j) ?_
  rw [hes', List.getElem?_set, if_neg]
  ·exact hj
  ·rintro rfl
   rw [hi] at hj; cases hj; exact hne rfl
 refine ⟨⟨hw, ?_, fun e' he' => ?_, ?_, fun e' he' => ?_⟩, hkeys, fun zv key' v' => ?_⟩
 ·have := List.pairwise_map.2 h.born
  rw [← hborn] at this; exact List.pairwise_map.1 this
 ·rcases hmem e' he' with e | ⟨h1, _⟩
  ·rw [e]; exact (h.lt _ hin : s < clock)
  ·exact h.lt _ h1
 ·have := List.pairwise_map.2 h.keys
  rw [← hkeys] at this; exact List.pairwise_map.1 this
 ·rcases hmem e' he' with e | ⟨h1, _⟩
  ·rw [e]; exact (h.ok _ hin : ∃ l, keyOf P kt key = some l)
  ·exact h.ok _ h1
 ·constructor
  ·rintro (⟨e', he', hk, hv⟩ | ⟨h1, h2⟩)
   ·rcases hmem e' he' with e | ⟨h3, h4⟩
    ·subst e; exact .inl ⟨hk.symm, hv⟩
    ·exact .inr ⟨by rw [← hk]; exact h4, .inl ⟨e', h3, hk, hv⟩⟩
   ·have hne : key' ≠ key := fun e => h1 _ hnew e.symm
    exact .inr ⟨hne, .inr ⟨fun e' he' => fun e => by
     by_cases h5 : e'.key = key
     ·exact hne (e.symm.trans h5)
     ·exact h1 e' (hold e' he' h5) e, h2⟩⟩
  ·rintro (⟨rfl, rfl⟩ | ⟨hne, ⟨e', he', hk, hv⟩ | ⟨h1, h2⟩⟩)
   ·exact .inl ⟨_, hnew, rfl, rfl⟩
   ·exact .inl ⟨e', hold e' he' (by rw [hk]; exact hne), hk, hv⟩
   ·exact .inr ⟨fun e' he' => by
     rcases hmem e' he' with e | ⟨h3, _⟩
     ·rw [e]; exact fun e => hne e.symm
     ·exact h1 e' h3, h2⟩
theorem ValAt.put {key val : Value} {s : Nat} (hn : ∀ e ∈ es, e.key ≠ key) (zv key' v' : Value) : ValAt zv (es ++ [⟨key, val, s⟩]) key' v' ↔ (key' = key ∧ v' = val) ∨ (key' ≠ key ∧ ValAt zv es key' v') := by
 constructor
 ·rintro (⟨e, he, hk, hv⟩ | ⟨h1, h2⟩)
  ·rcases List.mem_append.1 he with he | he
   ·exact .inr ⟨by rw [← hk]; exact hn e he, .inl ⟨e, he, hk, hv⟩⟩
   ·obtain rfl := List.mem_singleton.1 he
    exact .inl ⟨hk.symm, hv⟩
  ·exact .inr ⟨fun e => h1 ⟨key, val, s⟩ (by simp) e.symm, .inr ⟨fun e he => h1 e (List.mem_append_left _ he), h2⟩⟩
 ·rintro (⟨rfl, rfl⟩ | ⟨hne, ⟨e, he, hk, hv⟩ | ⟨h1, h2⟩⟩)
  ·exact .inl ⟨⟨_, _, s⟩, by simp, rfl, rfl⟩
  ·exact .inl ⟨e, List.mem_append_left _ he, hk, hv⟩
  ·refine .inr ⟨fun e he => ?_, h2⟩
   rcases List.mem_append.1 he with he | he
   ·exact h1 e he
   ·obtain rfl := List.mem_singleton.1 he
    exact fun e => hne e.symm
theorem Rg.updateW {t e : TypeId} {key val : Value} {kl : Lit} (ht : P.underlying t = some (.map kt e)) (Kk : Keyed P kt) (hx : ev L x = some (.map (some b))) (hy : ev L y = some key) (hz : ev L z = some val) (hkey : keyOf P kt key = some kl) (h : MapW P kt w b es clock) (hm : M b)
  (k : ∀ w' es' clock', MapW P kt w' b es' clock' → ((es'.map (·.key) = es.map (·.key) ∧ ∃ e ∈ es, e.key = key) ∨ (es'.map (·.key) = es.map (·.key) ++ [key] ∧ ∀ e ∈ es, e.key ≠ key)) → (∀ zv key' v', ValAt zv es' key' v' ↔ (key' = key ∧ v' = val) ∨ (key' ≠ key ∧ ValAt zv es key' v')) → Step M w M w' (fun k => k = b) → Rg P r n ops rest L ds w' K) :
  Rg P r n ops ({ dst := none, op := .mapUpdate t x y z, type := ty, pos, after := af, guard := none } :: rest) L ds w K := by
 have hlt := lt_of_get h.at_
 rcases Kk.find w hkey es h.ok with ⟨h1, h2⟩ | ⟨j, e0, h1, h2, h3⟩
 ·have hw : ({ w with heap := w.heap.setIfInBounds b (.map (es.toArray.push ⟨key, val, clock⟩) (clock + 1)) } : World).heap[b]? = some (.map (es ++ ([⟨key, val, clock⟩] : List MapEntry)).toArray (clock + 1)) := by
   simp [Array.getElem?_setIfInBounds, hlt]
  refine .opu (fun _ h => by cases h) rfl rfl _ (fun ρ hρ => ?_) (k _ _ _ (h.push hkey h2 hw) (Or.inr ⟨by simp, h2⟩) (ValAt.put h2) (step_setObj M hm))
  simp only [execOp, hρ x _ hx, hρ y _ hy, hρ z _ hz, Instr.mapUpdate, Sem.run_bind, run_underlying ht, Result.andThen_ok, run_getObj_map' h.at_, Kk.check w false hkey, h1, run_setObj_map h.at_]
  simp
 ·have he : e0 ∈ es := List.mem_of_getElem? h2
  obtain ⟨k0, v0, s0⟩ := e0
  simp only at h3
  subst h3
  have hj : es.toArray[j]? = some ⟨k0, v0, s0⟩ := by simpa using h2
  have hmod : es.toArray.modify j (fun e => { e with key := k0, val := val }) = (es.set j ⟨k0, val, s0⟩).toArray := by
   apply Array.ext_getElem?
   intro i
   rw [Array.getElem?_modify]
   simp only [List.getElem?_toArray, List.getElem?_set]
   split
   ·rename_i hji
    subst hji
    have := (List.getElem?_eq_some_iff.1 h2).1
    rw [h2]; simp [this]
   ·rfl
  have hw : ({ w with heap := w.heap.setIfInBounds b (.map (es.set j ⟨k0, val, s0⟩).toArray clock) } : World).heap[b]? = some (.map (es.set j ⟨k0, val, s0⟩).toArray clock) := by simp [Array.getElem?_setIfInBounds, hlt]
  obtain ⟨hW, hk1, hv1⟩ := h.setVal h2 hw
  have hst : (Instr.keyThatStays ((Option.map (fun (e : MapEntry) => e.key) es.toArray[j]?).getD k0) k0).run P w = .ok k0 w := by
   rw [hj]; simp only [Option.map_some, Option.getD_some]; exact Kk.stays w hkey
  refine .opu (fun _ h => by cases h) rfl rfl _ (fun ρ hρ => ?_) (k _ _ clock hW (Or.inl ⟨hk1, _, he, rfl⟩) hv1 (step_setObj M hm))
  simp only [execOp, hρ x _ hx, hρ y _ hy, hρ z _ hz, Instr.mapUpdate, Sem.run_bind, run_underlying ht, Result.andThen_ok, run_getObj_map' h.at_, Kk.check w false hkey, h1, hst, hmod, run_setObj_map h.at_]
  simp
theorem run_lookupW {t e : TypeId} {zv key : Value} {size bytes : Nat} {kl : Lit} (ht : P.underlying t = some (.map kt e)) (Kk : Keyed P kt) (hi : TI P e zv size bytes) (hkey : keyOf P kt key = some kl) (h : MapW P kt w b es clock) :
  ∃ v, ValAt zv es key v ∧ ∀ (w : World) (ρ : Operand → Value) (dst : Option Tmp) (gd : Option (Nat × Bool)), ρ x = .map (some b) → ρ y = key → MapW P kt w b es clock → (execOp ρ { dst, op := .lookup t x y false, type := ty, pos, after := af, guard := gd }).run P w = .ok (.value v) w := by
 rcases Kk.find w hkey es h.ok with ⟨h1, h2⟩ | ⟨j, e0, h1, h2, h3⟩
 ·refine ⟨zv, Or.inr ⟨h2, rfl⟩, fun w ρ dst gd hx hy h => ?_⟩
  obtain ⟨inf, i1, i2, _, _⟩ := hi.get
  have hz : (zeroValue e).run P w = .ok zv w := by simp [zeroValue, typeInfo, i1, i2]
  rcases Kk.find w hkey es h.ok with ⟨h1, _⟩ | ⟨j, e0, _, g2, g3⟩
  ·simp only [execOp, hx, hy, Instr.lookup, Sem.run_bind, run_underlying ht, Result.andThen_ok, run_getObj_map' h.at_, Sem.run_pure, Kk.check w _ hkey, h1, hz]
   simp
  ·exact absurd g3 (h2 e0 (List.mem_of_getElem? g2))
 ·refine ⟨e0.val, Or.inl ⟨e0, List.mem_of_getElem? h2, h3, rfl⟩, fun w ρ dst gd hx hy h => ?_⟩
  rcases Kk.find w hkey es h.ok with ⟨_, g2⟩ | ⟨j', e1, g1, g2, g3⟩
  ·exact absurd h3 (g2 e0 (List.mem_of_getElem? h2))
  ·have : e1 = e0 := h.key_one (List.mem_of_getElem? g2) (List.mem_of_getElem? h2) (g3.trans h3.symm)
   subst this
   simp only [execOp, hx, hy, Instr.lookup, Sem.run_bind, run_underlying ht, Result.andThen_ok, run_getObj_map' h.at_, Sem.run_pure, Kk.check w _ hkey, g1]
   simp
theorem FloatOk.lookupW {N : PSet} {t e : TypeId} {zv key : Value} {size bytes : Nat} {kl : Lit} {dst : Option Tmp} {gd : Option (Nat × Bool)} (ht : P.underlying t = some (.map kt e)) (Kk : Keyed P kt) (hi : TI P e zv size bytes) (hx : ev L x = some (.map (some b))) (hy : ev L y = some key) (hkey : keyOf P kt key = some kl) (h : MapW P kt w b es clock) (hn : ¬ N b) :
  FloatOk P N w L { dst, op := .lookup t x y false, type := ty, pos, after := af, guard := gd } := fun ρ hρ v w' hk hr => by
 obtain ⟨v0, _, hrun⟩ := run_lookupW (x := x) (y := y) (ty := ty) (pos := pos) (af := af) ht Kk hi hkey h
 have h' : MapW P kt w' b es clock := ⟨(hk.2 b (lt_of_get h.at_) hn).trans h.at_, h.born, h.lt, h.keys, h.ok⟩
 rw [hrun w ρ dst gd (hρ x _ hx) (hρ y _ hy) h] at hr
 rw [hrun w' ρ dst gd (hρ x _ hx) (hρ y _ hy) h']
 injection hr with h1 h2
 rw [h1]
end
end Go.K

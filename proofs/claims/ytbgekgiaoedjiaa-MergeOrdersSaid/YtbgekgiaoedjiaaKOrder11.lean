/- The walks of Go functions, operation by operation. -/
import Derived.Test.YtbgekgiaoedjiaaKTypes
import Derived.Test.YtbgekgiaoedjiaaKNum
import Derived.Test.YtbgekgiaoedjiaaKBits
import Derived.Test.YtbgekgiaoedjiaaKHp
import Derived.Test.YtbgekgiaoedjiaaKQuiet
import Derived.Test.YtbgekgiaoedjiaaKHeads
import Derived.Test.YtbgekgiaoedjiaaKHeap11
import Derived.Test.YtbgekgiaoedjiaaKPut11
import Derived.Test.YtbgekgiaoedjiaaKSmall11
import Derived.Test.YtbgekgiaoedjiaaKRises11
import Derived.Test.YtbgekgiaoedjiaaProg
import Derived.KernelRfl
namespace Go.K
open Go.Proofs
namespace TKOrder11
theorem I30 : TI Try.prog 30 (.agg #[(.int .i64 0), (.int .i64 0)]) 2 16 := by unfold TI; kernel_rfl -- [2]int
theorem I37 : TI Try.prog 37 (.pointer none) 1 8 := by unfold TI; kernel_rfl -- *merge.heads
theorem E10 : Enters Try.prog 10 := enters Try.func10 rfl (by decide) -- slices.ContainsFunc[[][]int,[]int]
theorem E13 : Enters Try.prog 13 := enters Try.func13 rfl (by decide) -- concordance/merge.Order$2
theorem E16 : Enters Try.prog 16 := enters Try.func16 rfl (by decide) -- container/heap.Pop
end TKOrder11
open TKOrder11
set_option linter.unusedVariables false
set_option linter.unusedSimpArgs false
set_option maxRecDepth 10000

/-- 'concordance/merge.Order' -/
theorem mOrder_spec {M : PSet} {w0 : World} {v : Value} {ls : List (List Int)} (hM : Lt M w0) (hv : (((RT.int .i64).sl).sl).V M w0 ls v) (hll : ls.length ≤ 1099511627776) (hl : ∀ l ∈ ls, l.length ≤ 1099511627776) (htot : tot ls ≤ 1099511627776) :
    Spec Try.prog 5 #[v] w0 (fun v' w' => (∃ vo : Value, ∃ e : Int, v' = .tuple #[vo, .int .i64 e] ∧ ((¬ Up ls ∧ e = 1 ∧ vo = .slice none 0 0) ∨ (Up ls ∧ ∃ r, ResO ls r ∧ ((r = none ∧ e = 5 ∧ vo = .slice none 0 0) ∨ ∃ out, r = some out ∧ e = 0 ∧ ((RT.fo).sl).V M w' (outO out) vo)))) ∧ Step M w0 M w' none') := by
  have hlen := V_sl_len hv
  refine spec_of (args := [_]) (fn := Try.f5) Try.func5 rfl (n := 55) Try.ntmps5 ?_
  refine T.seq ?_
  refine T.region ?_ -- region 0
  refine Rg.box M rfl rfl (fun bl wb zb zb' gb sb => ?_)
  have gb : wb.heap[bl]? = some (.cells #[v] 22 (0, 0)) := by rw [gb]; obtain ⟨a, cap, rfl, _⟩ := V_sl.1 hv; rfl
  refine Rg.assign rfl rfl ?_
  refine Rg.assign rfl rfl ?_
  refine Rg.nil ?_
  refine T.seq ?_
  refine T.seq ?_
  refine T.region ?_ -- region 1
  refine Rg.loadc Try.underlying22 rfl rfl rfl gb rfl ?_
  refine Rg.call rfl rfl E10 (ContainsF_spec (M := ins M bl) (sb.lt hM) (hv.le sb.le) hl) (fun rc wc h => ?_)
  obtain ⟨rfl, sc⟩ := h
  have hbl := sc.same0 gb
  have Sc := sb.trans0 sc
  clear gb
  refine Rg.nil ?_
  refine T.ifp rfl (fun c1 => ?_) (fun c1 => ?_)
  · -- c1 True
    refine T.seq ?_
    refine T.region ?_ -- region 2
    refine Rg.assign rfl rfl ?_
    refine Rg.assign rfl rfl ?_
    refine Rg.nil ?_
    refine T.ret ?_
    exact Kret2 rfl rfl rfl ⟨⟨_, 1, rfl, .inl ⟨c1, rfl, rfl⟩⟩, Sc.back⟩
  · -- c1 False
    refine T.skip ?_
    refine T.seq ?_
    refine T.region ?_ -- region 3
    have hup : Up ls := Classical.byContradiction c1
    refine Rg.sl0o Try.underlying39 I42 (ins M bl) rfl (fun g wg zg zg' gg sg => ?_)
    have Sg := Sc.trans0 sg
    have hblg := sg.same0 hbl
    clear hbl
    refine Rg.box (ins (ins M bl) g) rfl rfl (fun bh wh zh zh' gh sh => ?_)
    have gh : wh.heap[bh]? = some (.cells #[.slice (some ⟨g, 0, none⟩) 0 0] 39 (0, 0)) := gh
    have Sh := Sg.trans0 sh
    have hblh := sh.same0 hblg
    have ggh := sh.same0 gg
    clear hblg gg
    refine Rg.alloc (ins (ins (ins M bl) g) bh) I37 rfl (fun b4 w4 z4 z4' g4 s4 => ?_)
    have S4 := Sh.trans0 s4
    have hbl4 := s4.same0 hblh
    have gg4 := s4.same0 ggh
    have gh4 := s4.same0 gh
    clear hblh ggh gh
    refine Rg.storec (M := ins (ins (ins (ins M bl) g) bh) b4) (u := .pointer none) I37 rfl rfl g4 rfl rfl (.inl rfl) (fun w5 g5 s5 => ?_)
    have hb4 : w5.heap[b4]? = some (.cells #[.pointer (some ⟨bh, 0, none⟩)] 37 (0, 0)) := g5
    have hz := Sc.size
    have z2 := sg.size
    have z3 := sh.size
    have hz5 := lt_of_get hbl4
    have hbl := s5.keep hbl4 (fun e => by have e : bl = b4 := e; have := lt_of_get hbl4; have := Sh.size; rw [e] at hbl4; rw [g4] at hbl4; simp at hbl4)
    have gg5 := s5.keep gg4 (fun e => by have e : g = b4 := e; omega)
    have gh5 := s5.keep gh4 (fun e => by have e : bh = b4 := e; omega)
    have S5 := S4.transNew s5 (fun b hb => by have hb : b = b4 := hb; omega)
    have hM5 := S5.lt hM
    have hp5 : HpS 39 42 (ins (ins (ins (ins M bl) g) bh) b4) w5 bh w0.heap.size (.slice (some ⟨g, 0, none⟩) 0 0) [] := ⟨gh5, .inr (.inl rfl), Own.empty gg5 (by omega) (.inr (.inr (.inl rfl))), by simp, by decide⟩
    refine Rg.nil ?_
    refine T.seq ?_
    refine T.region ?_ -- region 4
    refine Rg.makeFunc (xs := []) (ys := [.tmp 1, .tmp 4]) rfl rfl rfl ?_
    refine Rg.assign rfl rfl ?_
    refine Rg.nil ?_
    refine T.seq ?_
    refine T.seq ?_
    refine T.region ?_ -- region 5
    refine Rg.loadc Try.underlying22 rfl rfl rfl hbl rfl ?_
    refine Rg.lensl Try.underlying22 rfl (hv.le S5.le) rfl ?_
    refine Rg.move rfl rfl ?_
    refine Rg.nil ?_
    refine T.block ?_
    refine T.loop (σ := Nat × List Hd) (fun s => [(1, .pointer (some ⟨bl, 0, none⟩)), (2, .slice none 0 0), (3, .int .i64 0), (4, .pointer (some ⟨b4, 0, none⟩)), (5, .func (.func 13) #[] #[.pointer (some ⟨bl, 0, none⟩), .pointer (some ⟨b4, 0, none⟩)]), (16, .int .i64 ls.length), (17, .int .i64 s.1)]) (fun s w => s.1 ≤ ls.length ∧ HpOf ls (fun _ => 0) s.1 s.2 ∧ IsHp s.2 ∧ (∃ M1 v1, Lt M1 w ∧ HpS 39 42 M1 w bh w0.heap.size v1 s.2 ∧ Step M w0 M1 w none' ∧ w.heap[bl]? = some (.cells #[v] 22 (0, 0)) ∧ w.heap[b4]? = some (.cells #[.pointer (some ⟨bh, 0, none⟩)] 37 (0, 0)))) (fun s => ls.length - s.1) (0, []) (.cons rfl (.cons rfl (.cons rfl (.cons rfl (.cons rfl (.cons rfl (.cons rfl .nil))))))) ?_ ?_ -- loop 0
    · exact ⟨Nat.zero_le _, HpOf.zero ls, fun k h0 hk => by simp at hk, _, _, hM5, hp5, S5, hbl, hb4⟩
    · rintro ⟨i, hs⟩ w1 ⟨hi, hof, hh, M1, v1, hM1, h, S, hbl, hb4⟩
      dsimp only at hi hof hh h ⊢
      clear hp5
      refine T.seq ?_
      refine T.region ?_ -- region 6
      refine Rg.ilt rfl rfl rfl ?_
      refine Rg.nil ?_
      refine T.seq ?_
      refine T.ifp rfl (fun c6 => ?_) (fun c6 => ?_)
      · -- c6 True
        refine T.skip ?_
        refine T.seq ?_
        refine T.block ?_
        refine T.seq ?_
        refine T.region ?_ -- region 7
        refine Rg.move rfl rfl ?_
        refine Rg.assign rfl rfl ?_
        refine Rg.nil ?_
        refine T.region ?_ -- region 8
        refine Rg.move rfl rfl ?_
        refine Rg.move rfl rfl ?_
        refine Rg.callv (first := []) (captured := [.pointer (some ⟨bl, 0, none⟩), .pointer (some ⟨b4, 0, none⟩)]) rfl rfl rfl E13 (put_spec (i := i) (k := 0) hM1 hbl hb4 (hv.le S.le) h hh (by omega) (by omega) (by have := hof.len; omega)) (fun rp w2 hq => ?_)
        obtain ⟨M2, v2, hs2, h2, hh2, hp2, hM2, s2⟩ := hq
        have hbl := s2.keep hbl (NB.not ⟨_, _, hbl⟩ (by decide) (fun e => by subst e; have := hbl.symm.trans h.h; simp at this))
        have hb4 := s2.keep hb4 (NB.not ⟨_, _, hb4⟩ (by decide) (fun e => by subst e; have := hb4.symm.trans h.h; simp at this))
        refine Rg.nil ?_
        refine T.region ?_ -- region 9
        refine Rg.iadd rfl rfl rfl (by omega) ?_
        refine Rg.move rfl rfl ?_
        refine Rg.nil ?_
        refine ⟨rfl, (i + 1, hs2), (.cons rfl (.cons rfl (.cons rfl (.cons rfl (.cons rfl (.cons rfl (.cons rfl .nil))))))), ?_, ?_⟩
        · exact ⟨by simp only; omega, hof.fill (by omega) hp2, hh2, M2, v2, hM2, h2, S.transNew s2 (fun b hb => hb.2.elim (fun e => by have e : b = bh := e; omega) (fun h => h.1)), hbl, hb4⟩
        · show ls.length - (i + 1) < ls.length - i; omega
      · -- c6 False
        refine T.exit ?_
        refine T.seq ?_
        refine T.region ?_ -- region 10
        refine Rg.assign rfl rfl ?_
        refine Rg.nil ?_
        refine T.seq ?_
        refine T.seq ?_
        refine T.region ?_ -- region 11
        refine Rg.assign rfl rfl ?_
        refine Rg.nil ?_
        refine T.block ?_
        obtain rfl : i = ls.length := by omega
        refine T.loop (σ := (Nat → Nat) × List Hd × Int × Value × List Hd) (fun s => [(1, .pointer (some ⟨bl, 0, none⟩)), (4, .pointer (some ⟨b4, 0, none⟩)), (5, .func (.func 13) #[] #[.pointer (some ⟨bl, 0, none⟩), .pointer (some ⟨b4, 0, none⟩)]), (7, s.2.2.2.1), (8, .int .i64 s.2.2.1)]) (fun s w => AInv ls s.1 s.2.1 s.2.2.1 ∧ HpOf ls s.1 ls.length s.2.2.2.2 ∧ IsHp s.2.2.2.2 ∧ i64r s.2.2.1 ∧ (∃ M1 v1, Lt M1 w ∧ HpS 39 42 M1 w bh w0.heap.size v1 s.2.2.2.2 ∧ Step M w0 M1 w none' ∧ w.heap[bl]? = some (.cells #[v] 22 (0, 0)) ∧ w.heap[b4]? = some (.cells #[.pointer (some ⟨bh, 0, none⟩)] 37 (0, 0)) ∧ Own RT.fo 30 M1 w w0.heap.size s.2.2.2.1 (outO s.2.1))) (fun s => rem ls s.1) (fun _ => 0, [], -1, _, hs) (.cons rfl (.cons rfl (.cons rfl (.cons rfl (.cons rfl .nil))))) ?_ ?_ -- loop 1
        · exact ⟨AInv.zero ls hup, hof, hh, ⟨by simp only; decide, by simp only; decide⟩, M1, v1, hM1, h, S, hbl, hb4, Own.nil _ _ _ _ _⟩
        · clear h hbl hb4 S hM1
          rintro ⟨at_, out, last, vo, hs⟩ w1 ⟨hai, hof, hh, hlr, M1, v1, hM1, h, S, hbl, hb4, ho⟩
          dsimp only at hai hof hh hlr h ho ⊢
          refine T.seq ?_
          refine T.seq ?_
          refine T.region ?_ -- region 12
          refine Rg.loadc Try.underlying37 rfl rfl rfl hb4 rfl ?_
          refine Rg.nilCheck rfl ⟨_, rfl⟩ rfl ?_
          refine Rg.loadc Try.underlying39 rfl rfl rfl h.h rfl ?_
          refine Rg.call rfl rfl E15 (Len_spec h.o) (fun rl wl h => ?_)
          obtain ⟨rfl, rfl⟩ := h
          refine Rg.igt rfl rfl rfl ?_
          refine Rg.nil ?_
          refine T.ifp rfl (fun c12 => ?_) (fun c12 => ?_)
          · -- c12 True
            refine T.skip ?_
            refine T.block ?_
            refine T.seq ?_
            refine T.region ?_ -- region 13
            refine Rg.loadc Try.underlying37 rfl rfl rfl hb4 rfl ?_
            refine Rg.mkIface Try.underlying37 rfl rfl rfl ?_
            refine Rg.call rfl rfl E16 (Pop_spec hM1 h hh (by omega) (by have := hof.len; omega)) (fun rp w2 h => ?_)
            obtain ⟨a, b, c, M2, v2, hs2, rfl, ⟨ra, rb, rc⟩, h2, hh2, hp2, hmin, hM2, s2⟩ := h
            have hbl := s2.keep hbl (NB.not ⟨_, _, hbl⟩ (by decide) (fun e => by subst e; have := hbl.symm.trans h.h; simp at this))
            have hb4 := s2.keep hb4 (NB.not ⟨_, _, hb4⟩ (by decide) (fun e => by subst e; have := hb4.symm.trans h.h; simp at this))
            have S2 := S.transNew s2 (fun b hb => hb.2.elim (fun e => by have e : b = bh := e; omega) (fun h => h.1))
            have ho2 := ho.step s2 (fun k hk => NB.not (ho.bt k hk) (by decide) (ho.apart h.h (by decide) k hk))
            obtain ⟨i, n, hi, hin, htr⟩ := (hof.2 _).1 (hp2.mem_iff.1 (List.mem_cons_self ..))
            simp only [Prod.mk.injEq] at hin
            obtain ⟨rfl, rfl, rfl⟩ := hin
            have hat := htr.lt.2
            have hlt : lenAt ls i ≤ 1099511627776 := by
              obtain ⟨l, hl1, _⟩ := htr
              unfold lenAt; rw [List.getD_eq_getElem?_getD, hl1]; exact hl _ (List.mem_of_getElem? hl1)
            have hmin2 : ∀ j m, Tr ls j (at_ j) m → a ≤ m := fun j m hj => hmin _ ((hof.2 (m, (j : Int), ((at_ j : Nat) : Int))).2 ⟨j, m, hj.lt.1, rfl, hj⟩)
            have hx3 : RT.hd.V M2 w2 (a, (i : Int), ((at_ i : Nat) : Int)) _ := V_hd ra rb rc
            clear h s2
            refine Rg.assertT Try.underlying42 rfl rfl rfl ?_
            refine Rg.newagg (A := RT.hd) (M := M2) I42 rfl rfl rfl rfl rfl hx3 (Le.refl _ _) hM2 (fun u3 w3 hu3 s3 z3 => ?_)
            have hbl := s3.same0 hbl
            have hb4 := s3.same0 hb4
            have h3 := h2.step0 s3
            have ho3 := ho2.step0 s3
            have S3 := S2.trans0 s3
            have hM3 := s3.lt hM2
            have hz3 := S3.size
            --@M M2
            --@ptr RT.hd ;; (a, (i : Int), ((at_ i : Nat) : Int))

            refine Rg.nil ?_
            refine T.seq ?_
            refine T.seq ?_
            refine T.region ?_ -- region 14
            refine Rg.fieldAddr (M := M2) (A := RT.hd) (B := RT.int .i64) Try.underlying42 rfl rfl I3 (by decide) (hd0) rfl rfl (by decide) (by assumption) (by repeat (first | exact Le.refl _ _ | refine Le.trans (Step.le (by assumption)) ?_)) (fun u14_0 hu14_0 => ?_)
            refine Rg.loadi64 (M := M2) Try.underlying3 rfl rfl (by assumption) (by repeat (first | exact Le.refl _ _ | refine Le.trans (Step.le (by assumption)) ?_)) (fun in14_1 => ?_)
            refine Rg.eqv (v' := .int .i64 (a)) rfl ?_
            replace in14_1 : -9223372036854775808 ≤ (a : Int) ∧ a ≤ 9223372036854775807 := in14_1
            refine Rg.move rfl rfl ?_
            refine Rg.ieq rfl rfl rfl ?_
            refine Rg.nil ?_
            refine T.ifp rfl (fun c14 => ?_) (fun c14 => ?_)
            · -- c14 True
              refine T.seq ?_
              refine T.region ?_ -- region 15
              refine Rg.assign rfl rfl ?_
              refine Rg.assign rfl rfl ?_
              refine Rg.nil ?_
              refine T.ret ?_
              exact Kret2 rfl rfl rfl ⟨⟨_, 5, rfl, .inr ⟨hup, none, hai.twice hup htr c14, .inl ⟨rfl, rfl, rfl⟩⟩⟩, S3.back⟩
            · -- c14 False
              refine T.skip ?_
              refine T.seq ?_
              refine T.region ?_ -- region 16
              refine Rg.move rfl rfl ?_
              refine Rg.fieldAddr (M := M2) (A := RT.hd) (B := RT.int .i64) Try.underlying42 rfl rfl I3 (by decide) (hd1) rfl rfl (by decide) (by assumption) (by repeat (first | exact Le.refl _ _ | refine Le.trans (Step.le (by assumption)) ?_)) (fun u16_1 hu16_1 => ?_)
              refine Rg.loadi64 (M := M2) Try.underlying3 rfl rfl (by assumption) (by repeat (first | exact Le.refl _ _ | refine Le.trans (Step.le (by assumption)) ?_)) (fun in16_2 => ?_)
              refine Rg.eqv (v' := .int .i64 ((i : Int))) rfl ?_
              replace in16_2 : -9223372036854775808 ≤ ((i : Int) : Int) ∧ (i : Int) ≤ 9223372036854775807 := in16_2
              refine Rg.fieldAddr (M := M2) (A := RT.hd) (B := RT.int .i64) Try.underlying42 rfl rfl I3 (by decide) (hd2) rfl rfl (by decide) (by assumption) (by repeat (first | exact Le.refl _ _ | refine Le.trans (Step.le (by assumption)) ?_)) (fun u16_3 hu16_3 => ?_)
              refine Rg.loadi64 (M := M2) Try.underlying3 rfl rfl (by assumption) (by repeat (first | exact Le.refl _ _ | refine Le.trans (Step.le (by assumption)) ?_)) (fun in16_4 => ?_)
              refine Rg.eqv (v' := .int .i64 (((at_ i : Nat) : Int))) rfl ?_
              replace in16_4 : -9223372036854775808 ≤ (((at_ i : Nat) : Int) : Int) ∧ ((at_ i : Nat) : Int) ≤ 9223372036854775807 := in16_4
              refine Rg.arr2 Try.underlying30 I30 I3 rfl rfl rfl ?_
              refine Rg.sl1 (A := RT.fo) (hn := by decide) (M := M2) Try.underlying26 I30 (by decide) rfl rfl hM3 (V_fo rb rc) (.inl rfl) (fun u6 w6 hu6 s6 => ?_)
              have hbl := s6.same0 hbl
              have hb4 := s6.same0 hb4
              have h6 := h3.step0 s6
              have S6 := S3.trans0 s6
              have hM6 := s6.lt hM3
              have hz6 := S6.size
              have hal := hai.f
              have hlo : (outO out).length = out.length := by unfold outO; simp
              refine Rg.append (M := M2) (base := w0.heap.size) Try.underlying26 I30 rfl rfl rfl rfl (ho3.step0 s6) hu6 (Le.refl _ _) (by rw [hlo]; simp; omega) (by rw [hlo]; simp; omega) (by omega) (fun vo7 M7 w7 ho7 s7 => ?_)
              have hap : ∀ k, vo.ownBlock = some k → k ≠ bl ∧ k ≠ b4 ∧ k ≠ bh := fun k hk => ⟨fun e => (ho3.step0 s6).apart hbl (by decide) k hk e, fun e => (ho3.step0 s6).apart hb4 (by decide) k hk e, fun e => (ho3.step0 s6).apart h6.h (by decide) k hk e⟩
              have hbl := s7.keep hbl (fun hk => (hap _ hk).1 rfl)
              have hb4 := s7.keep hb4 (fun hk => (hap _ hk).2.1 rfl)
              have h7 := h6.keep s7 (fun hk => (hap _ hk).2.2 rfl) (fun k hk hk2 => (BT.ne ((ho3.step0 s6).bt k hk2) (h6.o.bt k hk) (by decide)) rfl)
              have S7 := S6.transNew s7 (fun b hb => (ho3.base b hb).1)
              have hM7 := s7.lt hM6
              --@M M7
              have hu7 := hu3.le (by decide) (s6.le.trans s7.le)
              clear h2 h3 h6 ho2 ho3
              refine Rg.assign rfl rfl ?_
              refine Rg.nil ?_
              refine T.seq ?_
              refine T.region ?_ -- region 17
              refine Rg.fieldAddr (M := M7) (A := RT.hd) (B := RT.int .i64) Try.underlying42 rfl rfl I3 (by decide) (hd0) rfl rfl (by decide) (by assumption) (by repeat (first | exact Le.refl _ _ | refine Le.trans (Step.le (by assumption)) ?_)) (fun u17_0 hu17_0 => ?_)
              refine Rg.loadi64 (M := M7) Try.underlying3 rfl rfl (by assumption) (by repeat (first | exact Le.refl _ _ | refine Le.trans (Step.le (by assumption)) ?_)) (fun in17_1 => ?_)
              refine Rg.eqv (v' := .int .i64 (a)) rfl ?_
              replace in17_1 : -9223372036854775808 ≤ (a : Int) ∧ a ≤ 9223372036854775807 := in17_1
              refine Rg.assign rfl rfl ?_
              refine Rg.nil ?_
              refine T.region ?_ -- region 18
              refine Rg.move rfl rfl ?_
              refine Rg.fieldAddr (M := M7) (A := RT.hd) (B := RT.int .i64) Try.underlying42 rfl rfl I3 (by decide) (hd1) rfl rfl (by decide) (by assumption) (by repeat (first | exact Le.refl _ _ | refine Le.trans (Step.le (by assumption)) ?_)) (fun u18_1 hu18_1 => ?_)
              refine Rg.loadi64 (M := M7) Try.underlying3 rfl rfl (by assumption) (by repeat (first | exact Le.refl _ _ | refine Le.trans (Step.le (by assumption)) ?_)) (fun in18_2 => ?_)
              refine Rg.eqv (v' := .int .i64 ((i : Int))) rfl ?_
              replace in18_2 : -9223372036854775808 ≤ ((i : Int) : Int) ∧ (i : Int) ≤ 9223372036854775807 := in18_2
              refine Rg.fieldAddr (M := M7) (A := RT.hd) (B := RT.int .i64) Try.underlying42 rfl rfl I3 (by decide) (hd2) rfl rfl (by decide) (by assumption) (by repeat (first | exact Le.refl _ _ | refine Le.trans (Step.le (by assumption)) ?_)) (fun u18_3 hu18_3 => ?_)
              refine Rg.loadi64 (M := M7) Try.underlying3 rfl rfl (by assumption) (by repeat (first | exact Le.refl _ _ | refine Le.trans (Step.le (by assumption)) ?_)) (fun in18_4 => ?_)
              refine Rg.eqv (v' := .int .i64 (((at_ i : Nat) : Int))) rfl ?_
              replace in18_4 : -9223372036854775808 ≤ (((at_ i : Nat) : Int) : Int) ∧ ((at_ i : Nat) : Int) ≤ 9223372036854775807 := in18_4
              refine Rg.iadd rfl rfl rfl (by omega) ?_
              refine Rg.eqv (v' := .int .i64 ((at_ i + 1 : Nat) : Int)) (congrArg _ (by omega)) ?_
              refine Rg.callv (first := []) (captured := [.pointer (some ⟨bl, 0, none⟩), .pointer (some ⟨b4, 0, none⟩)]) rfl rfl rfl E13 (put_spec (i := i) (k := at_ i + 1) hM7 hbl hb4 (hv.le S7.le) h7 hh2 hi (by omega) (by have h1 := hp2.length_eq; have h2 := hof.len; rw [List.length_cons] at h1; omega)) (fun rp w8 hq => ?_)
              obtain ⟨M8, v8, hs8, h8, hh8, hp8, hM8, s8⟩ := hq
              have hbl8 := hbl
              have hbl := s8.keep hbl (NB.not ⟨_, _, hbl⟩ (by decide) (fun e => by subst e; have := hbl.symm.trans h7.h; simp at this))
              have hb4 := s8.keep hb4 (NB.not ⟨_, _, hb4⟩ (by decide) (fun e => by subst e; have := hb4.symm.trans h7.h; simp at this))
              have ho8 := ho7.step s8 (fun k hk => NB.not (ho7.bt k hk) (by decide) (ho7.apart h7.h (by decide) k hk))
              have S8 := S7.transNew s8 (fun b hb => hb.2.elim (fun e => by have e : b = bh := e; omega) (fun h => h.1))
              refine Rg.nil ?_
              refine ⟨rfl, (up1 at_ i, out ++ [(a, (i : Int), ((at_ i : Nat) : Int))], a, vo7, hs8), (.cons rfl (.cons rfl (.cons rfl (.cons rfl (.cons rfl .nil))))), ?_, ?_⟩
              · refine ⟨hai.step hup htr hmin2 c14, hof.next hp2 hi hp8, hh8, ra, M8, v8, hM8, h8, S8, hbl, hb4, ?_⟩
                unfold outO at ho8 ⊢
                rw [List.map_append]; exact ho8
              · show rem ls (up1 at_ i) < rem ls at_
                have h1 := (hai.step hup htr hmin2 c14).f
                have h2 := hai.f
                rw [List.length_append, List.length_singleton] at h1
                omega
          · -- c12 False
            refine T.exit ?_
            refine T.seq ?_
            refine T.region ?_ -- region 19
            refine Rg.move rfl rfl ?_
            refine Rg.assign rfl rfl ?_
            refine Rg.assign rfl rfl ?_
            refine Rg.nil ?_
            refine T.ret ?_
            have hnil : hs = [] := List.length_eq_zero_iff.1 (by omega)
            subst hnil
            exact Kret2 rfl rfl rfl ⟨⟨_, 0, rfl, .inr ⟨hup, some out, hai.fin (hof.noTr), .inr ⟨out, rfl, rfl, Own.close hM S ho (by have := hai.f; unfold outO; rw [List.length_map]; omega)⟩⟩⟩, S.back⟩

end Go.K

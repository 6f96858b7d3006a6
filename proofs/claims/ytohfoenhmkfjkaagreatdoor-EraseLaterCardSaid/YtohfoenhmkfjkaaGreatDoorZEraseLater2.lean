/- What the law 'EraseLater' needs of walks and plain Lean, part 2: nothing is assumed beyond the texts that it imports. -/
import Derived.ChangeKeysEq
import Derived.Deep.MidRow
import Derived.Ground.Names2Prog
import Derived.KernelRfl
import Derived.Laws.Cover3
import Derived.Laws.IdiomCopy
import Derived.Laws.MakeOwn
import Derived.Laws.Pointers
import Derived.Laws.StructEq
import Derived.Lib.RuneBytes
import Derived.Lib.SliceRun
import Derived.Maps.OwnSet
import Derived.RangeFuncLeaves
import Derived.Shelf.Slices.SearchI
import Derived.Shelf.Small.Strs
import Derived.Shelf.Small.Utf8
import Derived.Shelf.Strings.Builder1
import Derived.Shelf.Strings.BuilderRune
import Derived.Test.YtohfoenhmkfjkaaGreatDoorProg
import Derived.Test.YtohfoenhmkfjkaaGreatDoorZEraseLater1
namespace Go.K
set_option linter.unusedVariables false
set_option linter.unusedSimpArgs false
def Yield (P : Program) (l : Nat) (args : Array Value) (w : World) (Q : Value → World → Prop) : Prop := YieldAt (FW none) 0 P l args w (fun e w' => ∃ v, e = .returned v ∧ Q v w')
section
variable {P : Program} {r : Option Nat} {n : Nat} {L : Sl} {ds : List Deferred} {w : World} {K : Kt} {ops : Array Oper} {rest : List Oper} {d : Nat} {ty : TypeId} {pos : String} {af : Array Edge}
theorem Rg.yield {x : Operand} {l : Nat} {xs : List Operand} {vs : List Value} {ats : Array TypeId} {Q : Value → World → Prop} (hx : ev L x = some (.func (.yield l) #[] #[]))
  (hvs : evs L xs = some vs) (hd : Nat.blt d n = true) (hs : Yield P l vs.toArray w Q) (k : ∀ v w', Q v w' → Rg P r n ops rest ((d, v) :: L) ds w' K) :
  Rg P r n ops ({ dst := some d, op := .call { callee := .value x, args := xs.toArray, argTypes := ats }, type := ty, pos, after := af, guard := none } :: rest) L ds w K := by
 refine ⟨fun a ha => wpListIn_plain rfl fun K' hK' => op_wp (fun _ h => by cases h) ?_⟩
 obtain ⟨fn, tmps, asn, body, hy, hr⟩ := hs
 have hrun : (execOp a.eval { dst := some d, op := .call { callee := .value x, args := xs.toArray, argTypes := ats }, type := ty, pos, after := af, guard := none }).run P w = .ok (.round l fn tmps asn body) w := by
  have h1 := evs_map (ρ := a.eval) (fun x u hx => ha.eval hx) hvs
  simp only [execOp, resolve, List.map_toArray, h1, ha.eval hx]
  simpa [Deferred.ofValue, invoke] using hy
 rw [hrun, Oper.uponIn_round]
 refine ⟨fun h => by simp [FW, Fence.wide] at h, ?_⟩
 have hr' : RoundIn (FW r) (0 - 1) P l fn tmps asn body w (fun e w' => ∃ v, e = .returned v ∧ Q v w') := hr
 refine hr'.mono ?_
 rintro e w' ⟨v, rfl, hv⟩
 exact hK' _ _ ((k v w' hv).run _ (ha.put (by simpa [Nat.blt_eq] using hd) v))
end
def lrec (fn : FuncId) (tm : Array Value) (ps : Array Tmp) (asn body : Code) (D : Nat) (st : LoopState) (pe : Option Code) : Loop := { state := st, pending := pe, fn := fn, tmps := tm, params := ps, assign := asn, body := body, defers := D }
structure Tm (n : Nat) (tm : Array Value) (L : Sl) : Prop where
 size : n ≤ tm.size
 at_ : ∀ t v, lk L t = some v → tm[t]? = some v
def setL : List Tmp → List Value → Sl → Sl
 |p :: ps, v :: vs, L => setL ps vs ((p, v) :: L)
 |_, _, L => L
theorem agree_set {n : Nat} : ∀ (ps : List Tmp) (vs : List Value) (tm : Array Value) (L : Sl), Tm n tm L → (∀ p ∈ ps, p < n) → Agree n { tmps := (ps.zip vs).foldl (fun tmps (t, a) => tmps.setIfInBounds t a) tm, defers := [] } (setL ps vs L) []
 |[], vs, tm, L, h, _ => ⟨by simpa using h.size, rfl, by simpa [setL] using h.at_⟩
 |p :: ps, [], tm, L, h, _ => ⟨by simpa using h.size, rfl, by simpa [setL] using h.at_⟩
 |p :: ps, v :: vs, tm, L, h, hp => by
  have h0 : Agree n { tmps := tm, defers := [] } L [] := ⟨h.size, rfl, h.at_⟩
  have h1 := h0.put (hp p (List.mem_cons_self ..)) v
  exact agree_set ps vs (tm.setIfInBounds p v) ((p, v) :: L) ⟨by simpa using h.size, h1.at_⟩ (fun q hq => hp q (List.mem_cons_of_mem _ hq))
def Kround (l : Nat) (rec : LoopState → Option Code → Loop) (Q : Value → World → Prop) : Kt
 |.normal, _, _, w => w.heap[l]? = some (.loop (rec .busy none)) ∧ Q (.bool true) (w.putObj l (.loop (rec .ready none)))
 |.ret, _, _, w => w.heap[l]? = some (.loop (rec .busy none)) ∧ Q (.bool false) (w.putObj l (.loop (rec .done (some .ret))))
 |.exit id, _, _, w => w.heap[l]? = some (.loop (rec .busy none)) ∧ Q (.bool false) (w.putObj l (.loop (rec .done (some (.exit id)))))
 |.goto id, _, _, w => w.heap[l]? = some (.loop (rec .busy none)) ∧ Q (.bool false) (w.putObj l (.loop (rec .done (some (.goto id)))))
 |_, _, _, _ => False
@[reducible] def Kasn (P : Program) (l n : Nat) (rec : LoopState → Option Code → Loop) (body : Code) (Q : Value → World → Prop) : Kt := fun e L ds w =>
 e = .normal ∧ w.heap[l]? = some (.loop (rec .ready none)) ∧ T P (some l) n body L ds (w.putObj l (.loop (rec .busy none))) (Kround l rec Q)
theorem yield_of {P : Program} {n l D : Nat} {fn : FuncId} {tm : Array Value} {ps : List Tmp} {asn body : Code} {vs : List Value} {L : Sl} {w : World} {Q : Value → World → Prop}
  (hl : w.heap[l]? = some (.loop (lrec fn tm ps.toArray asn body D .ready none))) (htm : Tm n tm L) (hlen : vs.length = ps.length) (hps : ∀ p ∈ ps, p < n)
  (h : T P (some l) n asn (setL ps vs L) [] w (Kasn P l n (lrec fn tm ps.toArray asn body D) body Q)) : Yield P l vs.toArray w Q := by
 have hy := run_yield (P := P) (args := vs.toArray) hl (by simp [lrec, hlen])
 refine ⟨_, _, _, _, hy, roundIn_of_wpIn trivial ?_⟩
 have hz : ((lrec fn tm ps.toArray asn body D .ready none).params.zip vs.toArray).foldl (fun tmps (t, a) => tmps.setIfInBounds t a) (lrec fn tm ps.toArray asn body D .ready none).tmps = (ps.zip vs).foldl (fun tmps (t, a) => tmps.setIfInBounds t a) tm := by
  simp [lrec, ← Array.foldl_toList]
 rw [hz]
 refine wpIn_mono (h.run _ (agree_set ps vs tm L htm hps)) ?_
 rintro e a w1 ⟨L1, ds1, ha1, rfl, hl1, hb⟩
 refine ⟨_, run_beginRound hl1 rfl, wpIn_mono (hb.run a ha1) ?_⟩
 rintro e a2 w2 ⟨L2, ds2, ha2, hK⟩
 cases e with
 |normal => exact ⟨_, _, run_endRound none hK.1, _, rfl, hK.2⟩
 |ret => exact ⟨_, _, run_endRound (some .ret) hK.1, _, rfl, hK.2⟩
 |exit id => exact ⟨_, _, run_endRound (some (.exit id)) hK.1, _, rfl, hK.2⟩
 |goto id => exact ⟨_, _, run_endRound (some (.goto id)) hK.1, _, rfl, hK.2⟩
 |panic c => exact hK.elim
 |outgrown => exact hK.elim
def IsRec (n D : Nat) (ps : Array Tmp) (asn body : Code) (L : Sl) (rec : LoopState → Option Code → Loop) : Prop := ∃ fn tm, Tm n tm L ∧ rec = lrec fn tm ps asn body D
theorem yield_rec {P : Program} {n l D : Nat} {ps : List Tmp} {asn body : Code} {vs : List Value} {L : Sl} {w : World} {Q : Value → World → Prop} {rec : LoopState → Option Code → Loop} (hrec : IsRec n D ps.toArray asn body L rec)
  (hl : w.heap[l]? = some (.loop (rec .ready none))) (hlen : vs.length = ps.length) (hps : ∀ p ∈ ps, p < n)
  (h : T P (some l) n asn (setL ps vs L) [] w (Kasn P l n rec body Q)) : Yield P l vs.toArray w Q := by
 obtain ⟨fn, tm, htm, rfl⟩ := hrec
 exact yield_of hl htm hlen hps h
def mark (D : Nat) : Deferred := { target := .collected D, args := #[] }
theorem T.range0 {P : Program} {n : Nat} {L : Sl} {ds : List Deferred} {w : World} {K : Kt} {g : Operand} {ps : Array Tmp} {asn body : Code} {gf : FuncId} {lb : Array Value} (hg : ev L g = some (.func (.func gf) #[] lb)) (he : Enters P gf)
  (h : ∀ fn tm, Tm n tm L → Spec P gf (#[.func (.yield (w.heap.size + 1)) #[] #[]] ++ lb)
   ((w.alloc (.deferred (some []))).alloc (.loop (lrec fn tm ps asn body w.heap.size .ready none))) (fun _ w3 =>
    (w3.heap[w.heap.size + 1]? = some (.loop (lrec fn tm ps asn body w.heap.size .ready none)) ∧ K .normal L (mark w.heap.size :: ds) (w3.putObj (w.heap.size + 1) (.loop (lrec fn tm ps asn body w.heap.size .exhausted none)))) ∨
    ∃ c, w3.heap[w.heap.size + 1]? = some (.loop (lrec fn tm ps asn body w.heap.size .done (some c))) ∧ T P none n c L (mark w.heap.size :: ds) (w3.putObj (w.heap.size + 1) (.loop (lrec fn tm ps asn body w.heap.size .exhausted (some c)))) K)) :
  T P none n (.rangeFunc g ps asn body) L ds w K := by
 refine ⟨fun a ha => wpIn_rangeFunc fun fn hfn => ?_⟩
 have hs := h fn a.tmps ⟨ha.size, ha.at_⟩
 have ha' : Agree n { a with defers := [mark w.heap.size] ++ a.defers } L (mark w.heap.size :: ds) := ⟨ha.size, by simp [ha.defers], ha.at_⟩
 let W1 : World := (w.alloc (.deferred (some []))).alloc (.loop (lrec fn a.tmps ps asn body w.heap.size .ready none))
 refine ⟨w.heap.size + 1, [mark w.heap.size], W1, { target := .fn (.func gf) lb, args := #[.func (.yield (w.heap.size + 1)) #[] #[]] }, W1, gf, #[.func (.yield (w.heap.size + 1)) #[] #[]] ++ lb, W1, run_enterLoop_outer _ _ _ _ _, ?_, ?_, ?_, ?_, ?_⟩
 ·simp only [resolve, ha.eval hg]
  simp [go_sem]
 ·exact fun _ _ => trivial
 ·simpa [invoke, go_sem] using he (#[.func (.yield (w.heap.size + 1)) #[] #[]] ++ lb) _
 ·exact fun h => by simp [FW, Fence.wide] at h
 ·refine (callsIn_wide.2 hs).mono ?_
  rintro e w3 ⟨v, rfl, ⟨hl, hk⟩ | ⟨c, hl, hk⟩⟩
  ·exact ⟨none, _, run_endLoop hl (by simp [lrec]), _, _, ha', hk⟩
  ·exact ⟨some c, _, run_endLoop hl (by simp [lrec]), hk.run _ ha'⟩
theorem T.range {P : Program} {n : Nat} {L : Sl} {ds : List Deferred} {w : World} {K : Kt} {g : Operand} {ps : Array Tmp} {asn body : Code} {gf : FuncId} {lb : Array Value} (hg : ev L g = some (.func (.func gf) #[] lb)) (he : Enters P gf)
  (h : ∀ rec, IsRec n w.heap.size ps asn body L rec → Spec P gf (#[.func (.yield (w.heap.size + 1)) #[] #[]] ++ lb)
   ((w.alloc (.deferred (some []))).alloc (.loop (rec .ready none))) (fun _ w3 =>
    (w3.heap[w.heap.size + 1]? = some (.loop (rec .ready none)) ∧ K .normal L (mark w.heap.size :: ds) (w3.putObj (w.heap.size + 1) (.loop (rec .exhausted none)))) ∨
    ∃ c, w3.heap[w.heap.size + 1]? = some (.loop (rec .done (some c))) ∧ T P none n c L (mark w.heap.size :: ds) (w3.putObj (w.heap.size + 1) (.loop (rec .exhausted (some c)))) K)) :
  T P none n (.rangeFunc g ps asn body) L ds w K := .range0 hg he fun fn tm htm => h _ ⟨fn, tm, htm, rfl⟩
def Marks (P : Program) : List Deferred → World → World → Prop
 |[], w, w' => w' = w
 |d :: ds, w, w' => ∃ r w1, d.target = .collected r ∧ (Instr.takeDeferred r).run P w = .ok [] w1 ∧ Marks P ds w1 w'
def KretM (P : Program) (fn : Func) (Q : Value → World → Prop) : Kt
 |.normal, L, ds, w | .ret, L, ds, w => ∃ w', Marks P ds w w' ∧ ∀ a : Act, (∀ t v, lk L t = some v → a.tmps[t]? = some v) → ∃ v, (results fn a.tmps).run P w' = .ok v w' ∧ Q v w'
 |_, _, _, _ => False
theorem leaves_marks {P : Program} {fn : Func} {tmps : Array Value} {R : Ending → World → Prop} {w' : World} : ∀ (ds : List Deferred) (w : World), Marks P ds w w' → (∃ v, (results fn tmps).run P w' = .ok v w' ∧ R (.returned v) w') → LeavesInM (FW none) 0 P fn tmps R ds .returning w
 |[], w, h, hr => by cases h; exact hr
 |d :: ds, w, ⟨r, w1, h1, h2, h3⟩, hr => ⟨by simp, .inl ⟨r, w1, h1, h2, leaves_marks ds w1 h3 hr⟩⟩
theorem spec_ofM {P : Program} {f : FuncId} {fn : Func} {c : Code} {args : List Value} {w : World} {Q : Value → World → Prop} (hf : P.funcs[f]? = some fn) (hb : fn.body = some c) {n : Nat} (hn : fn.ntmps = n)
  (h : T P none n c (enterL 0 args) [] w (KretM P fn Q)) : Spec P f args.toArray w Q := by
 refine (callsIn_wide (n := 0)).1 (callsIn_of_wp_marks (F := FW none) hf hb trivial ?_)
 refine wpIn_mono (h.run _ ⟨?_, rfl, ?_⟩) ?_
 ·simp [hn]; omega
 ·intro t v ht
  obtain ⟨_, h2⟩ := lk_enterL args 0 t v ht
  simp only [Nat.sub_zero] at h2
  have hlt : t < args.length := (List.getElem?_eq_some_iff.1 h2).1
  simp only
  rw [Array.getElem?_append_left (by simpa using hlt)]
  simpa using h2
 ·rintro e a w' ⟨L, ds, ha, hK⟩
  have go : (∃ w'', Marks P ds w' w'' ∧ ∀ a : Act, (∀ t v, lk L t = some v → a.tmps[t]? = some v) → ∃ v, (results fn a.tmps).run P w'' = .ok v w'' ∧ Q v w'') → LeavesInM (FW none) 0 P fn a.tmps (fun e w' => ∃ v, e = .returned v ∧ Q v w') a.defers .returning w' := by
   rintro ⟨w'', h1, h2⟩
   obtain ⟨v, h3, h4⟩ := h2 a ha.at_
   rw [ha.defers]
   exact leaves_marks ds w' h1 ⟨v, h3, v, rfl, h4⟩
  cases e with
  |normal => exact go hK
  |ret => exact go hK
  |exit id => exact hK.elim
  |goto id => exact hK.elim
  |panic c => exact hK.elim
  |outgrown => exact hK.elim
theorem marks_one {P : Program} {D : Nat} {w : World} (h : w.heap[D]? = some (.deferred (some []))) : Marks P [mark D] w (w.putObj D (.deferred none)) := ⟨D, _, rfl, run_takeDeferred h, rfl⟩
section
variable {P : Program} {fn : Func} {L : Sl} {w : World} {Q : Value → World → Prop}
theorem Kret0n (hr : fn.results = #[]) (h : Q (.tuple #[]) w) : Kret P fn Q .normal L [] w := ⟨rfl, fun a ha => ⟨_, by simp [results, hr], h⟩⟩
theorem KretM1 {t D : Nat} {v : Value} (hr : fn.results = #[.tmp t]) (hv : lk L t = some v) (hD : w.heap[D]? = some (.deferred (some []))) (h : Q v (w.putObj D (.deferred none))) :
  KretM P fn Q .ret L [mark D] w := ⟨_, marks_one hD, fun a ha => ⟨v, by simp [results, hr, ha t v hv], h⟩⟩
theorem KretM2 {t u D : Nat} {x y : Value} (hr : fn.results = #[.tmp t, .tmp u]) (hx : lk L t = some x) (hy : lk L u = some y) (hD : w.heap[D]? = some (.deferred (some []))) (h : Q (.tuple #[x, y]) (w.putObj D (.deferred none))) :
  KretM P fn Q .ret L [mark D] w := ⟨_, marks_one hD, fun a ha => ⟨_, by simp [results, hr, ha _ _ hx, ha _ _ hy], h⟩⟩
theorem KretM2' {t u : Nat} {x y : Value} (hr : fn.results = #[.tmp t, .tmp u]) (hx : lk L t = some x) (hy : lk L u = some y) (h : Q (.tuple #[x, y]) w) :
  KretM P fn Q .ret L [] w := ⟨w, rfl, fun a ha => ⟨_, by simp [results, hr, ha _ _ hx, ha _ _ hy], h⟩⟩
end
theorem step_putObj {M : PSet} {w : World} {b : Nat} {o : Obj} (hM : M b) : Step M w M (w.putObj b o) (fun k => k = b) :=
 ⟨fun h k hk => by simpa [World.putObj] using h k hk, rfl, rfl, rfl, by simp [World.putObj], fun _ _ => Iff.rfl, fun k _ hn => World.putObj_heap_other (fun e => hn e), fun k hk => by subst hk; exact hM⟩
end Go.K
namespace Go.K
set_option linter.unusedVariables false
set_option linter.unusedSimpArgs false
section
variable {P : Program} {r : Option Nat} {n : Nat} {L : Sl} {ds : List Deferred} {w : World} {K : Kt} {ops : Array Oper} {rest : List Oper} {d : Nat} {ty : TypeId} {pos : String} {af : Array Edge} {x y : Operand} {α : Type} {A : RT α}
theorem PtrTo.isPtr {M : PSet} {v : Value} {a : α} (h : PtrTo A M w v a) : ∃ p, v = .pointer (some p) := by
 obtain ⟨b, o, vs, h1, _⟩ := h; exact ⟨_, h1⟩
theorem Rg.nilCheck {v : Value} (hx : ev L x = some v) (hv : ∃ p, v = .pointer (some p)) (hd : Nat.blt d n = true) (k : Rg P r n ops rest ((d, v) :: L) ds w K) :
  Rg P r n ops ({ dst := some d, op := .nilCheck x, type := ty, pos, after := af, guard := none } :: rest) L ds w K := by
 obtain ⟨p, rfl⟩ := hv
 exact .op (fun _ h => by cases h) rfl rfl hd _ w (fun ρ h => by simp only [execOp, h x _ hx]; simp) k
theorem Rg.fieldc {s : TypeId} {fs : Array Field} {fd : Field} {j size o o' b : Nat} {zv : Value} {bytes : Nat} (hu : P.underlying s = some (.struct fs)) (hfd : fs[j]? = some fd) (ho : o + fd.offset = o') (hi : TI P fd.type zv size bytes) (hs : size ≠ 0)
  (hx : ev L x = some (.pointer (some ⟨b, o, none⟩))) (hd : Nat.blt d n = true) (k : Rg P r n ops rest ((d, .pointer (some ⟨b, o', none⟩)) :: L) ds w K) :
  Rg P r n ops ({ dst := some d, op := .fieldAddr s x j, type := ty, pos, after := af, guard := none } :: rest) L ds w K :=
 .op (fun _ h => by cases h) rfl rfl hd _ w (fun ρ h => by
  simp only [execOp, h x _ hx]
  simp [Instr.fieldAt, run_underlying hu, hfd, Instr.sureAddr, fieldPlace, hi.sizeOf, hs, ← ho, Addr.add_mid]) k
theorem Rg.loadaggc {t : TypeId} {fs : TypeDesc} {zv : Value} {bytes size b : Nat} {vs : List Value} {e : TypeId} {fr : Nat × Nat} (hu : P.underlying t = some fs) (hf : fs.isRow = true) (hi : TI P t zv size bytes) (hl : vs.length = size)
  (hx : ev L x = some (.pointer (some ⟨b, 0, none⟩))) (hd : Nat.blt d n = true) (hb : w.heap[b]? = some (.cells vs.toArray e fr)) (k : Rg P r n ops rest ((d, .agg vs.toArray) :: L) ds w K) :
  Rg P r n ops ({ dst := some d, op := .load t x, type := ty, pos, after := af, guard := none } :: rest) L ds w K := by
 refine .op (fun _ h => by cases h) rfl rfl hd (.agg vs.toArray) w (fun ρ h => ?_) k
 simp only [execOp, h x _ hx]
 obtain ⟨i, hi1, _, hi2, _⟩ := hi.get
 have hr : w.rangeAt b 0 vs := fun j v hj => cell_at hb (by simpa using hj)
 have := run_loadAt_mid (P := P) w b 0 t vs fs hr hu hf (by simp [hi1, hi2, hl])
 simp [this]
theorem setCells_go : ∀ (vs : List Value) (w : World) (b o : Nat) (cs : Array Value) (e : TypeId) (fr : Nat × Nat), w.heap[b]? = some (.cells cs e fr) →
  ∃ cs' : Array Value, (w.setCells b o vs).heap[b]? = some (.cells cs' e fr) ∧ cs'.size = cs.size ∧ (∀ j, cs'[j]? = if o ≤ j ∧ j < o + vs.length ∧ j < cs.size then vs[j - o]? else cs[j]?) ∧ ∀ M : PSet, M b → Step M w M (w.setCells b o vs) (fun k => k = b)
 |[], w, b, o, cs, e, fr, h => ⟨cs, by simpa [World.setCells] using h, rfl, fun j => by rw [if_neg (by simp; omega)], fun M hM => (Step.refl M w).widen (fun _ h => h.elim) (fun k hk => by subst hk; exact hM)⟩
 |v :: vs, w, b, o, cs, e, fr, h => by
  have h1 := setCell_at (o := o) (v := v) h
  obtain ⟨cs', h2, h3, h4, h5⟩ := setCells_go vs (w.setCell ⟨b, o, none⟩ v) b (o + 1) _ e fr h1
  refine ⟨cs', h2, by rw [h3]; simp, fun j => ?_, fun M hM => (step_setCell M hM).trans (h5 M hM) fun _ _ h => h⟩
  rw [h4 j, Array.getElem?_setIfInBounds]
  simp only [Array.size_setIfInBounds, List.length_cons]
  by_cases hj : o = j
  ·subst hj
   rw [if_neg (by omega), if_pos rfl]
   by_cases hlt : o < cs.size
   ·rw [if_pos hlt, if_pos ⟨Nat.le_refl _, by omega, hlt⟩]; simp
   ·rw [if_neg hlt, if_neg (by omega), Array.getElem?_eq_none (by omega)]
  ·rw [if_neg hj]
   by_cases h6 : o + 1 ≤ j ∧ j < o + 1 + vs.length ∧ j < cs.size
   ·rw [if_pos h6, if_pos (by omega), show j - o = (j - (o + 1)) + 1 from by omega]; simp
   ·rw [if_neg h6, if_neg (by omega)]
theorem Rg.storeaggc {t : TypeId} {zv : Value} {bytes size b : Nat} {cs : Array Value} {vs : List Value} {e : TypeId} {M : PSet} (hi : TI P t zv size bytes) (hl : vs.length = size) (hcs : cs.size = size) (h1 : ∀ u ∈ vs, u.oneCell' = true)
  (hx : ev L x = some (.pointer (some ⟨b, 0, none⟩))) (hy : ev L y = some (.agg vs.toArray)) (hb : w.heap[b]? = some (.cells cs e (0, 0))) (hm : M b)
  (k : ∀ w', w'.heap[b]? = some (.cells vs.toArray e (0, 0)) → Step M w M w' (fun k => k = b) → Rg P r n ops rest L ds w' K) :
  Rg P r n ops ({ dst := none, op := .store t x y, type := ty, pos, after := af, guard := none } :: rest) L ds w K := by
 obtain ⟨cs', h2, h3, h4, h5⟩ := setCells_go vs w b 0 cs e (0, 0) hb
 have hcs' : cs' = vs.toArray := Array.ext_getElem? fun j => by
  rw [h4 j]
  by_cases hj : j < cs.size
  ·rw [if_pos (by omega)]; simp
  ·rw [if_neg (by omega), Array.getElem?_eq_none (by omega)]; simp; omega
 subst hcs'
 refine .opu (fun _ h => by cases h) rfl rfl (w.setCells b 0 vs) (fun ρ hρ => ?_) (k _ h2 (h5 M hm))
 simp only [execOp, hρ x _ hx, hρ y _ hy]
 obtain ⟨i, hi1, _, hi2, _⟩ := hi.get
 have := run_storeAt_mid (P := P) w b 0 t vs.toArray (fun j hj => by
  have hj' : j < cs.size := by simp at hj; omega
  exact ⟨by rw [cell_at hb (v := cs[j]) (by simp [hj'])]; rfl, by simp [World.frozen?, hb]⟩) (by simp [hi1, hi2, hl]) (by simpa [Array.all_eq_true_iff_forall_mem] using h1)
 simp [this]
theorem Rg.newagg {t e : TypeId} {zv v : Value} {bytes : Nat} {M M1 : PSet} {w1 : World} {a : α} {ty2 : TypeId} {pos2 : String} {af2 : Array Edge} (hi : TI P e zv A.n bytes) (hz : zv.cells.size = A.n) (hg : A.agg = true) (hd : Nat.blt d n = true) (hte : t = e) (hdy : ev ((d, .pointer (some ⟨w.heap.size, 0, none⟩)) :: L) y = some v)
  (hv : A.V M1 w1 a v) (hle : Le M1 w1 M w) (hm : Lt M w) (k : ∀ u w', PtrTo A M w' u a → Step M w M w' none' → w.heap.size < w'.heap.size → Rg P r n ops rest ((d, u) :: L) ds w' K) :
  Rg P r n ops ({ dst := some d, op := .alloc e, type := ty, pos, after := af, guard := none } :: { dst := none, op := .store t (.tmp d) y, type := ty2, pos := pos2, after := af2, guard := none } :: rest) L ds w K := by
 subst hte
 obtain ⟨vs, h1, rfl⟩ := hv.le hle
 have hdd : lk ((d, .pointer (some ⟨w.heap.size, 0, none⟩)) :: L) d = some (.pointer (some ⟨w.heap.size, 0, none⟩)) := by simp [lk, Nat.beq_refl]
 obtain ⟨i, i1, i2, i3, i4⟩ := hi.get
 refine .op (fun _ h => by cases h) rfl rfl hd (.pointer (some ⟨w.heap.size, 0, none⟩)) (w.alloc (.cells zv.cells t)) (fun ρ hρ => ?_) ?_
 ·simp only [execOp]
  simp [Instr.alloc, zeroValue, typeInfo, i1, i2, newVar, newRow, newObj, Sem.run]
 ·have s1 := (step_alloc M w (.cells zv.cells t)).own (Nat.le_refl _) (by simp)
  refine .storeaggc (M := ins M w.heap.size) hi (A.len h1) hz (A.one h1) hdd (by simpa [RT.val, hg] using hdy) (heap_alloc_at w _) (.inl rfl) (fun w' h2 s2 => ?_)
  have hs2 := s2.size
  have hst : Step M w M w' none' := ⟨fun h b hb => Nat.lt_of_lt_of_le (h b hb) (Nat.le_trans s1.size hs2), s2.os.trans s1.os, s2.tape.trans s1.tape, s2.output.trans s1.output, Nat.le_trans s1.size hs2, fun _ _ => Iff.rfl, fun k hk _ => (s2.same k (Nat.lt_of_lt_of_le hk s1.size) (fun e => by subst e; omega)).trans (s1.same k hk fun h => h.elim), fun _ h => h.elim⟩
  refine k _ w' ⟨w.heap.size, 0, vs, rfl, fun h => by have := hm _ h; omega, A.le hst.le h1, fun j u hj => cell_at h2 (by simpa using hj)⟩ hst (by simp at hs2; omega)
def Filled (place : Nat → Option (Nat × Nat)) : List Value → List (Nat × Value) → List Value → Prop
 |zs, [], out => out = zs
 |zs, (i, v) :: rest, out => ∃ off vs, place i = some (off, vs.length) ∧ v.cells = vs.toArray ∧ off + vs.length ≤ zs.length ∧ Filled place (zs.take off ++ vs ++ zs.drop (off + vs.length)) rest out
theorem fill_filled {place : Nat → Option (Nat × Nat)} : ∀ (ps : List (Nat × Value)) (zs out : List Value), Filled place zs ps out → Instr.fill place zs.toArray ps = some out.toArray
 |[], zs, out, h => by cases h; rfl
 |(i, v) :: rest, zs, out, ⟨off, vs, h1, h2, h3, h4⟩ => by
  rw [← fill_filled rest _ out h4]
  have key : ∀ (l : List Value) (k : Nat) (cs : Array Value), off + k + l.length ≤ cs.size → ((l.zipIdx k).foldl (fun (cs : Array Value) (x : Value × Nat) => cs.setIfInBounds (off + x.2) x.1) cs).size = cs.size ∧
    ∀ j : Nat, ((l.zipIdx k).foldl (fun (cs : Array Value) (x : Value × Nat) => cs.setIfInBounds (off + x.2) x.1) cs)[j]? = if off + k ≤ j ∧ j < off + k + l.length then l[j - (off + k)]? else cs[j]? := by
   intro l
   induction l with
   |nil =>
    intro k cs hk
    refine ⟨rfl, fun j => ?_⟩
    simp
    intro h1 h2; omega
   |cons a l ih =>
    intro k cs hk
    simp only [List.zipIdx_cons, List.foldl_cons]
    simp only [List.length_cons] at hk
    obtain ⟨h1, h2⟩ := ih (k + 1) (cs.setIfInBounds (off + k) a) (by simp; omega)
    refine ⟨by rw [h1]; simp, fun j => ?_⟩
    rw [h2 j, Array.getElem?_setIfInBounds, List.length_cons]
    by_cases h3 : off + (k + 1) ≤ j ∧ j < off + (k + 1) + l.length
    ·rw [if_pos h3, if_pos (by omega), show j - (off + k) = (j - (off + (k + 1))) + 1 from by omega]; simp
    ·rw [if_neg h3]
     by_cases h4 : off + k = j
     ·subst h4; rw [if_pos rfl, if_pos (by omega), if_pos (by omega)]; simp
     ·rw [if_neg h4, if_neg (by omega)]
  obtain ⟨k1, k2⟩ := key vs 0 zs.toArray (by simpa using h3)
  conv => lhs; rw [Instr.fill]
  simp only [h1, h2]
  simp [show ¬ (zs.length < off + vs.length) by omega]
  congr 1
  refine Array.ext_getElem? fun j => ?_
  rw [k2 j, Nat.add_zero, List.getElem?_toArray, List.getElem?_toArray]
  by_cases hj : j < off
  ·rw [if_neg (by omega), List.getElem?_append_left (by simp; omega), List.getElem?_take, if_pos hj]
  ·have ht : (zs.take off).length = off := by simp; omega
   rw [List.getElem?_append_right (by omega), ht]
   by_cases hj2 : j < off + vs.length
   ·rw [if_pos (by omega), List.getElem?_append_left (by omega)]
   ·rw [if_neg (by omega), List.getElem?_append_right (by omega), List.getElem?_drop]
    congr 1; omega
def placesOf (P : Program) (t : TypeId) : List (Option (Nat × Nat)) := match P.underlying t with
 |some (.struct fs) => fs.toList.map fun f => (P.info? f.type).map fun i => (f.offset, i.size)
 |_ => []
def PVals (L : Sl) : List (Nat × Operand) → List (Nat × Value) → Prop
 |[], vs => vs = []
 |p :: ps, vs => ∃ v r, vs = (p.1, v) :: r ∧ ev L p.2 = some v ∧ PVals L ps r
theorem PVals.use {ρ : Operand → Value} (h : ∀ x v, ev L x = some v → ρ x = v) : ∀ {ps : List (Nat × Operand)} {vs : List (Nat × Value)}, PVals L ps vs → ps.map (fun p => (p.1, ρ p.2)) = vs
 |[], _, hp => by cases hp; rfl
 |p :: ps, _, ⟨v, r, h1, h2, h3⟩ => by rw [List.map_cons, h p.2 v h2, PVals.use h h3, h1]
theorem Rg.build {t : TypeId} {fs : Array Field} {zv : Value} {bytes size : Nat} {ps : List (Nat × Operand)} {vals : List (Nat × Value)} {out : List Value} {places : List (Nat × Nat)} (hu : P.underlying t = some (.struct fs)) (hi : TI P t zv size bytes)
  (hpl0 : placesOf P t = places.map some) (hd : Nat.blt d n = true)
  (hvs : PVals L ps vals) (hf : Filled (fun i => places[i]?) zv.cells.toList vals out) (k : Rg P r n ops rest ((d, .agg out.toArray) :: L) ds w K) :
  Rg P r n ops ({ dst := some d, op := .build t ps.toArray, type := ty, pos, after := af, guard := none } :: rest) L ds w K := by
 have hpl : fs.toList.map (fun f => (P.info? f.type).map fun i => (f.offset, i.size)) = places.map some := by
  unfold placesOf at hpl0; rw [hu] at hpl0; exact hpl0
 obtain ⟨i, i1, i2, i3, i4⟩ := hi.get
 refine .op (fun _ h => by cases h) rfl rfl hd (.agg out.toArray) w (fun ρ hρ => ?_) k
 have hm : (Array.map (fun (i, x) => (i, ρ x)) ps.toArray).toList = vals := by rw [Array.toList_map]; exact hvs.use hρ
 have hp : ∀ (l : List Field) (acc : List (Nat × Nat)), l.map (fun f => (P.info? f.type).map fun i => (f.offset, i.size)) = acc.map some → (l.mapM (fun f => do let s ← Go.sizeOf f.type; pure (f.offset, s) : Field → Sem (Nat × Nat))).run P w = .ok acc w := by
  intro l
  induction l with
  |nil => intro acc h; cases acc with
   |nil => rfl
   |cons a acc => simp at h
  |cons f l ih =>
   intro acc h
   cases acc with
   |nil => simp at h
   |cons a acc =>
    simp only [List.map_cons, List.cons.injEq] at h
    obtain ⟨h1, h2⟩ := h
    have := ih acc h2
    cases hq : P.info? f.type with
    |none => rw [hq] at h1; simp at h1
    |some i =>
     rw [hq] at h1; simp at h1; subst h1
     have hs : (Go.sizeOf f.type).run P w = .ok i.size w := by simp [Go.sizeOf, typeInfo, program, Sem.run, hq]
     simp only [List.mapM_cons, Sem.run_bind, hs, Result.andThen_ok, Sem.run_pure, this]
 have hp2 : (fs.mapM (fun f => do let s ← Go.sizeOf f.type; pure (f.offset, s) : Field → Sem (Nat × Nat))).run P w = .ok places.toArray w := by
  have h3 : fs.mapM (fun f => do let s ← Go.sizeOf f.type; pure (f.offset, s) : Field → Sem (Nat × Nat)) = List.toArray <$> fs.toList.mapM (fun f => do let s ← Go.sizeOf f.type; pure (f.offset, s) : Field → Sem (Nat × Nat)) := by
   exact Array.mapM_eq_mapM_toList
  rw [h3]
  simp only [map_eq_pure_bind, Sem.run_bind, hp _ _ hpl, Result.andThen_ok, Sem.run_pure]
 have hf2 := fill_filled vals _ out hf
 have hz : (zeroValue t).run P w = .ok zv w := by simp [zeroValue, typeInfo, program, Sem.run, i1, i2]
 have hf3 : Instr.fill (fun x => places.toArray[x]?) zv.cells vals = some out.toArray := by simpa using hf2
 simp only [execOp, Instr.build, Sem.run_bind, hz, Result.andThen_ok, run_underlying hu, hp2, hm, hf3, Sem.run_pure]
theorem Rg.slice_lhm {t e : TypeId} {l h m : Operand} {κ κ' κ'' : IntKind} {lo hi mx : Int} {hn : 0 < A.n} {M : PSet} {w1 : World} {xs : List α} {v zv : Value} {bytes : Nat} (ht : P.underlying t = some (.slice e)) (hti : TI P e zv A.n bytes)
  (hx : ev L x = some v) (hl : ev L l = some (.int κ lo)) (hh : ev L h = some (.int κ' hi)) (hm : ev L m = some (.int κ'' mx)) (hd : Nat.blt d n = true) (hv : (A.sl hn).V M w1 xs v) (hb : 0 ≤ lo ∧ lo ≤ hi ∧ hi = mx ∧ hi ≤ xs.length)
  (k : ∀ u, (A.sl hn).V M w1 ((xs.take hi.toNat).drop lo.toNat) u → Rg P r n ops rest ((d, u) :: L) ds w K) :
  Rg P r n ops ({ dst := some d, op := .slice t x (some l) (some h) (some m), type := ty, pos, after := af, guard := none } :: rest) L ds w K := by
 obtain ⟨a, cap, rfl, hc, hlen, hs⟩ := V_sl.1 hv
 obtain ⟨h1, h2, rfl, h3⟩ := hb
 have hlen2 : ((xs.take hi.toNat).drop lo.toNat).length = hi.toNat - lo.toNat := by rw [List.length_drop, List.length_take]; omega
 refine .op (fun _ h => by cases h) rfl rfl hd (sliced a lo.toNat hi.toNat hi.toNat A.n) w (fun ρ hρ => ?_) (k _ (V_sl.2 ⟨_, hi.toNat - lo.toNat, ?_, by omega, by omega, hs.slice lo.toNat hi.toNat cap hi.toNat (by omega) (by omega) (by omega)⟩))
 ·simp only [execOp, hρ x _ hx, Option.map_some, hρ l _ hl, hρ h _ hh, hρ m _ hm]
  rw [Sem.run_bind, run_sliceAt_slice _ _ _ _ _ _ (elem_of ht), run_slice_lhm _ _ _ _ _ (elem_of ht) _ _ _ _ _ _ h1 h2 (Int.le_refl _) (by omega), elem_eq ht, hti.sizeOf]
  simp
 ·rw [hlen2]; rfl
theorem Rg.sleqnil {t t' e : TypeId} {a : Option Addr} {l c : Nat} (ht : P.underlying t = some (.slice e)) (hx : ev L x = some (.slice a l c)) (hy : ev L y = some (.slice none 0 0)) (hd : Nat.blt d n = true)
  (k : Rg P r n ops rest ((d, .bool (decide (a = none))) :: L) ds w K) :
  Rg P r n ops ({ dst := some d, op := .binOp .eql t x y t', type := ty, pos, after := af, guard := none } :: rest) L ds w K :=
 .op (fun _ h => by cases h) rfl rfl hd _ w (fun ρ h => by
  have he := run_equal_slice_nil (P := P) w t e a l c ht
  simp only [execOp]; rw [h x _ hx, h y _ hy]
  cases a <;> simp [eqGuard, binOp, run_underlying ht] <;> simp [he]) k
theorem Rg.ptreqnil {t t' e : TypeId} {v : Value} (ht : P.underlying t = some (.pointer e)) (hx : ev L x = some v) (hv : ∃ p, v = .pointer (some p)) (hy : ev L y = some (.pointer none)) (hd : Nat.blt d n = true)
  (k : Rg P r n ops rest ((d, .bool false) :: L) ds w K) :
  Rg P r n ops ({ dst := some d, op := .binOp .eql t x y t', type := ty, pos, after := af, guard := none } :: rest) L ds w K := by
 obtain ⟨p, rfl⟩ := hv
 exact .op (fun _ h => by cases h) rfl rfl hd _ w (fun ρ h => by
  have hpe : P.underlying t = some (.pointer (P.pointee t)) := by simp [Program.pointee, ht]
  have he := run_equal_pointer_nil (P := P) w t (some p) hpe
  simp only [execOp]; rw [h x _ hx, h y _ hy]
  simp [eqGuard, binOp, run_underlying ht, he]) k
theorem Rg.sl0 {t e : TypeId} {zv : Value} {bytes size : Nat} (ht : P.underlying t = some (.slice e)) (hi : TI P e zv size bytes) (M : PSet) (hd : Nat.blt d n = true)
  (k : ∀ a w', Step M w M w' none' → Rg P r n ops rest ((d, .slice (some a) 0 0) :: L) ds w' K) :
  Rg P r n ops ({ dst := some d, op := .buildSlice t 0 #[], type := ty, pos, after := af, guard := none } :: rest) L ds w K := by
 refine .op (fun _ h => by cases h) rfl rfl hd (.slice (some ⟨w.heap.size, 0, none⟩) 0 0) (w.alloc (.cells #[] e)) (fun ρ hρ => ?_) (k _ _ (step_alloc M w _))
 simp only [execOp, Instr.buildSlice, Sem.run_bind, run_underlying ht, Result.andThen_ok, hi.sizeOf]
 simp [newRow, newObj, Sem.run, Instr.fill]
 have h0 : Array.range 0 = #[] := by apply Array.ext <;> simp
 simp [h0]
theorem KretC3 {fn : Func} {Q : Value → World → Prop} {c t u s b : Nat} {vs : List Value} {fs : TypeDesc} {e : TypeId} {fr : Nat × Nat} {y z zv : Value} {size bytes : Nat} (hr : fn.results = #[.cell c t, .tmp u, .tmp s]) (hc : lk L c = some (.pointer (some ⟨b, 0, none⟩))) (hu : P.underlying t = some fs) (hf : fs.isRow = true) (hi : TI P t zv size bytes) (hl : vs.length = size)
  (hb : w.heap[b]? = some (.cells vs.toArray e fr)) (hy : lk L u = some y) (hz : lk L s = some z) (h : Q (.tuple #[.agg vs.toArray, y, z]) w) : Kret P fn Q .ret L [] w :=
 ⟨rfl, fun a ha => ⟨_, by
  obtain ⟨i, hi1, _, hi2, _⟩ := hi.get
  have hrng : w.rangeAt b 0 vs := fun j v hj => cell_at hb (by simpa using hj)
  have := run_loadVar_mid (P := P) w b 0 t vs fs hrng hu hf (by simp [hi1, hi2, hl])
  simp [results, hr, ha _ _ hc, ha _ _ hy, ha _ _ hz, asAddr, this, Sem.run_bind], h⟩⟩
theorem Rg.appendnew {t e : TypeId} {zv : Value} {bytes : Nat} {hn : 0 < A.n} {M M2 : PSet} {w2 : World} {a : Option Addr} {u : Value} {ys : List α} (ht : P.underlying t = some (.slice e)) (hi : TI P e zv A.n bytes) (hz : zv.cells.size = A.n)
  (hx : ev L x = some (.slice a 0 0)) (hy : ev L y = some u) (hd : Nat.blt d n = true) (hu : (A.sl hn).V M2 w2 ys u) (hle : Le M2 w2 M w) (hm : Lt M w) (hb : ys.length * bytes ≤ 140737488355328)
  (k : ∀ v' w', (A.sl hn).V M w' ys v' → Step M w M w' none' → Rg P r n ops rest ((d, v') :: L) ds w' K) :
  Rg P r n ops ({ dst := some d, op := .call { callee := .builtin .append, args := #[x, y], argTypes := #[t, t] }, type := ty, pos, after := af, guard := none } :: rest) L ds w K := by
 have hyl := V_sl_len hu
 by_cases hne : ys = []
 ·subst hne
  obtain ⟨b, c, rfl, _⟩ := V_sl.1 hu
  refine .op (fun _ h => by cases h) rfl rfl hd (.slice a 0 0) w (fun ρ hρ => ?_) (k _ w (V_sl.2 ⟨a, 0, rfl, Nat.le_refl _, by simp, .inl rfl⟩) (Step.refl _ _))
  simp only [execOp, resolve, List.map_toArray, List.map_cons, List.map_nil, hρ x _ hx, hρ y _ hy]
  have := run_append_none (P := P) (w := w) (ty := ty) ht hi a 0 0 c b (Nat.le_refl 0)
  simp only [List.length_nil] at this ⊢
  simp [invoke, builtin, this]
 ·have hp : 0 < ys.length := List.length_pos_iff.2 hne
  refine .appendclip (xs := []) (a := a) ht hi hz hx hy hd (V_sl.2 ⟨a, 0, rfl, Nat.le_refl _, by simp, .inl rfl⟩) (fun _ => rfl) hu hle hp (by simpa using hyl) (by simpa using hb) fun v' M' w' ho s => ?_
  rw [List.nil_append] at ho
  exact k v' w' (Own.close hm s ho hyl) s.back
theorem V_one {M : PSet} {a : α} {v : Value} (h : A.V M w a v) (hg : A.agg = false) (h1 : A.n = 1) : v.oneCell' = true := by
 obtain ⟨vs, hR, rfl⟩ := h
 have hl := A.len hR
 match vs, hl with
 |[u], _ => simpa [RT.val, hg] using A.one hR u (by simp)
 |[], hl => simp at hl; omega
 |_ :: _ :: _, hl => simp at hl; omega
theorem V_cell {M : PSet} {a : α} {v : Value} (h : A.V M w a v) (hg : A.agg = false) (h1 : A.n = 1) : A.R M w a [v] := by
 obtain ⟨vs, hR, rfl⟩ := h
 have hl := A.len hR
 match vs, hl, hR with
 |[u], _, hR => simpa [RT.val, hg] using hR
 |[], hl, _ => simp at hl; omega
 |_ :: _ :: _, hl, _ => simp at hl; omega
theorem V_pair_mk {β : Type} {B : RT β} {M : PSet} {a : α} {b : β} {u v : Value} (h : A.V M w a u) (h' : B.V M w b v) (hg : A.agg = false) (h1 : A.n = 1) (hg' : B.agg = false) (h1' : B.n = 1) : (A.pair B).V M w (a, b) (.agg [u, v].toArray) :=
 ⟨[u, v], ⟨[u], [v], rfl, V_cell h hg h1, V_cell h' hg' h1'⟩, rfl⟩
theorem wrap_rng {x : Int} : -9223372036854775808 ≤ IntKind.i64.wrap x ∧ IntKind.i64.wrap x ≤ 9223372036854775807 := by
 rw [IntKind.wrap_i64]; omega
end
end Go.K
namespace Go.K
set_option linter.unusedVariables false
set_option linter.unusedSimpArgs false
def put (n : Nat) : List UInt8 := if n < 128 then [UInt8.ofNat n] else UInt8.ofNat (128 + n % 128) :: put (n / 128)
termination_by n
decreasing_by omega
theorem put_lt {n : Nat} (h : n < 128) : put n = [UInt8.ofNat n] := by rw [put, if_pos h]
theorem put_ge {n : Nat} (h : 128 ≤ n) : put n = UInt8.ofNat (128 + n % 128) :: put (n / 128) := by rw [put, if_neg (by omega)]
theorem put_pos (n : Nat) : 0 < (put n).length := by rw [put]; split <;> simp
theorem put_len {k : Nat} : ∀ {n : Nat}, n < 128 ^ (k + 1) → (put n).length ≤ k + 1 := by
 induction k with
 |zero => intro n h; rw [put_lt (by simpa using h)]; simp
 |succ k ih =>
  intro n h
  by_cases h1 : n < 128
  ·rw [put_lt h1]; simp
  ·rw [put_ge (by omega)]
   have := ih (n := n / 128) (by rw [Nat.pow_succ] at h; omega)
   simp; omega
theorem put_len9 {n : Nat} (h : n ≤ 9223372036854775807) : (put n).length ≤ 9 := put_len (k := 8) (by omega)
def getL : List UInt8 → Nat → Nat → Option (Nat × Nat)
 |[], _, _ => none
 |c :: cs, i, n => if c.toNat < 128 then (if c.toNat = 0 ∧ 0 < i then none else some (n + c.toNat % 128 * 128 ^ i, i + 1)) else getL cs (i + 1) (n + c.toNat % 128 * 128 ^ i)
def get (b : List UInt8) (at_ : Int) : Int × Int × Int :=
 if at_ < 0 ∨ (b.length : Int) < at_ then (0, 0, 1)
 else match getL ((b.drop at_.toNat).take 9) 0 0 with
  |some (n, k) => (n, at_ + k, 0)
  |none => (0, 0, 2)
theorem getL_drop {bs : List UInt8} {k : Nat} {c : UInt8} (h : bs[k]? = some c) (n : Nat) : getL (bs.drop k) k n =
  if c.toNat < 128 then (if c.toNat = 0 ∧ 0 < k then none else some (n + c.toNat % 128 * 128 ^ k, k + 1)) else getL (bs.drop (k + 1)) (k + 1) (n + c.toNat % 128 * 128 ^ k) := by
 obtain ⟨hlt, he⟩ := List.getElem?_eq_some_iff.1 h
 rw [List.drop_eq_getElem_cons hlt, getL, he]
theorem window (b : List UInt8) (i : Nat) : (b.take (min b.length (i + 9))).drop i = (b.drop i).take 9 := by
 rw [List.drop_take, List.take_eq_take_iff]; simp; omega
def val : List UInt8 → Nat
 |[] => 0
 |c :: cs => c.toNat % 128 + 128 * val cs
def rises : Int → List Int → Bool
 |_, [] => true
 |last, x :: l => decide (last < x) && rises x l
def putR : Int → List Int → List UInt8
 |_, [] => []
 |last, x :: l => put (x - last - 1).toNat ++ putR x l
def putRising (l : List Int) : List UInt8 := put l.length ++ putR (-1) l
def goodL : Int → List Int → List Int
 |_, [] => []
 |last, x :: l => let m := if x < 0 then -(x + 1) else x; (last + 1 + m % 1000) :: goodL (last + 1 + m % 1000) l
def good (l : List Int) (most : Nat) : List Int := goodL (-1) (l.take most)
theorem get_ok {b : List UInt8} {at_ : Int} (h : (get b at_).2.2 = 0) : 0 ≤ at_ ∧ at_ < (get b at_).2.1 ∧ (get b at_).2.1 ≤ b.length ∧ 0 ≤ (get b at_).1 ∧ (get b at_).1 < 9223372036854775808 := by
 unfold get at h ⊢
 split at h
 ·simp at h
 rename_i hr
 rw [if_neg hr] at *
 have key : ∀ (bs : List UInt8) (i n m k : Nat), getL bs i n = some (m, k) → bs.length + i ≤ 9 → n < 128 ^ i → i < k ∧ k ≤ i + bs.length ∧ m < 128 ^ k := by
  intro bs
  induction bs with
  |nil => intro i n m k h; simp [getL] at h
  |cons c cs ih =>
   intro i n m k h hl hn
   have hd : n + c.toNat % 128 * 128 ^ i < 128 ^ (i + 1) := by
    have := Nat.mul_le_mul_right (128 ^ i) (show c.toNat % 128 ≤ 127 from by omega)
    rw [Nat.pow_succ]; omega
   simp only [getL] at h
   split at h
   ·split at h
    ·cases h
    ·cases h; exact ⟨by omega, by simp, hd⟩
   ·obtain ⟨h1, h2, h3⟩ := ih (i + 1) _ m k h (by simp at hl; omega) hd
    exact ⟨by omega, by simp; omega, h3⟩
 cases hg : getL ((b.drop at_.toNat).take 9) 0 0 with
 |none => simp [hg] at h
 |some p =>
  obtain ⟨m, k⟩ := p
  have hlen : ((b.drop at_.toNat).take 9).length ≤ 9 ∧ ((b.drop at_.toNat).take 9).length ≤ b.length - at_.toNat := by rw [List.length_take, List.length_drop]; omega
  obtain ⟨h1, h2, h3⟩ := key _ 0 0 m k hg (by omega) (by decide)
  have hp : 128 ^ k ≤ 128 ^ 9 := Nat.pow_le_pow_right (by decide) (by omega)
  simp only
  omega
def getRL (b : List UInt8) : Nat → Int → Int → Int × List Int × Int
 |0, at_, _ => (0, [], at_)
 |k + 1, at_, last =>
  if (get b at_).2.2 ≠ 0 then ((get b at_).2.2, [], 0)
  else if 4611686018427387904 - last - 1 < (get b at_).1 then (2, [], 0)
  else if (getRL b k (get b at_).2.1 (last + 1 + (get b at_).1)).1 ≠ 0 then ((getRL b k (get b at_).2.1 (last + 1 + (get b at_).1)).1, [], 0)
  else (0, (last + 1 + (get b at_).1) :: (getRL b k (get b at_).2.1 (last + 1 + (get b at_).1)).2.1, (getRL b k (get b at_).2.1 (last + 1 + (get b at_).1)).2.2)
def getRising (b : List UInt8) (at_ : Int) : Int × List Int × Int :=
 if (get b at_).2.2 ≠ 0 then ((get b at_).2.2, [], 0) else getRL b (get b at_).1.toNat (get b at_).2.1 (-1)
theorem rises_drop {l : List Int} {k : Nat} {x : Int} (h : l[k]? = some x) (last : Int) : rises last (l.drop k) = (decide (last < x) && rises x (l.drop (k + 1))) := by
 obtain ⟨hlt, he⟩ := List.getElem?_eq_some_iff.1 h
 rw [List.drop_eq_getElem_cons hlt, rises, he]
theorem putR_drop {l : List Int} {k : Nat} {x : Int} (h : l[k]? = some x) (last : Int) : putR last (l.drop k) = put (x - last - 1).toNat ++ putR x (l.drop (k + 1)) := by
 obtain ⟨hlt, he⟩ := List.getElem?_eq_some_iff.1 h
 rw [List.drop_eq_getElem_cons hlt, putR, he]
theorem putR_len : ∀ (l : List Int) (last : Int), -1 ≤ last → (∀ x ∈ l, x ≤ 9223372036854775807) → rises last l = true → (putR last l).length ≤ 9 * l.length
 |[], _, _, _, _ => by simp [putR]
 |x :: l, last, h1, h2, h3 => by
  simp only [rises, Bool.and_eq_true, decide_eq_true_eq] at h3
  have hx := h2 x (List.mem_cons_self ..)
  have h4 := putR_len l x (by omega) (fun y hy => h2 y (List.mem_cons_of_mem _ hy)) h3.2
  have h5 := put_len9 (n := (x - last - 1).toNat) (by omega)
  simp only [putR, List.length_append, List.length_cons]; omega
theorem getRL_zero (b : List UInt8) (a last : Int) : getRL b 0 a last = (0, [], a) := rfl
theorem getRL_fail {b : List UInt8} {k : Nat} {a last : Int} (h : (get b a).2.2 ≠ 0) : getRL b (k + 1) a last = ((get b a).2.2, [], 0) := by rw [getRL, if_pos h]
theorem getRL_big {b : List UInt8} {k : Nat} {a last : Int} (h : (get b a).2.2 = 0) (h2 : 4611686018427387904 - last - 1 < (get b a).1) : getRL b (k + 1) a last = (2, [], 0) := by
 rw [getRL, if_neg (by simpa using h), if_pos h2]
theorem getRL_next {b : List UInt8} {k : Nat} {a last : Int} (h : (get b a).2.2 = 0) (h2 : ¬ 4611686018427387904 - last - 1 < (get b a).1) : getRL b (k + 1) a last =
  if (getRL b k (get b a).2.1 (last + 1 + (get b a).1)).1 ≠ 0 then ((getRL b k (get b a).2.1 (last + 1 + (get b a).1)).1, [], 0)
  else (0, (last + 1 + (get b a).1) :: (getRL b k (get b a).2.1 (last + 1 + (get b a).1)).2.1, (getRL b k (get b a).2.1 (last + 1 + (get b a).1)).2.2) := by
 rw [getRL, if_neg (by simpa using h), if_neg h2]
def andThen (acc : List Int) (r : Int × List Int × Int) : Int × List Int × Int := if r.1 ≠ 0 then (r.1, [], 0) else (0, acc ++ r.2.1, r.2.2)
theorem andThen_next {b : List UInt8} {k : Nat} {a last : Int} (acc : List Int) (h : (get b a).2.2 = 0) (h2 : ¬ 4611686018427387904 - last - 1 < (get b a).1) :
  andThen acc (getRL b (k + 1) a last) = andThen (acc ++ [last + 1 + (get b a).1]) (getRL b k (get b a).2.1 (last + 1 + (get b a).1)) := by
 rw [getRL_next h h2]; unfold andThen
 by_cases h3 : (getRL b k (get b a).2.1 (last + 1 + (get b a).1)).1 = 0 <;> simp [h3]
theorem andThen_nil (r : Int × List Int × Int) (h : r.1 ≠ 0 → r.2 = ([], 0)) : andThen [] r = r := by
 unfold andThen
 by_cases h3 : r.1 = 0
 ·rw [if_neg (by simpa using h3)]; ext <;> simp [h3]
 ·rw [if_pos h3, ← h h3]
theorem getRL_err (b : List UInt8) : ∀ (k : Nat) (a last : Int), (getRL b k a last).1 ≠ 0 → (getRL b k a last).2 = ([], 0)
 |0, a, last, h => by simp [getRL] at h
 |k + 1, a, last, h => by
  rw [getRL] at h ⊢
  split
  ·rfl
  ·rename_i h1; rw [if_neg h1] at h
   split
   ·rfl
   ·rename_i h2; rw [if_neg h2] at h
    split
    ·rfl
    ·rename_i h3; rw [if_neg h3] at h; simp at h
theorem get_nonneg (b : List UInt8) (a : Int) : 0 ≤ (get b a).1 ∧ 0 ≤ (get b a).2.2 ∧ (get b a).2.2 ≤ 2 ∧ ((get b a).2.2 ≠ 0 → (get b a).1 = 0 ∧ (get b a).2.1 = 0) := by
 unfold get
 split
 ·simp
 ·split <;> simp <;> omega
theorem get_range (b : List UInt8) (a : Int) : (get b a).1 ≤ 9223372036854775807 := by
 by_cases h : (get b a).2.2 = 0
 ·have := get_ok h; omega
 ·have := (get_nonneg b a).2.2.2 h; omega
theorem getL_put : ∀ (k m i acc : Nat) (post : List UInt8), m < 128 ^ (k + 1) → (0 < i → m ≠ 0) → getL ((put m ++ post).take (k + 1)) i acc = some (acc + m * 128 ^ i, i + (put m).length) := by
 intro k
 induction k with
 |zero =>
  intro m i acc post h h0
  have hm : m < 128 := by simpa using h
  have e : (UInt8.ofNat m).toNat = m := by rw [UInt8.toNat_ofNat']; omega
  rw [put_lt hm]
  simp only [List.cons_append, List.nil_append, List.take_succ_cons, getL, e]
  rw [if_pos hm, if_neg (by omega), Nat.mod_eq_of_lt hm]; rfl
 |succ k ih =>
  intro m i acc post h h0
  by_cases hm : m < 128
  ·have e : (UInt8.ofNat m).toNat = m := by rw [UInt8.toNat_ofNat']; omega
   rw [put_lt hm]
   simp only [List.cons_append, List.nil_append, List.take_succ_cons, getL, e]
   rw [if_pos hm, if_neg (by omega), Nat.mod_eq_of_lt hm]; rfl
  ·have e : (UInt8.ofNat (128 + m % 128)).toNat = 128 + m % 128 := by rw [UInt8.toNat_ofNat']; omega
   rw [put_ge (by omega)]
   simp only [List.cons_append, List.take_succ_cons, getL, e]
   rw [if_neg (by omega), ih (m / 128) (i + 1) _ post (by rw [Nat.pow_succ] at h; omega) (by omega)]
   have h2 : (128 + m % 128) % 128 = m % 128 := by omega
   rw [h2, Nat.pow_succ]
   congr 2
   ·have h3 : m = m % 128 + 128 * (m / 128) := by omega
    have h4 : m * 128 ^ i = (m % 128) * 128 ^ i + (m / 128) * (128 ^ i * 128) := by
     conv => lhs; rw [h3]
     rw [Nat.add_mul, Nat.mul_comm 128 (m / 128), Nat.mul_assoc, Nat.mul_comm 128 (128 ^ i)]
    omega
   ·simp; omega
theorem get_put (pre post : List UInt8) {n : Nat} (hn : n ≤ 9223372036854775807) : get (pre ++ put n ++ post) pre.length = ((n : Int), ((pre.length + (put n).length : Nat) : Int), 0) := by
 unfold get
 rw [if_neg (by simp; omega)]
 have h1 : ((pre ++ put n ++ post).drop (pre.length : Int).toNat).take 9 = (put n ++ post).take (8 + 1) := by
  rw [Int.toNat_natCast, List.append_assoc, List.drop_left]
 rw [h1, getL_put 8 n 0 0 post (by omega) (by omega)]
 simp
theorem getRL_put : ∀ (l : List Int) (pre post : List UInt8) (last : Int), -1 ≤ last → rises last l = true → (∀ x ∈ l, x ≤ 4611686018427387904) →
  getRL (pre ++ putR last l ++ post) l.length pre.length last = (0, l, ((pre.length + (putR last l).length : Nat) : Int))
 |[], pre, post, last, _, _, _ => by simp [putR, getRL]
 |x :: l, pre, post, last, h1, h2, h3 => by
  simp only [rises, Bool.and_eq_true, decide_eq_true_eq] at h2
  have hx := h3 x (List.mem_cons_self ..)
  have e0 : pre ++ putR last (x :: l) ++ post = pre ++ put (x - last - 1).toNat ++ (putR x l ++ post) := by simp [putR]
  have e1 := get_put pre (putR x l ++ post) (n := (x - last - 1).toNat) (by omega)
  have e2 : pre ++ put (x - last - 1).toNat ++ (putR x l ++ post) = (pre ++ put (x - last - 1).toNat) ++ putR x l ++ post := by simp
  have ih := getRL_put l (pre ++ put (x - last - 1).toNat) post x (by omega) h2.2 (fun y hy => h3 y (List.mem_cons_of_mem _ hy))
  rw [e0, List.length_cons, getRL_next (by rw [e1]) (by rw [e1]; simp only; omega), e1]
  simp only
  have e3 : last + 1 + (((x - last - 1).toNat : Nat) : Int) = x := by omega
  rw [e3, e2, show ((pre.length + (put (x - last - 1).toNat).length : Nat) : Int) = ((pre ++ put (x - last - 1).toNat).length : Int) from by simp, ih]
  simp [putR]; omega
theorem getRising_put (pre post : List UInt8) {l : List Int} (hr : rises (-1) l = true) (h3 : ∀ x ∈ l, x ≤ 4611686018427387904) (hl : l.length ≤ 9223372036854775807) :
  getRising (pre ++ putRising l ++ post) pre.length = (0, l, ((pre.length + (putRising l).length : Nat) : Int)) := by
 have e0 : pre ++ putRising l ++ post = pre ++ put l.length ++ (putR (-1) l ++ post) := by simp [putRising]
 have e1 := get_put pre (putR (-1) l ++ post) (n := l.length) hl
 have e2 : pre ++ put l.length ++ (putR (-1) l ++ post) = (pre ++ put l.length) ++ putR (-1) l ++ post := by simp
 unfold getRising
 rw [e0, e1, if_neg (by simp)]
 simp only
 have := getRL_put l (pre ++ put l.length) post (-1) (by omega) hr h3
 rw [e2, show ((pre.length + (put l.length).length : Nat) : Int) = ((pre ++ put l.length).length : Int) from by simp, Int.toNat_natCast, this]
 simp [putRising]; omega
end Go.K
namespace Go.K
set_option linter.unusedVariables false
set_option linter.unusedSimpArgs false
abbrev Po := Int × List Int
abbrev Bl := Int × Int × Int × Int
abbrev Li := List UInt8 × List Bl × Int
abbrev RT.po : RT Po := RT.pair (RT.int .i64) ((RT.int .i64).sl)
abbrev RT.bl : RT Bl := RT.pair (RT.int .i64) (RT.pair (RT.int .i64) (RT.pair (RT.int .i64) (RT.int .i64)))
abbrev RT.li : RT Li := RT.pair (RT.u8.sl) (RT.pair ((RT.bl).sl) (RT.int .i64))
theorem po0 : Part RT.po (RT.int .i64) (fun p => p.1) 0 := Part.fst _ _
theorem po1 : Part RT.po ((RT.int .i64).sl) (fun p => p.2) 1 := Part.snd _ _
theorem bl0 : Part RT.bl (RT.int .i64) (fun b => b.1) 0 := Part.fst _ _
theorem bl1 : Part RT.bl (RT.int .i64) (fun b => b.2.1) 1 := (Part.snd _ _).trans (Part.fst _ _)
theorem bl2 : Part RT.bl (RT.int .i64) (fun b => b.2.2.1) 2 := (Part.snd _ _).trans ((Part.snd _ _).trans (Part.fst _ _))
theorem bl3 : Part RT.bl (RT.int .i64) (fun b => b.2.2.2) 3 := (Part.snd _ _).trans ((Part.snd _ _).trans (Part.snd _ _))
theorem li0 : Part RT.li (RT.u8.sl) (fun x => x.1) 0 := Part.fst _ _
theorem li1 : Part RT.li ((RT.bl).sl) (fun x => x.2.1) 1 := (Part.snd _ _).trans (Part.fst _ _)
def isB (n : Nat) (k : Int) : Bool := decide (0 ≤ k ∧ k < n)
def lastB (bs : List Bl) (k : Int) : Int := if isB bs.length k then (bs.getD k.toNat (0, 0, 0, 0)).2.2.1 else -1
def sumN (bs : List Bl) : Int := (bs.map fun b => b.2.2.2).sum
theorem sumN_snoc (bs : List Bl) (b : Bl) : sumN (bs ++ [b]) = sumN bs + b.2.2.2 := by simp [sumN]
theorem sumN_take {bs : List Bl} {k : Nat} {b : Bl} (h : bs[k]? = some b) : sumN (bs.take (k + 1)) = sumN (bs.take k) + b.2.2.2 := by
 obtain ⟨h1, h2⟩ := List.getElem?_eq_some_iff.1 h
 rw [List.take_succ_eq_append_getElem h1, h2, sumN_snoc]
theorem sumN_le (bs : List Bl) (h : ∀ b ∈ bs, 0 ≤ b.2.2.2 ∧ b.2.2.2 ≤ 8) : 0 ≤ sumN bs ∧ sumN bs ≤ 8 * bs.length := by
 induction bs with
 |nil => simp [sumN]
 |cons b bs ih =>
  have := ih fun c hc => h c (List.mem_cons_of_mem _ hc)
  have h0 := h b (List.mem_cons_self ..)
  simp only [sumN, List.map_cons, List.sum_cons, List.length_cons] at this ⊢
  omega
def putPo : Int → List Po → List UInt8
 |_, [] => []
 |last, (d, ps) :: l => put (d - last - 1).toNat ++ putRising ps ++ putPo d l
def lastPo : Int → List Po → Int
 |last, [] => last
 |_, (d, _) :: l => lastPo d l
def totPo (l : List Po) : Int := (l.map fun p => (p.2.length : Int)).sum
theorem putPo_append (l l' : List Po) (last : Int) : putPo last (l ++ l') = putPo last l ++ putPo (lastPo last l) l' := by
 induction l generalizing last with
 |nil => rfl
 |cons p l ih => obtain ⟨d, ps⟩ := p; simp [putPo, lastPo, ih]
theorem lastPo_append (l l' : List Po) (last : Int) : lastPo last (l ++ l') = lastPo (lastPo last l) l' := by
 induction l generalizing last with
 |nil => rfl
 |cons p l ih => obtain ⟨d, ps⟩ := p; simp [lastPo, ih]
theorem totPo_append (l l' : List Po) : totPo (l ++ l') = totPo l + totPo l' := by simp [totPo]
def blkOf (l : List Po) (k : Nat) : Bl := ((putPo (-1) (l.take (8 * k))).length, lastPo (-1) (l.take (8 * k)), lastPo (-1) (l.take (8 * k + 8)), ((l.drop (8 * k)).take 8).length)
def blks (l : List Po) (m : Nat) : List Bl := (List.range m).map (blkOf l)
def mkLi (l : List Po) : Li := (putPo (-1) l, blks l ((l.length + 7) / 8), totPo l)
def risesB (l : List Int) : Bool := rises (-1) l && l.all (fun n => decide (n < 2147483648))
def mayPo : Int → List Po → Bool
 |_, [] => true
 |last, (d, ps) :: l => decide (last < d) && decide (d < 2147483648) && !ps.isEmpty && risesB ps && mayPo d l
theorem may_at : ∀ {l : List Po} {i : Nat} {last d : Int} {ps : List Int}, mayPo last l = true → l[i]? = some (d, ps) →
  lastPo last (l.take i) < d ∧ d < 2147483648 ∧ ps ≠ [] ∧ risesB ps = true ∧ lastPo last (l.take (i + 1)) = d ∧ last ≤ lastPo last (l.take i)
 |[], i, _, _, _, _, h => by simp at h
 |(d0, p0) :: l, 0, last, d, ps, hm, h => by
  simp only [List.getElem?_cons_zero, Option.some.injEq, Prod.mk.injEq] at h
  obtain ⟨rfl, rfl⟩ := h
  simp only [mayPo, Bool.and_eq_true, decide_eq_true_eq] at hm
  obtain ⟨⟨⟨⟨h1, h2⟩, h3⟩, h4⟩, h5⟩ := hm
  refine ⟨h1, h2, ?_, h4, by simp [lastPo], by simp [lastPo]⟩
  rintro rfl; simp at h3
 |(d0, p0) :: l, i + 1, last, d, ps, hm, h => by
  simp only [mayPo, Bool.and_eq_true, decide_eq_true_eq] at hm
  obtain ⟨⟨⟨⟨h1, h2⟩, h3⟩, h4⟩, h5⟩ := hm
  obtain ⟨a1, a2, a3, a4, a5, a6⟩ := may_at (i := i) h5 (by simpa using h)
  refine ⟨by simpa [lastPo] using a1, a2, a3, a4, by simpa [lastPo] using a5, ?_⟩
  simp only [List.take_succ_cons, lastPo]; omega
theorem putPo_take {l : List Po} {i : Nat} {d : Int} {ps : List Int} (last : Int) (h : l[i]? = some (d, ps)) :
  putPo last (l.take (i + 1)) = putPo last (l.take i) ++ put (d - lastPo last (l.take i) - 1).toNat ++ putRising ps := by
 obtain ⟨h1, h2⟩ := List.getElem?_eq_some_iff.1 h
 rw [List.take_succ_eq_append_getElem h1, h2, putPo_append]; simp [putPo]
theorem putPo_split {l : List Po} {i : Nat} (last : Int) : putPo last l = putPo last (l.take i) ++ putPo (lastPo last (l.take i)) (l.drop i) := by
 conv => lhs; rw [← List.take_append_drop i l]
 exact putPo_append _ _ _
theorem risesB_iff {l : List Int} : risesB l = true ↔ rises (-1) l = true ∧ ∀ x ∈ l, x < 2147483648 := by
 simp [risesB]
def takeP (b : List UInt8) (at_ ahead : Int) : Po × Int × Int :=
 if (get b at_).2.2 ≠ 0 then ((0, []), 0, (get b at_).2.2)
 else ((IntKind.i64.wrap (IntKind.i64.wrap (ahead + 1) + (get b at_).1), (getRising b (get b at_).2.1).2.1), (getRising b (get b at_).2.1).2.2, (getRising b (get b at_).2.1).1)
theorem takeP_at {l : List Po} {i : Nat} {d : Int} {ps : List Int} (hm : mayPo (-1) l = true) (h : l[i]? = some (d, ps)) (hl : ps.length ≤ 1099511627776) :
  takeP (putPo (-1) l) (((putPo (-1) (l.take i)).length : Nat) : Int) (lastPo (-1) (l.take i)) = ((d, ps), (((putPo (-1) (l.take (i + 1))).length : Nat) : Int), 0) := by
 obtain ⟨h1, h2, h3, h4, h5, h6⟩ := may_at hm h
 obtain ⟨h7, h8⟩ := risesB_iff.1 h4
 have e1 := putPo_split (l := l) (i := i + 1) (-1)
 have e2 := putPo_take (-1) h
 generalize hla : lastPo (-1) (l.take i) = last at h1 h6 e2 ⊢
 generalize hpre : putPo (-1) (l.take i) = pre at e2 ⊢
 generalize putPo (lastPo (-1) (l.take (i + 1))) (l.drop (i + 1)) = post at e1
 rw [e2] at e1 ⊢
 have g1 := get_put pre (putRising ps ++ post) (n := (d - last - 1).toNat) (by omega)
 have g2 := getRising_put (pre ++ put (d - last - 1).toNat) post h7 (fun x hx => by have := h8 x hx; omega) (by omega)
 rw [show pre ++ put (d - last - 1).toNat ++ (putRising ps ++ post) = putPo (-1) l from by rw [e1]; simp] at g1
 rw [← e1] at g2
 unfold takeP
 rw [g1]
 simp only [ne_eq, not_true_eq_false, if_false]
 have hpl : ((pre.length + (put (d - last - 1).toNat).length : Nat) : Int) = ((pre ++ put (d - last - 1).toNat).length : Int) := by simp
 rw [hpl, g2]
 refine Prod.ext (Prod.ext ?_ rfl) (Prod.ext ?_ rfl)
 ·simp only
  rw [IntWalk.i64_in (last + 1) (by omega), IntWalk.i64_in _ (by omega)]; omega
 ·simp; omega
theorem all_drop {l : List Int} {k : Nat} {x : Int} (p : Int → Bool) (h : l[k]? = some x) : (l.drop k).all p = (p x && (l.drop (k + 1)).all p) := by
 obtain ⟨h1, h2⟩ := List.getElem?_eq_some_iff.1 h
 rw [List.drop_eq_getElem_cons h1, h2, List.all_cons]
theorem mayPo_drop {l : List Po} {k : Nat} {d : Int} {ps : List Int} (h : l[k]? = some (d, ps)) (last : Int) :
  mayPo last (l.drop k) = (decide (last < d) && decide (d < 2147483648) && !ps.isEmpty && risesB ps && mayPo d (l.drop (k + 1))) := by
 obtain ⟨h1, h2⟩ := List.getElem?_eq_some_iff.1 h
 rw [List.drop_eq_getElem_cons h1, h2, mayPo]
theorem totPo_take {l : List Po} {i : Nat} {d : Int} {ps : List Int} (h : l[i]? = some (d, ps)) : totPo (l.take (i + 1)) = totPo (l.take i) + ps.length := by
 obtain ⟨h1, h2⟩ := List.getElem?_eq_some_iff.1 h
 rw [List.take_succ_eq_append_getElem h1, h2, totPo_append]; simp [totPo]
theorem totPo_nonneg (l : List Po) : 0 ≤ totPo l := by
 induction l with
 |nil => simp [totPo]
 |cons p l ih => simp only [totPo, List.map_cons, List.sum_cons] at ih ⊢; omega
theorem totPo_le (l : List Po) (i : Nat) : 0 ≤ totPo (l.take i) ∧ totPo (l.take i) ≤ totPo l := by
 refine ⟨totPo_nonneg _, ?_⟩
 conv => rhs; rw [← List.take_append_drop i l, totPo_append]
 have := totPo_nonneg (l.drop i)
 omega
theorem putPo_take_le (l : List Po) (i : Nat) : (putPo (-1) (l.take i)).length ≤ (putPo (-1) l).length := by
 rw [putPo_split (l := l) (i := i) (-1)]; simp
theorem blks_succ (l : List Po) (k : Nat) : blks l (k + 1) = blks l k ++ [blkOf l k] := by simp [blks, List.range_succ]
theorem lastPo_rng : ∀ (l : List Po) (last : Int), mayPo last l = true → last < 2147483648 → ∀ n : Nat, last ≤ lastPo last (l.take n) ∧ lastPo last (l.take n) < 2147483648
 |[], last, _, h, n => by simp [lastPo]; exact h
 |(d, ps) :: l, last, hm, h, 0 => by simp [lastPo]; exact h
 |(d, ps) :: l, last, hm, h, n + 1 => by
  simp only [mayPo, Bool.and_eq_true, decide_eq_true_eq] at hm
  obtain ⟨⟨⟨⟨h1, h2⟩, h3⟩, h4⟩, h5⟩ := hm
  have := lastPo_rng l d h5 h2 n
  simp only [List.take_succ_cons, lastPo]; omega
theorem V_bl {M : PSet} {w : World} {a b c d : Int} (ha : -9223372036854775808 ≤ a ∧ a ≤ 9223372036854775807) (hb : -9223372036854775808 ≤ b ∧ b ≤ 9223372036854775807) (hc : -9223372036854775808 ≤ c ∧ c ≤ 9223372036854775807) (hd : -9223372036854775808 ≤ d ∧ d ≤ 9223372036854775807) :
  RT.bl.V M w (a, b, c, d) (.agg [.int .i64 a, .int .i64 b, .int .i64 c, .int .i64 d].toArray) :=
 ⟨_, ⟨[.int .i64 a], [.int .i64 b, .int .i64 c, .int .i64 d], rfl, ⟨rfl, ha⟩, [.int .i64 b], [.int .i64 c, .int .i64 d], rfl, ⟨rfl, hb⟩, [.int .i64 c], [.int .i64 d], rfl, ⟨rfl, hc⟩, ⟨rfl, hd⟩⟩, rfl⟩
theorem li_mk {M : PSet} {w : World} {bx : Nat} {b : List UInt8} {ks : List Bl} {tot : Int} {vb vk : Value} {e : TypeId} {fr : Nat × Nat} (hx : w.heap[bx]? = some (.cells #[vb, vk, .int .i64 tot] e fr)) (hm : ¬ M bx) (hb : (RT.u8.sl).V M w b vb) (hk : ((RT.bl).sl).V M w ks vk) (ht : -9223372036854775808 ≤ tot ∧ tot ≤ 9223372036854775807) :
  PtrTo RT.li M w (.pointer (some ⟨bx, 0, none⟩)) (b, ks, tot) :=
 ⟨bx, 0, [vb, vk, .int .i64 tot], rfl, hm, ⟨[vb], [vk, .int .i64 tot], rfl, V_cell hb rfl rfl, [vk], [.int .i64 tot], rfl, V_cell hk rfl rfl, ⟨rfl, ht⟩⟩, fun j v hj => cell_at hx (by simpa using hj)⟩
theorem blk_next {l : List Po} {i : Nat} (h8 : i % 8 = 0) (hi : i < l.length) : blks l ((i + 7) / 8) ++ [(((putPo (-1) (l.take i)).length : Int), lastPo (-1) (l.take i), lastPo (-1) (l.take (min (i + 8) l.length)), (((l.drop i).take 8).length : Int))] = blks l ((min (i + 8) l.length + 7) / 8) := by
 rw [show (min (i + 8) l.length + 7) / 8 = (i + 7) / 8 + 1 from by omega, blks_succ]
 have e : 8 * ((i + 7) / 8) = i := by omega
 have e2 : l.take (i + 8) = l.take (min (i + 8) l.length) := by rw [List.take_eq_take_iff]; omega
 simp only [blkOf, e, e2]
theorem sumN_blks (l : List Po) : ∀ m : Nat, sumN (blks l m) = ((min (8 * m) l.length : Nat) : Int)
 |0 => by simp [sumN, blks]
 |m + 1 => by
  rw [blks_succ, sumN_snoc, sumN_blks l m]
  simp only [blkOf, List.length_take, List.length_drop]; omega
theorem blks_many (l : List Po) (m : Nat) : ∀ b ∈ blks l m, 0 ≤ b.2.2.2 ∧ b.2.2.2 ≤ 8 := fun b hb => by
 simp only [blks, List.mem_map] at hb
 obtain ⟨k, _, rfl⟩ := hb
 simp only [blkOf, List.length_take, List.length_drop]; omega
theorem lastPo_mono : ∀ (l : List Po) (last : Int) (n m : Nat), mayPo last l = true → last < 2147483648 → n ≤ m → lastPo last (l.take n) ≤ lastPo last (l.take m)
 |[], last, n, m, _, _, _ => by simp
 |(d, ps) :: l, last, 0, m, hm, h, _ => by
  have := (lastPo_rng ((d, ps) :: l) last hm h m).1
  simpa [lastPo] using this
 |(d, ps) :: l, last, n + 1, 0, _, _, h => by omega
 |(d, ps) :: l, last, n + 1, m + 1, hm, h, hnm => by
  simp only [mayPo, Bool.and_eq_true, decide_eq_true_eq] at hm
  obtain ⟨⟨⟨⟨h1, h2⟩, h3⟩, h4⟩, h5⟩ := hm
  simpa [lastPo] using lastPo_mono l d n m h5 h2 (by omega)
theorem lastB_mk {g : List Po} {k : Nat} (hk : k < (g.length + 7) / 8) : lastB (mkLi g).2.1 (k : Int) = lastPo (-1) (g.take (8 * k + 8)) := by
 have hl : (mkLi g).2.1.length = (g.length + 7) / 8 := by simp [mkLi, blks]
 have hb : (mkLi g).2.1[k]? = some (blkOf g k) := by simp only [mkLi, blks, List.getElem?_map]; rw [List.getElem?_range hk]; rfl
 unfold lastB isB
 rw [if_pos (by rw [hl]; simp; omega), Int.toNat_natCast, List.getD_eq_getElem?_getD, hb]; rfl
end Go.K
namespace Go.K
set_option linter.unusedVariables false
set_option linter.unusedSimpArgs false
section
variable {P : Program} {r : Option Nat} {n : Nat} {L : Sl} {ds : List Deferred} {w : World} {K : Kt} {ops : Array Oper} {rest : List Oper} {d : Nat} {x y : Operand} {ty : TypeId} {pos : String} {af : Array Edge}
theorem Rg.ptreq {t t' e : TypeId} {p : Option Addr} (ht : P.underlying t = some (.pointer e)) (hx : ev L x = some (.pointer p)) (hy : ev L y = some (.pointer none)) (hd : Nat.blt d n = true)
  (k : Rg P r n ops rest ((d, .bool (decide (p = none))) :: L) ds w K) :
  Rg P r n ops ({ dst := some d, op := .binOp .eql t x y t', type := ty, pos, after := af, guard := none } :: rest) L ds w K :=
 .op (fun _ h => by cases h) rfl rfl hd _ w (fun ρ h => by
  have hpe : P.underlying t = some (.pointer (P.pointee t)) := by simp [Program.pointee, ht]
  have he := run_equal_pointer_nil (P := P) w t p hpe
  simp only [execOp]; rw [h x _ hx, h y _ hy]
  cases p <;> simp [eqGuard, binOp, run_underlying ht, he]) k
end
end Go.K
namespace Go.K
set_option linter.unusedVariables false
set_option linter.unusedSimpArgs false
def idx : List Po → Int → Nat
 |[], _ => 0
 |p :: l, to => if p.1 < to then idx l to + 1 else 0
theorem idx_le : ∀ (l : List Po) (to : Int), idx l to ≤ l.length
 |[], _ => Nat.le_refl _
 |p :: l, to => by
  have := idx_le l to
  simp only [idx, List.length_cons]; split <;> omega
theorem idx_lt : ∀ {l : List Po} {to : Int} {j : Nat} {p : Po}, j < idx l to → l[j]? = some p → p.1 < to
 |[], _, _, _, h, _ => by simp [idx] at h
 |q :: l, to, j, p, h, hp => by
  simp only [idx] at h
  split at h
  ·cases j with
   |zero => simp at hp; subst hp; assumption
   |succ j => exact idx_lt (l := l) (j := j) (by omega) (by simpa using hp)
  ·omega
theorem idx_ge : ∀ {l : List Po} {to : Int} {p : Po}, l[idx l to]? = some p → to ≤ p.1
 |[], _, _, h => by simp [idx] at h
 |q :: l, to, p, h => by
  simp only [idx] at h
  split at h
  ·exact idx_ge (by simpa using h)
  ·simp at h; subst h; omega
theorem idx_min : ∀ {l : List Po} {to : Int} {e : Nat} {p : Po}, l[e]? = some p → to ≤ p.1 → idx l to ≤ e
 |[], _, _, _, h, _ => by simp at h
 |q :: l, to, e, p, h, hp => by
  simp only [idx]
  split
  ·cases e with
   |zero => simp at h; subst h; omega
   |succ e => have := idx_min (l := l) (e := e) (by simpa using h) hp; omega
  ·omega
theorem idx_eq {l : List Po} {to : Int} {i : Nat} (h1 : ∀ j, j < i → ∀ p, l[j]? = some p → p.1 < to) (h2 : ∀ p, l[i]? = some p → to ≤ p.1) (h3 : i ≤ l.length) : idx l to = i := by
 rcases Nat.lt_trichotomy (idx l to) i with h | h | h
 ·have hx : l[idx l to]? = some l[idx l to] := List.getElem?_eq_getElem (by omega)
  have := idx_ge hx; have := h1 _ h _ hx; omega
 ·exact h
 ·have := idx_le l to
  have hx : l[i]? = some l[i] := List.getElem?_eq_getElem (by omega)
  have := idx_lt h hx; have := h2 _ hx; omega
def docAt (l : List Po) (i : Int) : Int := if i < 0 then -1 else match l[i.toNat]? with | some p => p.1 | none => 2147483648
def placesAt (l : List Po) (i : Int) : List Int := if i < 0 then [] else match l[i.toNat]? with | some p => p.2 | none => []
def leftAt (l : List Po) (i : Int) : List Po := if i < 0 then [] else (l.drop i.toNat).take (8 - i.toNat % 8)
def advI (l : List Po) (i to : Int) : Int := if to ≤ docAt l i then i else idx l to
theorem doc_rng {l : List Po} {i : Nat} {d : Int} {ps : List Int} (hm : mayPo (-1) l = true) (h : l[i]? = some (d, ps)) : 0 ≤ d ∧ d < 2147483648 := by
 obtain ⟨f1, f2, f3, f4, f5, f6⟩ := may_at hm h; omega
theorem docAt_get {l : List Po} {i : Nat} {d : Int} {ps : List Int} (h : l[i]? = some (d, ps)) : docAt l (i : Int) = d := by
 unfold docAt; rw [if_neg (by omega), Int.toNat_natCast, h]
theorem docAt_neg {l : List Po} {i : Int} (h : i < 0) : docAt l i = -1 := by unfold docAt; rw [if_pos h]
theorem docAt_end {l : List Po} {i : Int} (h : (l.length : Int) ≤ i) : docAt l i = 2147483648 := by
 unfold docAt; rw [if_neg (by omega), List.getElem?_eq_none (by omega)]
theorem docAt_cases (l : List Po) (i : Int) : (i < 0 ∧ docAt l i = -1 ∧ placesAt l i = []) ∨ (∃ j : Nat, ∃ d ps, i = j ∧ l[j]? = some (d, ps) ∧ docAt l i = d ∧ placesAt l i = ps) ∨ ((l.length : Int) ≤ i ∧ docAt l i = 2147483648 ∧ placesAt l i = []) := by
 by_cases h0 : i < 0
 ·exact .inl ⟨h0, docAt_neg h0, by unfold placesAt; rw [if_pos h0]⟩
 ·by_cases h1 : (l.length : Int) ≤ i
  ·exact .inr (.inr ⟨h1, docAt_end h1, by unfold placesAt; rw [if_neg h0, List.getElem?_eq_none (by omega)]⟩)
  ·obtain ⟨j, rfl⟩ : ∃ j : Nat, i = j := ⟨i.toNat, by omega⟩
   obtain ⟨⟨d, ps⟩, hx⟩ : ∃ x, l[j]? = some x := ⟨_, List.getElem?_eq_getElem (by omega)⟩
   exact .inr (.inl ⟨j, d, ps, rfl, hx, docAt_get hx, by unfold placesAt; rw [if_neg h0, Int.toNat_natCast, hx]⟩)
theorem docAt_rng {l : List Po} (hm : mayPo (-1) l = true) (i : Int) : -1 ≤ docAt l i ∧ docAt l i ≤ 2147483648 := by
 rcases docAt_cases l i with ⟨_, h, _⟩ | ⟨j, d, ps, rfl, hx, h, _⟩ | ⟨_, h, _⟩
 ·omega
 ·have := doc_rng hm hx; omega
 ·omega
theorem lastPo_at {g : List Po} {i : Nat} {d : Int} {ps : List Int} (h : g[i]? = some (d, ps)) (last : Int) : lastPo last (g.take (i + 1)) = d := by
 obtain ⟨h1, h2⟩ := List.getElem?_eq_some_iff.1 h
 rw [List.take_succ_eq_append_getElem h1, h2, lastPo_append]; rfl
theorem last_lt {l : List Po} (hm : mayPo (-1) l = true) {t s : Nat} {p : Po} (hp : l[t]? = some p) (hts : t < s) : p.1 ≤ lastPo (-1) (l.take s) := by
 obtain ⟨d, ps⟩ := p
 rw [← lastPo_at hp (-1)]
 exact lastPo_mono l (-1) (t + 1) s hm (by decide) hts
theorem docs_lt {l : List Po} (hm : mayPo (-1) l = true) {t s : Nat} {p q : Po} (hp : l[t]? = some p) (hq : l[s]? = some q) (hts : t < s) : p.1 < q.1 := by
 obtain ⟨e, qs⟩ := q
 have h1 := last_lt hm hp hts
 have h2 := (may_at hm hq).1
 omega
theorem adv_block {l lf : List Po} (hm : mayPo (-1) l = true) {s k : Nat} {to : Int} (h1 : 8 * k ≤ s) (h2 : s < 8 * k + 8) (hs : s < l.length) (hlo : lastPo (-1) (l.take s) < to) (hhi : to ≤ lastPo (-1) (l.take (8 * k + 8)))
  (hlf : lf = (l.drop s).take (8 * k + 8 - s)) : idx l to = s + idx lf to ∧ idx lf to < lf.length ∧ idx l to < l.length ∧ idx l to / 8 = k ∧ lf.drop (idx lf to) = leftAt l (idx l to : Nat) := by
 have hj1 : s ≤ idx l to := by
  rcases Nat.lt_or_ge (idx l to) s with h | h
  ·have hx : l[idx l to]? = some l[idx l to] := List.getElem?_eq_getElem (by omega)
   have := idx_ge hx
   have := last_lt hm hx h; omega
  ·exact h
 obtain ⟨⟨d, ps⟩, he⟩ : ∃ x, l[min (8 * k + 8) l.length - 1]? = some x := ⟨_, List.getElem?_eq_getElem (by omega)⟩
 have hde : lastPo (-1) (l.take (8 * k + 8)) = d := by
  rw [← lastPo_at he (-1), show l.take (8 * k + 8) = l.take (min (8 * k + 8) l.length - 1 + 1) from by rw [List.take_eq_take_iff]; omega]
 have hj2 := idx_min he (to := to) (by simp only; omega)
 have hll : lf.length = min (8 * k + 8 - s) (l.length - s) := by rw [hlf, List.length_take, List.length_drop]
 have hget : ∀ t, t < lf.length → lf[t]? = l[s + t]? := fun t ht => by rw [hlf, List.getElem?_take, if_pos (by omega), List.getElem?_drop]
 have hif : idx lf to = idx l to - s := by
  refine idx_eq (fun j hj p hp => ?_) (fun p hp => ?_) (by omega)
  ·have hjl := (List.getElem?_eq_some_iff.1 hp).1
   rw [hget j hjl] at hp
   exact idx_lt (by omega) hp
  ·have hjl := (List.getElem?_eq_some_iff.1 hp).1
   rw [hget _ hjl, show s + (idx l to - s) = idx l to from by omega] at hp
   exact idx_ge hp
 refine ⟨by omega, by omega, by omega, by omega, ?_⟩
 unfold leftAt
 rw [if_neg (by omega), Int.toNat_natCast, hif, hlf, List.drop_take, List.drop_drop, show s + (idx l to - s) = idx l to from by omega, List.take_eq_take_iff, List.length_drop]
 omega
theorem adv_end {l : List Po} (hm : mayPo (-1) l = true) {to : Int} {n : Nat} (hn : l.length ≤ n) (hlo : lastPo (-1) (l.take n) < to) : idx l to = l.length := by
 refine idx_eq (fun j hj p hp => ?_) (fun p hp => ?_) (Nat.le_refl _)
 ·have := last_lt hm hp (s := n) (by omega); omega
 ·simp at hp
theorem adv_start {l : List Po} (hm : mayPo (-1) l = true) {i k to : Int} (hi : -1 ≤ i ∧ i ≤ l.length) (hk : -1 ≤ k ∧ k < ((l.length + 7) / 8 : Nat)) (hk0 : i < 0 → k = -1) (hk1 : 0 ≤ i → i < l.length → k = i / 8) (hto : docAt l i < to) :
  lastPo (-1) (l.take (8 * (max k 0).toNat)) < to := by
 rcases docAt_cases l i with ⟨h0, h, _⟩ | ⟨j, d, ps, rfl, hx, h, _⟩ | ⟨h0, h, _⟩
 ·rw [hk0 h0]
  simp only [show (max (-1 : Int) 0).toNat = 0 from by decide, Nat.mul_zero, List.take_zero, lastPo]; omega
 ·have hj := (List.getElem?_eq_some_iff.1 hx).1
  have hkk := hk1 (by omega) (by omega)
  have h2 := (may_at hm hx).1
  have h3 := lastPo_mono l (-1) (8 * (max k 0).toNat) j hm (by decide) (by omega)
  omega
 ·have := (lastPo_rng l (-1) hm (by decide) (8 * (max k 0).toNat)).2; omega
def Cu (T : TypeId) (l : List Po) (i : Int) (M : PSet) (w : World) (bc : Nat) : Prop :=
 ∃ (p u : Value) (k cnt : Int), M bc ∧ w.heap[bc]? = some (.cells #[p, .int .i64 k, u, .int .i64 (docAt l i), .int .i64 cnt] T (0, 0)) ∧ PtrTo RT.li M w p (mkLi l) ∧ ((RT.po).sl).V M w (leftAt l i) u ∧
  (-1 ≤ i ∧ i ≤ l.length) ∧ (-1 ≤ k ∧ k < ((l.length + 7) / 8 : Nat)) ∧ (i < 0 → k = -1) ∧ (0 ≤ i → i < l.length → k = i / 8)
theorem Cu.step {T : TypeId} {l : List Po} {i : Int} {M M' N : PSet} {w w' : World} {bc : Nat} (h : Cu T l i M w bc) (s : Step M w M' w' N) (hn : ¬ N bc) : Cu T l i M' w' bc := by
 obtain ⟨p, u, k, cnt, h1, h2, h3, h4, h5⟩ := h
 exact ⟨p, u, k, cnt, (s.mem bc (lt_of_get h2)).2 h1, s.keep h2 hn, h3.le (by decide) s.le, h4.le s.le, h5⟩
theorem po_val {M : PSet} {w : World} {d : Int} {ps : List Int} {v : Value} (h : RT.po.V M w (d, ps) v) : ∃ u, v = .agg #[.int .i64 d, u] ∧ u.oneCell' = true ∧ (-9223372036854775808 ≤ d ∧ d ≤ 9223372036854775807) := by
 obtain ⟨vs, ⟨va, vb, rfl, ⟨rfl, hd⟩, hb⟩, rfl⟩ := h
 obtain ⟨a, cap, rfl, _⟩ := hb
 exact ⟨_, rfl, rfl, hd⟩
end Go.K
namespace Go.K
set_option linter.unusedVariables false
set_option linter.unusedSimpArgs false
section
variable {P : Program} {r : Option Nat} {n : Nat} {L : Sl} {ds : List Deferred} {w : World}
theorem KretC1 {fn : Func} {Q : Value → World → Prop} {c t b : Nat} {vs : List Value} {fs : TypeDesc} {e : TypeId} {fr : Nat × Nat} {zv : Value} {size bytes : Nat} (hr : fn.results = #[.cell c t]) (hc : lk L c = some (.pointer (some ⟨b, 0, none⟩))) (hu : P.underlying t = some fs) (hf : fs.isRow = true) (hi : TI P t zv size bytes) (hl : vs.length = size)
  (hb : w.heap[b]? = some (.cells vs.toArray e fr)) (h : Q (.agg vs.toArray) w) : Kret P fn Q .ret L [] w :=
 ⟨rfl, fun a ha => ⟨_, by
  obtain ⟨i, hi1, _, hi2, _⟩ := hi.get
  have hrng : w.rangeAt b 0 vs := fun j v hj => cell_at hb (by simpa using hj)
  have := run_loadVar_mid (P := P) w b 0 t vs fs hrng hu hf (by simp [hi1, hi2, hl])
  simp [results, hr, ha _ _ hc, asAddr, this, Sem.run_bind], h⟩⟩
end
end Go.K
namespace Go.K
set_option linter.unusedVariables false
set_option linter.unusedSimpArgs false
section
variable {P : Program} {r : Option Nat} {n : Nat} {L : Sl} {ds : List Deferred} {w : World} {K : Kt} {ops : Array Oper} {rest : List Oper} {d : Nat} {x : Operand} {ty : TypeId} {pos : String} {af : Array Edge}
theorem Rg.lenraw {t e : TypeId} {a : Option Addr} {l c : Nat} (ht : P.underlying t = some (.slice e)) (hx : ev L x = some (.slice a l c)) (hd : Nat.blt d n = true)
  (k : Rg P r n ops rest ((d, .int .i64 (l : Int)) :: L) ds w K) :
  Rg P r n ops ({ dst := some d, op := .call { callee := .builtin .len, args := #[x], argTypes := #[t] }, type := ty, pos, after := af, guard := none } :: rest) L ds w K := by
 refine .op (fun _ h => by cases h) rfl rfl hd _ w (fun ρ h => ?_) k
 simp [execOp, resolve, invoke, builtin, h x _ hx, Builtin.len_, run_underlying ht, goInt]
end
end Go.K
namespace Go.K
set_option linter.unusedVariables false
set_option linter.unusedSimpArgs false
open Go.RowKit (Below)
open Go.Maps (Keyed)
open Go.ChangeMaps (putKey delKey notKey)
abbrev DU := DataW Unit
structure MapO (P : Program) (k : TypeId) (R : Value → Option (DU × List MemPlace)) (M : PSet) (w : World) (b : Nat) (m : List (Lit × DU)) : Prop where
 mut_ : M b
 own : w.ownsMap P k R b m.length (.map m)
section
variable {P : Program} {r : Option Nat} {n : Nat} {L : Sl} {ds : List Deferred} {w : World} {K : Kt} {ops : Array Oper} {rest : List Oper} {d : Nat} {x y z : Operand} {ty : TypeId} {pos : String} {af : Array Edge}
variable {kt : TypeId} {R : Value → Option (DU × List MemPlace)} {M : PSet} {b : Nat} {m : List (Lit × DU)}
theorem Step.below' {w w' : World} (h : Below w.heap.size w w') (M : PSet) : Step M w M w' none' :=
 ⟨fun h0 b hb => Nat.lt_of_lt_of_le (h0 b hb) h.size, h.os, h.tape, h.output, h.size, fun _ _ => Iff.rfl, fun b hb _ => h.block b hb, fun _ h => h.elim⟩
end
end Go.K
namespace Go.K
set_option linter.unusedVariables false
set_option linter.unusedSimpArgs false
def allM : PSet := fun _ => True
theorem Step.all {M M' N : PSet} {w w' : World} (s : Step M w M' w' N) : Step allM w allM w' N := ⟨fun h => absurd (h w.heap.size trivial) (Nat.lt_irrefl _), s.os, s.tape, s.output, s.size, fun _ _ => Iff.rfl, s.same, fun _ _ => trivial⟩
theorem Step.toAny {M M' : PSet} {w w' : World} (s : Step M w M' w' none') (M1 : PSet) : Step M1 w M1 w' none' := s.any M1
theorem AllR.int {κ : IntKind} {M M' : PSet} {w w' : World} : ∀ {xs : List Int} {C : List Value}, AllR (RT.int κ) M w xs C → AllR (RT.int κ) M' w' xs C
 |[], _, h => h
 |x :: xs, C, h => by
  obtain ⟨vs, r, h1, h2, h3⟩ := h
  exact ⟨vs, r, h1, h2, AllR.int h3⟩
theorem Own.alli {κ : IntKind} {e : TypeId} {M : PSet} {w : World} {base : Nat} {v : Value} {xs : List Int} (h : Own (RT.int κ) e M w base v xs) {M' : PSet} (hm : ∀ b, v.ownBlock = some b → M' b) : Own (RT.int κ) e M' w base v xs := by
 obtain ⟨⟨C, h1, h2⟩, _⟩ := h
 exact ⟨⟨C, h1, AllR.int h2⟩, hm⟩
theorem Own.keepi {κ : IntKind} {e : TypeId} {N : PSet} {w w' : World} {base : Nat} {v : Value} {xs : List Int} (h : Own (RT.int κ) e allM w base v xs) (s : Step allM w allM w' N) (hn : ∀ b, v.ownBlock = some b → ¬ N b) : Own (RT.int κ) e allM w' base v xs := by
 obtain ⟨⟨C, h1, h2⟩, _⟩ := h
 refine ⟨⟨C, ⟨h1.1, ?_⟩, AllR.int h2⟩, fun _ _ => trivial⟩
 rcases h1.2 with h3 | ⟨g, cap, cur, h3, h4, h5, h6, h7, h8⟩
 ·exact .inl h3
 ·exact .inr ⟨g, cap, cur, h3, h4, by rw [s.same g (lt_of_get h5) (hn g (by rw [h3]; rfl))]; exact h5, h6, h7, h8⟩
def blkM (v : Value) : PSet := fun b => v.ownBlock = some b
theorem Own.lone {κ : IntKind} {e : TypeId} {M : PSet} {w : World} {base : Nat} {v : Value} {xs : List Int} (h : Own (RT.int κ) e M w base v xs) : Own (RT.int κ) e (blkM v) w base v xs := h.alli fun _ h => h
end Go.K
namespace Go.K
set_option linter.unusedVariables false
set_option linter.unusedSimpArgs false
def decG (at' : Nat → Nat) (cont : Nat → Bool) : Nat × Nat :=
 if at' 0 < 0x80 then (at' 0, 1)
 else if at' 0 / 32 == 6 && cont 1 then
  if (at' 0 % 32) * 64 + at' 1 % 64 ≥ 0x80 then ((at' 0 % 32) * 64 + at' 1 % 64, 2) else (65533, 1)
 else if at' 0 / 16 == 14 && cont 1 && cont 2 then
  if (at' 0 % 16) * 4096 + (at' 1 % 64) * 64 + at' 2 % 64 ≥ 0x800 && Utf8.valid ((at' 0 % 16) * 4096 + (at' 1 % 64) * 64 + at' 2 % 64 : Nat) then ((at' 0 % 16) * 4096 + (at' 1 % 64) * 64 + at' 2 % 64, 3) else (65533, 1)
 else if at' 0 / 8 == 30 && cont 1 && cont 2 && cont 3 then
  if (at' 0 % 8) * 262144 + (at' 1 % 64) * 4096 + (at' 2 % 64) * 64 + at' 3 % 64 ≥ 0x10000 && Utf8.valid ((at' 0 % 8) * 262144 + (at' 1 % 64) * 4096 + (at' 2 % 64) * 64 + at' 3 % 64 : Nat) then ((at' 0 % 8) * 262144 + (at' 1 % 64) * 4096 + (at' 2 % 64) * 64 + at' 3 % 64, 4) else (65533, 1)
 else (65533, 1)
theorem decode_eq (s : ByteArray) (i : Nat) : Utf8.decode s i = decG (fun k => (s.get! (i + k)).toNat) (fun k => decide (i + k < s.size) && (s.get! (i + k)).toNat / 64 == 2) := rfl
def atB (l : List UInt8) (k : Nat) : Nat := (l.getD k 0).toNat
def contB (l : List UInt8) (k : Nat) : Bool := decide (k < l.length) && atB l k / 64 == 2
def dec (l : List UInt8) : Nat × Nat := decG (atB l) (contB l)
theorem get_bytes (l : List UInt8) (j : Nat) : (⟨l.toArray⟩ : ByteArray).get! j = l.getD j 0 := by
 show l.toArray[j]! = _
 rw [List.getD_eq_getElem?_getD, getElem!_def]
 simp only [List.getElem?_toArray]
 cases l[j]? <;> rfl
theorem decode_dec (l : List UInt8) (pos : Nat) : Utf8.decode ⟨l.toArray⟩ pos = dec (l.drop pos) := by
 rw [decode_eq, dec]
 have h1 : (fun k => ((⟨l.toArray⟩ : ByteArray).get! (pos + k)).toNat) = atB (l.drop pos) := by
  funext k
  rw [get_bytes, atB, List.getD_eq_getElem?_getD, List.getD_eq_getElem?_getD, List.getElem?_drop]
 have h2 : (fun k => decide (pos + k < (⟨l.toArray⟩ : ByteArray).size) && ((⟨l.toArray⟩ : ByteArray).get! (pos + k)).toNat / 64 == 2) = contB (l.drop pos) := by
  funext k
  have := congrFun h1 k
  rw [this, contB, List.length_drop]
  congr 1
  have hs : (⟨l.toArray⟩ : ByteArray).size = l.length := by simp [ByteArray.size]
  rw [hs]
  exact decide_eq_decide.2 (by omega)
 rw [h1, h2]
theorem contB_lt {l : List UInt8} {k : Nat} (h : contB l k = true) : k < l.length := by
 simp only [contB, Bool.and_eq_true, decide_eq_true_eq] at h; exact h.1
theorem dec_width {l : List UInt8} (hl : l ≠ []) : 1 ≤ (dec l).2 ∧ (dec l).2 ≤ l.length := by
 have h0 : 0 < l.length := List.length_pos_iff.2 hl
 unfold dec decG
 split
 ·exact ⟨Nat.le_refl _, h0⟩
 ·split
  ·rename_i h
   simp only [Bool.and_eq_true] at h
   have := contB_lt h.2
   split <;> (simp only; omega)
  ·split
   ·rename_i h
    simp only [Bool.and_eq_true] at h
    have := contB_lt h.2
    split <;> (simp only; omega)
   ·split
    ·rename_i h
     simp only [Bool.and_eq_true] at h
     have := contB_lt h.2
     split <;> (simp only; omega)
    ·exact ⟨Nat.le_refl _, h0⟩
theorem atB_lt (l : List UInt8) (k : Nat) : atB l k < 256 := by unfold atB; exact UInt8.toNat_lt _
theorem dec_bound (l : List UInt8) : (dec l).1 ≤ 1114111 := by
 unfold dec decG
 split
 ·simp only; omega
 ·split
  ·have := atB_lt l 0
   split <;> (simp only; omega)
  ·split
   ·have := atB_lt l 0
    split <;> (simp only; omega)
   ·split
    ·split
     ·rename_i h
      simp only [Bool.and_eq_true, Utf8.valid, Bool.or_eq_true, decide_eq_true_eq] at h
      simp only; omega
     ·simp only; omega
    ·simp only; omega
def signs (l : List UInt8) : List Int := match l with
 |[] => []
 |c :: r => ((dec (c :: r)).1 : Int) :: signs ((c :: r).drop (dec (c :: r)).2)
termination_by l.length
decreasing_by
 have := (dec_width (l := c :: r) (by simp)).1
 simp only [List.length_drop, List.length_cons]; omega
theorem signs_nil : signs [] = [] := by unfold signs; rfl
theorem signs_step {l : List UInt8} (h : l ≠ []) : signs l = ((dec l).1 : Int) :: signs (l.drop (dec l).2) := by
 cases l with
 |nil => exact absurd rfl h
 |cons c r => rw [signs]
theorem signs_len (l : List UInt8) : (signs l).length ≤ l.length := by
 induction hn : l.length using Nat.strongRecOn generalizing l with
 |_ n ih =>
  by_cases h : l = []
  ·subst h; rw [signs_nil]; simp
  ·rw [signs_step h, List.length_cons]
   have hw := dec_width h
   have := ih _ (by rw [List.length_drop]; omega) (l.drop (dec l).2) rfl
   rw [List.length_drop] at this; omega
section
variable {P : Program} {r : Option Nat} {n : Nat} {L : Sl} {ds : List Deferred} {w : World} {K : Kt} {ops : Array Oper} {rest : List Oper} {d : Nat} {x : Operand} {ty : TypeId} {pos : String} {af : Array Edge}
theorem Rg.rangeStr {t : TypeId} {l : List UInt8} (M : PSet) (ht : P.underlying t = some .string) (hx : ev L x = some (.string ⟨l.toArray⟩)) (hd : Nat.blt d n = true)
  (k : ∀ b w', w.heap.size ≤ b → b < w'.heap.size → w'.heap[b]? = some (.stringIter ⟨l.toArray⟩ 0) → Step M w (ins M b) w' none' → Rg P r n ops rest ((d, .pointer (some ⟨b, 0, none⟩)) :: L) ds w' K) :
  Rg P r n ops ({ dst := some d, op := .range t x, type := ty, pos, after := af, guard := none } :: rest) L ds w K := by
 refine .op (fun _ h => by cases h) rfl rfl hd (.pointer (some ⟨w.heap.size, 0, none⟩)) (w.alloc (.stringIter ⟨l.toArray⟩ 0)) (fun ρ hρ => ?_) (k w.heap.size _ (Nat.le_refl _) (by simp) (heap_alloc_at w _) ((step_alloc M w _).own (Nat.le_refl _) (by simp)))
 simp only [execOp, hρ x _ hx]
 simp [Instr.range, Sem.run_bind, run_underlying ht, newObj, Sem.run]
theorem step_setObj (M : PSet) {b : Nat} {o : Obj} (hm : M b) : Step M w M { w with heap := w.heap.setIfInBounds b o } (fun k => k = b) :=
 ⟨fun h b hb => by simpa using h b hb, rfl, rfl, rfl, by simp, fun _ _ => Iff.rfl, fun k _ hn => by simp [Array.getElem?_setIfInBounds, Ne.symm hn], fun k hk => by subst hk; exact hm⟩
theorem run_getObj_str {b p : Nat} {s : ByteArray} (hb : w.heap[b]? = some (.stringIter s p)) : (getObj b).run P w = .ok (.stringIter s p) w := by simp [getObj, Sem.run, hb]
theorem Rg.nextStr {l : List UInt8} {b p : Nat} {M : PSet} (hx : ev L x = some (.pointer (some ⟨b, 0, none⟩))) (hb : w.heap[b]? = some (.stringIter ⟨l.toArray⟩ p)) (hm : M b) (hd : Nat.blt d n = true)
  (k1 : p < l.length → ∀ w', w'.heap[b]? = some (.stringIter ⟨l.toArray⟩ (p + (dec (l.drop p)).2)) → Step M w M w' (fun k => k = b) → Rg P r n ops rest ((d, .tuple #[.bool true, .int .i64 p, .int .i32 ((dec (l.drop p)).1 : Nat)]) :: L) ds w' K)
  (k2 : ¬ p < l.length → Rg P r n ops rest ((d, .tuple #[.bool false]) :: L) ds w K) :
  Rg P r n ops ({ dst := some d, op := .next x true, type := ty, pos, after := af, guard := none } :: rest) L ds w K := by
 have hs : (⟨l.toArray⟩ : ByteArray).size = l.length := by simp [ByteArray.size]
 have hlt := lt_of_get hb
 by_cases h : p < l.length
 ·have key := k1 h { w with heap := w.heap.setIfInBounds b (.stringIter ⟨l.toArray⟩ (p + (dec (l.drop p)).2)) } (by simp [Array.getElem?_setIfInBounds, hlt]) (step_setObj M hm)
  refine .op (fun _ h => by cases h) rfl rfl hd _ _ (fun ρ hρ => ?_) key
  simp only [execOp, hρ x _ hx, Instr.next, Sem.run_bind, run_getObj_str hb, Result.andThen_ok]
  rw [if_pos (by rw [hs]; exact h)]
  simp [decode_dec, setObj, Sem.run, goInt, hb]
 ·refine .op (fun _ h => by cases h) rfl rfl hd _ w (fun ρ hρ => ?_) (k2 h)
  simp only [execOp, hρ x _ hx, Instr.next, Sem.run_bind, run_getObj_str hb, Result.andThen_ok]
  rw [if_neg (by rw [hs]; exact h)]
  simp
theorem Rg.strAt {t : TypeId} {i : Operand} {l : List UInt8} {κ : IntKind} {j : Int} {c : UInt8} (ht : P.underlying t = some .string) (hx : ev L x = some (.string ⟨l.toArray⟩)) (hi : ev L i = some (.int κ j)) (hd : Nat.blt d n = true) (hj : 0 ≤ j) (hc : l[j.toNat]? = some c)
  (k : Rg P r n ops rest ((d, .int .u8 (c.toNat : Int)) :: L) ds w K) :
  Rg P r n ops ({ dst := some d, op := .index t x i, type := ty, pos, after := af, guard := none } :: rest) L ds w K := by
 have hlt := (List.getElem?_eq_some_iff.1 hc).1
 have hs : (⟨l.toArray⟩ : ByteArray).size = l.length := by simp [ByteArray.size]
 have hg : (⟨l.toArray⟩ : ByteArray)[j.toNat]? = some c := by
  rw [getElem?_pos _ _ (by rw [hs]; exact hlt)]
  congr 1
  have := (List.getElem?_eq_some_iff.1 hc).2
  rw [← this]; rfl
 refine .op (fun _ h => by cases h) rfl rfl hd _ w (fun ρ hρ => ?_) k
 simp only [execOp, hρ x _ hx, hρ i _ hi, Instr.index, Sem.run_bind, asIntOf, Sem.run_pure, Result.andThen_ok, run_underlying ht]
 simp [hj, hg]
theorem extract_bytes (l : List UInt8) (a b : Nat) : (⟨l.toArray⟩ : ByteArray).extract a b = ⟨((l.take b).drop a).toArray⟩ := by
 have : ((⟨l.toArray⟩ : ByteArray).extract a b).data = ((l.take b).drop a).toArray := by
  rw [ByteArray.data_extract]
  apply Array.toList_inj.1
  rw [Array.toList_extract, List.extract_eq_take_drop, List.drop_take]
 exact congrArg ByteArray.mk this
theorem Rg.strFrom {t : TypeId} {i : Operand} {l : List UInt8} {κ : IntKind} {j : Int} (ht : P.underlying t = some .string) (hx : ev L x = some (.string ⟨l.toArray⟩)) (hi : ev L i = some (.int κ j)) (hd : Nat.blt d n = true) (hj : 0 ≤ j ∧ j ≤ l.length)
  (k : Rg P r n ops rest ((d, .string ⟨(l.drop j.toNat).toArray⟩) :: L) ds w K) :
  Rg P r n ops ({ dst := some d, op := .slice t x (some i) none none, type := ty, pos, after := af, guard := none } :: rest) L ds w K := by
 have hs : (⟨l.toArray⟩ : ByteArray).size = l.length := by simp [ByteArray.size]
 refine .op (fun _ h => by cases h) rfl rfl hd _ w (fun ρ hρ => ?_) k
 simp only [execOp, hρ x _ hx, Option.map_some, Option.map_none, hρ i _ hi]
 rw [Sem.run_bind, run_sliceAt_string _ _ _ _ _ _ ht, run_slice_string_l _ _ _ ht _ _ hj.1 (by rw [hs]; exact hj.2), extract_bytes, hs, List.take_length]
 simp
theorem Rg.strTo {t : TypeId} {i : Operand} {l : List UInt8} {κ : IntKind} {j : Int} (ht : P.underlying t = some .string) (hx : ev L x = some (.string ⟨l.toArray⟩)) (hi : ev L i = some (.int κ j)) (hd : Nat.blt d n = true) (hj : 0 ≤ j ∧ j ≤ l.length)
  (k : Rg P r n ops rest ((d, .string ⟨(l.take j.toNat).toArray⟩) :: L) ds w K) :
  Rg P r n ops ({ dst := some d, op := .slice t x none (some i) none, type := ty, pos, after := af, guard := none } :: rest) L ds w K := by
 have hs : (⟨l.toArray⟩ : ByteArray).size = l.length := by simp [ByteArray.size]
 refine .op (fun _ h => by cases h) rfl rfl hd _ w (fun ρ hρ => ?_) k
 simp only [execOp, hρ x _ hx, Option.map_some, Option.map_none, hρ i _ hi]
 rw [Sem.run_bind, run_sliceAt_string _ _ _ _ _ _ ht, run_slice_string_h _ _ _ ht _ _ hj.1 (by rw [hs]; exact hj.2), extract_bytes, List.drop_zero]
 simp
end
theorem Own.notIter {α : Type} {A : RT α} {e : TypeId} {M : PSet} {w : World} {base b p : Nat} {s : ByteArray} {v : Value} {xs : List α} (h : Own A e M w base v xs) (hb : w.heap[b]? = some (.stringIter s p)) : v.ownBlock ≠ some b := fun hv => by
 obtain ⟨⟨C, h1, _⟩, _⟩ := h
 rcases h1.2 with ⟨h2, _⟩ | ⟨g, cap, cur, h2, _, h3, _⟩
 ·rw [h2] at hv; cases hv
 ·rw [h2] at hv; cases hv; rw [h3] at hb; cases hb
theorem Own.apartT {α β : Type} {A : RT α} {B : RT β} {e e' : TypeId} {M M' : PSet} {w : World} {base base' : Nat} {v u : Value} {xs : List α} {ys : List β} (h : Own A e M w base v xs) (h' : Own B e' M' w base' u ys) (ht : e ≠ e') {b : Nat} (hb : v.ownBlock = some b) : u.ownBlock ≠ some b := fun hu => by
 obtain ⟨⟨C, h1, _⟩, _⟩ := h
 obtain ⟨⟨C', h1', _⟩, _⟩ := h'
 rcases h1.2 with ⟨h2, _⟩ | ⟨g, cap, cur, h2, _, h3, _⟩
 ·rw [h2] at hb; cases hb
 ·rcases h1'.2 with ⟨h2', _⟩ | ⟨g', cap', cur', h2', _, h3', _⟩
  ·rw [h2'] at hu; cases hu
  ·rw [h2] at hb; rw [h2'] at hu; cases hb; cases hu
   rw [h3] at h3'; cases h3'; exact ht rfl
theorem Own.neT {α : Type} {A : RT α} {e t : TypeId} {M : PSet} {w : World} {base b : Nat} {v : Value} {xs : List α} {cs : Array Value} {fr : Nat × Nat} (h : Own A e M w base v xs) (hb : w.heap[b]? = some (.cells cs t fr)) (ht : t ≠ e) : v.ownBlock ≠ some b := fun hv => by
 obtain ⟨⟨C, h1, _⟩, _⟩ := h
 rcases h1.2 with ⟨h2, _⟩ | ⟨g, cap, cur, h2, _, h3, _⟩
 ·rw [h2] at hv; cases hv
 ·rw [h2] at hv; cases hv; rw [h3] at hb; cases hb; exact ht rfl
end Go.K
namespace Go.K
open Go.Proofs
theorem I3 : TI Tryz.prog 3 (.int .i64 0) 1 8 := by unfold TI; kernel_rfl
theorem I5 : TI Tryz.prog 5 (.int .u8 0) 1 1 := by unfold TI; kernel_rfl
theorem I9 : TI Tryz.prog 9 (.string ⟨#[]⟩) 1 16 := by unfold TI; kernel_rfl
theorem I26 : TI Tryz.prog 26 (.int .i64 0) 1 8 := by unfold TI; kernel_rfl
theorem I32 : TI Tryz.prog 32 (.slice none 0 0) 1 24 := by unfold TI; kernel_rfl
theorem I39 : TI Tryz.prog 39 (.slice none 0 0) 1 24 := by unfold TI; kernel_rfl
theorem I41 : TI Tryz.prog 41 (.agg #[(.int .i64 0), (.slice none 0 0)]) 2 32 := by unfold TI; kernel_rfl
theorem I43 : TI Tryz.prog 43 (.agg #[(.int .i64 0), (.slice none 0 0), (.int .i64 0)]) 3 40 := by unfold TI; kernel_rfl
theorem I47 : TI Tryz.prog 47 (.agg #[(.string ⟨#[]⟩), (.string ⟨#[]⟩)]) 2 32 := by unfold TI; kernel_rfl
theorem I55 : TI Tryz.prog 55 (.slice none 0 0) 1 24 := by unfold TI; kernel_rfl
theorem I98 : TI Tryz.prog 98 (.slice none 0 0) 1 24 := by unfold TI; kernel_rfl
theorem I127 : TI Tryz.prog 127 (.agg #[(.string ⟨#[]⟩), (.string ⟨#[]⟩)]) 2 32 := by unfold TI; kernel_rfl
theorem I129 : TI Tryz.prog 129 (.pointer none) 1 8 := by unfold TI; kernel_rfl
theorem I147 : TI Tryz.prog 147 (.slice none 0 0) 1 24 := by unfold TI; kernel_rfl
theorem I153 : TI Tryz.prog 153 (.agg #[(.int .i64 0), (.slice none 0 0)]) 2 32 := by unfold TI; kernel_rfl
theorem I191 : TI Tryz.prog 191 (.slice none 0 0) 1 24 := by unfold TI; kernel_rfl
theorem I193 : TI Tryz.prog 193 (.agg #[(.slice none 0 0), (.slice none 0 0), (.int .i64 0)]) 3 56 := by unfold TI; kernel_rfl
theorem I195 : TI Tryz.prog 195 (.agg #[(.int .i64 0), (.int .i64 0), (.int .i64 0), (.int .i64 0)]) 4 32 := by unfold TI; kernel_rfl
theorem I256 : TI Tryz.prog 256 (.agg #[(.string ⟨#[]⟩), (.int .i64 0)]) 2 24 := by unfold TI; kernel_rfl
theorem I309 : TI Tryz.prog 309 (.agg #[(.pointer none), (.slice none 0 0)]) 2 32 := by unfold TI; kernel_rfl
theorem B41 : placesOf Tryz.prog 41 = [(0, 1), (1, 1)].map some := by kernel_rfl
theorem B43 : placesOf Tryz.prog 43 = [(0, 2), (2, 1)].map some := by kernel_rfl
theorem B47 : placesOf Tryz.prog 47 = [(0, 1), (1, 1)].map some := by kernel_rfl
theorem B153 : placesOf Tryz.prog 153 = [(0, 1), (1, 1)].map some := by kernel_rfl
theorem B193 : placesOf Tryz.prog 193 = [(0, 1), (1, 1), (2, 1)].map some := by kernel_rfl
theorem B195 : placesOf Tryz.prog 195 = [(0, 1), (1, 1), (2, 1), (3, 1)].map some := by kernel_rfl
theorem B256 : placesOf Tryz.prog 256 = [(0, 1), (1, 1)].map some := by kernel_rfl
theorem mixed : Tryz.prog.follows .mixedOrders = true := by kernel_rfl
theorem E65 : Enters Tryz.prog 65 := enters Tryz.func65 rfl (by decide)
theorem E74 : Enters Tryz.prog 74 := enters Tryz.func74 rfl (by decide)
theorem E116 : Enters Tryz.prog 116 := enters Tryz.func116 rfl (by decide)
theorem E117 : Enters Tryz.prog 117 := enters Tryz.func117 rfl (by decide)
theorem E150 : Enters Tryz.prog 150 := enters Tryz.func150 rfl (by decide)
theorem E151 : Enters Tryz.prog 151 := enters Tryz.func151 rfl (by decide)
theorem E152 : Enters Tryz.prog 152 := enters Tryz.func152 rfl (by decide)
theorem E153 : Enters Tryz.prog 153 := enters Tryz.func153 rfl (by decide)
theorem E154 : Enters Tryz.prog 154 := enters Tryz.func154 rfl (by decide)
theorem E158 : Enters Tryz.prog 158 := enters Tryz.func158 rfl (by decide)
theorem E159 : Enters Tryz.prog 159 := enters Tryz.func159 rfl (by decide)
theorem E161 : Enters Tryz.prog 161 := enters Tryz.func161 rfl (by decide)
theorem E167 : Enters Tryz.prog 167 := enters Tryz.func167 rfl (by decide)
theorem E171 : Enters Tryz.prog 171 := enters Tryz.func171 rfl (by decide)
theorem E172 : Enters Tryz.prog 172 := enters Tryz.func172 rfl (by decide)
theorem E173 : Enters Tryz.prog 173 := enters Tryz.func173 rfl (by decide)
theorem E174 : Enters Tryz.prog 174 := enters Tryz.func174 rfl (by decide)
theorem E191 : Enters Tryz.prog 191 := enters Tryz.func191 rfl (by decide)
theorem E192 : Enters Tryz.prog 192 := enters Tryz.func192 rfl (by decide)
theorem E193 : Enters Tryz.prog 193 := enters Tryz.func193 rfl (by decide)
theorem E194 : Enters Tryz.prog 194 := enters Tryz.func194 rfl (by decide)
theorem E195 : Enters Tryz.prog 195 := enters Tryz.func195 rfl (by decide)
theorem E196 : Enters Tryz.prog 196 := enters Tryz.func196 rfl (by decide)
theorem E197 : Enters Tryz.prog 197 := enters Tryz.func197 rfl (by decide)
theorem E199 : Enters Tryz.prog 199 := enters Tryz.func199 rfl (by decide)
theorem E212 : Enters Tryz.prog 212 := enters Tryz.func212 rfl (by decide)
theorem E213 : Enters Tryz.prog 213 := enters Tryz.func213 rfl (by decide)
theorem E214 : Enters Tryz.prog 214 := enters Tryz.func214 rfl (by decide)
theorem E215 : Enters Tryz.prog 215 := enters Tryz.func215 rfl (by decide)
theorem E216 : Enters Tryz.prog 216 := enters Tryz.func216 rfl (by decide)
theorem E217 : Enters Tryz.prog 217 := enters Tryz.func217 rfl (by decide)
theorem E218 : Enters Tryz.prog 218 := enters Tryz.func218 rfl (by decide)
theorem E219 : Enters Tryz.prog 219 := enters Tryz.func219 rfl (by decide)
theorem E220 : Enters Tryz.prog 220 := enters Tryz.func220 rfl (by decide)
theorem E221 : Enters Tryz.prog 221 := enters Tryz.func221 rfl (by decide)
theorem E222 : Enters Tryz.prog 222 := enters Tryz.func222 rfl (by decide)
theorem E223 : Enters Tryz.prog 223 := enters Tryz.func223 rfl (by decide)
theorem E224 : Enters Tryz.prog 224 := enters Tryz.func224 rfl (by decide)
theorem E225 : Enters Tryz.prog 225 := enters Tryz.func225 rfl (by decide)
theorem E233 : Enters Tryz.prog 233 := enters Tryz.func233 rfl (by decide)
theorem E250 : Enters Tryz.prog 250 := enters Tryz.func250 rfl (by decide)
theorem E251 : Enters Tryz.prog 251 := enters Tryz.func251 rfl (by decide)
theorem E252 : Enters Tryz.prog 252 := enters Tryz.func252 rfl (by decide)
theorem E253 : Enters Tryz.prog 253 := enters Tryz.func253 rfl (by decide)
theorem E254 : Enters Tryz.prog 254 := enters Tryz.func254 rfl (by decide)
theorem E255 : Enters Tryz.prog 255 := enters Tryz.func255 rfl (by decide)
theorem E256 : Enters Tryz.prog 256 := enters Tryz.func256 rfl (by decide)
theorem E274 : Enters Tryz.prog 274 := enters Tryz.func274 rfl (by decide)
theorem E277 : Enters Tryz.prog 277 := enters Tryz.func277 rfl (by decide)
end Go.K
namespace Go.K
open Go.Proofs
set_option linter.unusedVariables false
set_option linter.unusedSimpArgs false
set_option maxRecDepth 10000
def letB (c : Int) : Bool := decide ((97 ≤ c ∧ c ≤ 122) ∨ (65 ≤ c ∧ c ≤ 90) ∨ (192 ≤ c ∧ c ≤ 591 ∧ c ≠ 215 ∧ c ≠ 247))
def digB (c : Int) : Bool := decide (48 ≤ c ∧ c ≤ 57)
def foldZ (c : Int) : Int := if (65 ≤ c ∧ c ≤ 90) ∨ (192 ≤ c ∧ c ≤ 222 ∧ c ≠ 215) then c + 32 else c
theorem letter_spec (c : Int) (w0 : World) :
  Spec Tryz.prog 221 #[.int .i64 c] w0 (fun v w => v = .bool (letB c) ∧ w = w0) := by
 refine spec_of (args := [_]) (fn := Tryz.f221) Tryz.func221 rfl (n := 33) Tryz.ntmps221 ?_
 refine T.seq ?_
 refine T.region ?_
 refine Rg.assign rfl rfl ?_
 refine Rg.nil ?_
 refine T.seq ?_
 refine T.region ?_
 refine Rg.move rfl rfl ?_
 refine Rg.ige rfl rfl rfl ?_
 refine Rg.move rfl rfl ?_
 refine Rg.gsplitp (g := 5) rfl (fun g1_2 => ?_) (fun g1_2 => ?_)
 ·refine Rg.gyes rfl rfl ?_
  refine Rg.move rfl rfl ?_
  refine Rg.gyes rfl rfl ?_
  refine Rg.ile rfl rfl rfl ?_
  refine Rg.pickt rfl rfl rfl ?_
  refine Rg.move rfl rfl ?_
  refine Rg.gsplitp (g := 9) rfl (fun g1_6 => ?_) (fun g1_6 => ?_)
  ·refine Rg.gno rfl rfl rfl rfl ?_
   refine Rg.gno rfl rfl rfl rfl ?_
   refine Rg.gno rfl rfl rfl rfl ?_
   refine Rg.gnox rfl rfl rfl ?_
   refine Rg.gnox rfl rfl rfl ?_
   refine Rg.gno rfl rfl rfl rfl ?_
   refine Rg.pickt rfl rfl rfl ?_
   refine Rg.move rfl rfl ?_
   refine Rg.gno rfl rfl rfl rfl ?_
   refine Rg.gno rfl rfl rfl rfl ?_
   refine Rg.gno rfl rfl rfl rfl ?_
   refine Rg.gnox rfl rfl rfl ?_
   refine Rg.gnox rfl rfl rfl ?_
   refine Rg.gno rfl rfl rfl rfl ?_
   refine Rg.gno rfl rfl rfl rfl ?_
   refine Rg.gnox rfl rfl rfl ?_
   refine Rg.gnox rfl rfl rfl ?_
   refine Rg.gno rfl rfl rfl rfl ?_
   refine Rg.gno rfl rfl rfl rfl ?_
   refine Rg.gnox rfl rfl rfl ?_
   refine Rg.gnox rfl rfl rfl ?_
   refine Rg.gno rfl rfl rfl rfl ?_
   refine Rg.pickt rfl rfl rfl ?_
   refine Rg.assign rfl rfl ?_
   refine Rg.nil ?_
   refine T.ret ?_
   exact Kret1 rfl rfl ⟨by simp only [letB]; first | rfl | (congr 1; first | (exact (decide_eq_true (by omega)).symm) | (exact (decide_eq_false (by omega)).symm) | (exact decide_eq_decide.2 (by omega))), rfl⟩
  ·refine Rg.gyes rfl rfl ?_
   refine Rg.move rfl rfl ?_
   refine Rg.gyes rfl rfl ?_
   refine Rg.ige rfl rfl rfl ?_
   refine Rg.gyes rfl rfl ?_
   refine Rg.move rfl rfl ?_
   refine Rg.gsplitp (g := 12) rfl (fun g1_9 => ?_) (fun g1_9 => ?_)
   ·refine Rg.gyes rfl rfl ?_
    refine Rg.move rfl rfl ?_
    refine Rg.gyes rfl rfl ?_
    refine Rg.ile rfl rfl rfl ?_
    refine Rg.gyes rfl rfl ?_
    refine Rg.pickt rfl rfl rfl ?_
    refine Rg.pickf rfl rfl rfl ?_
    refine Rg.move rfl rfl ?_
    refine Rg.gsplitp (g := 17) rfl (fun g1_14 => ?_) (fun g1_14 => ?_)
    ·refine Rg.gno rfl rfl rfl rfl ?_
     refine Rg.gno rfl rfl rfl rfl ?_
     refine Rg.gno rfl rfl rfl rfl ?_
     refine Rg.gnox rfl rfl rfl ?_
     refine Rg.gnox rfl rfl rfl ?_
     refine Rg.gno rfl rfl rfl rfl ?_
     refine Rg.gno rfl rfl rfl rfl ?_
     refine Rg.gnox rfl rfl rfl ?_
     refine Rg.gnox rfl rfl rfl ?_
     refine Rg.gno rfl rfl rfl rfl ?_
     refine Rg.gno rfl rfl rfl rfl ?_
     refine Rg.gnox rfl rfl rfl ?_
     refine Rg.gnox rfl rfl rfl ?_
     refine Rg.gno rfl rfl rfl rfl ?_
     refine Rg.pickt rfl rfl rfl ?_
     refine Rg.assign rfl rfl ?_
     refine Rg.nil ?_
     refine T.ret ?_
     exact Kret1 rfl rfl ⟨by simp only [letB]; first | rfl | (congr 1; first | (exact (decide_eq_true (by omega)).symm) | (exact (decide_eq_false (by omega)).symm) | (exact decide_eq_decide.2 (by omega))), rfl⟩
    ·refine Rg.gyes rfl rfl ?_
     refine Rg.move rfl rfl ?_
     refine Rg.gyes rfl rfl ?_
     refine Rg.ige rfl rfl rfl ?_
     refine Rg.gyes rfl rfl ?_
     refine Rg.move rfl rfl ?_
     refine Rg.gsplitp (g := 20) rfl (fun g1_17 => ?_) (fun g1_17 => ?_)
     ·refine Rg.gyes rfl rfl ?_
      refine Rg.move rfl rfl ?_
      refine Rg.gyes rfl rfl ?_
      refine Rg.ile rfl rfl rfl ?_
      refine Rg.gyes rfl rfl ?_
      refine Rg.pickt rfl rfl rfl ?_
      refine Rg.gyes rfl rfl ?_
      refine Rg.move rfl rfl ?_
      refine Rg.gsplitp (g := 24) rfl (fun g1_21 => ?_) (fun g1_21 => ?_)
      ·refine Rg.gyes rfl rfl ?_
       refine Rg.move rfl rfl ?_
       refine Rg.gyes rfl rfl ?_
       refine Rg.ine rfl rfl rfl ?_
       refine Rg.gyes rfl rfl ?_
       refine Rg.pickt rfl rfl rfl ?_
       refine Rg.gyes rfl rfl ?_
       refine Rg.move rfl rfl ?_
       refine Rg.gsplitp (g := 28) rfl (fun g1_25 => ?_) (fun g1_25 => ?_)
       ·refine Rg.gyes rfl rfl ?_
        refine Rg.move rfl rfl ?_
        refine Rg.gyes rfl rfl ?_
        refine Rg.ine rfl rfl rfl ?_
        refine Rg.gyes rfl rfl ?_
        refine Rg.pickt rfl rfl rfl ?_
        refine Rg.pickf rfl rfl rfl ?_
        refine Rg.assign rfl rfl ?_
        refine Rg.nil ?_
        refine T.ret ?_
        exact Kret1 rfl rfl ⟨by simp only [letB]; first | rfl | (congr 1; first | (exact (decide_eq_true (by omega)).symm) | (exact (decide_eq_false (by omega)).symm) | (exact decide_eq_decide.2 (by omega))), rfl⟩
       ·refine Rg.gno rfl rfl rfl rfl ?_
        refine Rg.gno rfl rfl rfl rfl ?_
        refine Rg.gyes rfl rfl ?_
        refine Rg.pickf rfl rfl rfl ?_
        refine Rg.pickf rfl rfl rfl ?_
        refine Rg.assign rfl rfl ?_
        refine Rg.nil ?_
        refine T.ret ?_
        exact Kret1 rfl rfl ⟨by simp only [letB]; first | rfl | (congr 1; first | (exact (decide_eq_true (by omega)).symm) | (exact (decide_eq_false (by omega)).symm) | (exact decide_eq_decide.2 (by omega))), rfl⟩
      ·refine Rg.gno rfl rfl rfl rfl ?_
       refine Rg.gno rfl rfl rfl rfl ?_
       refine Rg.gyes rfl rfl ?_
       refine Rg.pickf rfl rfl rfl ?_
       refine Rg.gyes rfl rfl ?_
       refine Rg.move rfl rfl ?_
       refine Rg.gno rfl rfl rfl rfl ?_
       refine Rg.gno rfl rfl rfl rfl ?_
       refine Rg.gyes rfl rfl ?_
       refine Rg.pickf rfl rfl rfl ?_
       refine Rg.pickf rfl rfl rfl ?_
       refine Rg.assign rfl rfl ?_
       refine Rg.nil ?_
       refine T.ret ?_
       exact Kret1 rfl rfl ⟨by simp only [letB]; first | rfl | (congr 1; first | (exact (decide_eq_true (by omega)).symm) | (exact (decide_eq_false (by omega)).symm) | (exact decide_eq_decide.2 (by omega))), rfl⟩
     ·refine Rg.gno rfl rfl rfl rfl ?_
      refine Rg.gno rfl rfl rfl rfl ?_
      refine Rg.gyes rfl rfl ?_
      refine Rg.pickf rfl rfl rfl ?_
      refine Rg.gyes rfl rfl ?_
      refine Rg.move rfl rfl ?_
      refine Rg.gno rfl rfl rfl rfl ?_
      refine Rg.gno rfl rfl rfl rfl ?_
      refine Rg.gyes rfl rfl ?_
      refine Rg.pickf rfl rfl rfl ?_
      refine Rg.gyes rfl rfl ?_
      refine Rg.move rfl rfl ?_
      refine Rg.gno rfl rfl rfl rfl ?_
      refine Rg.gno rfl rfl rfl rfl ?_
      refine Rg.gyes rfl rfl ?_
      refine Rg.pickf rfl rfl rfl ?_
      refine Rg.pickf rfl rfl rfl ?_
      refine Rg.assign rfl rfl ?_
      refine Rg.nil ?_
      refine T.ret ?_
      exact Kret1 rfl rfl ⟨by simp only [letB]; first | rfl | (congr 1; first | (exact (decide_eq_true (by omega)).symm) | (exact (decide_eq_false (by omega)).symm) | (exact decide_eq_decide.2 (by omega))), rfl⟩
   ·refine Rg.gno rfl rfl rfl rfl ?_
    refine Rg.gno rfl rfl rfl rfl ?_
    refine Rg.gyes rfl rfl ?_
    refine Rg.pickf rfl rfl rfl ?_
    refine Rg.pickf rfl rfl rfl ?_
    refine Rg.move rfl rfl ?_
    refine Rg.gyes rfl rfl ?_
    refine Rg.move rfl rfl ?_
    refine Rg.gyes rfl rfl ?_
    refine Rg.ige rfl rfl rfl ?_
    refine Rg.gyes rfl rfl ?_
    refine Rg.move rfl rfl ?_
    refine Rg.gsplitp (g := 20) rfl (fun g1_17 => ?_) (fun g1_17 => ?_)
    ·refine Rg.gyes rfl rfl ?_
     refine Rg.move rfl rfl ?_
     refine Rg.gyes rfl rfl ?_
     refine Rg.ile rfl rfl rfl ?_
     refine Rg.gyes rfl rfl ?_
     refine Rg.pickt rfl rfl rfl ?_
     refine Rg.gyes rfl rfl ?_
     refine Rg.move rfl rfl ?_
     refine Rg.gsplitp (g := 24) rfl (fun g1_21 => ?_) (fun g1_21 => ?_)
     ·refine Rg.gyes rfl rfl ?_
      refine Rg.move rfl rfl ?_
      refine Rg.gyes rfl rfl ?_
      refine Rg.ine rfl rfl rfl ?_
      refine Rg.gyes rfl rfl ?_
      refine Rg.pickt rfl rfl rfl ?_
      refine Rg.gyes rfl rfl ?_
      refine Rg.move rfl rfl ?_
      refine Rg.gsplitp (g := 28) rfl (fun g1_25 => ?_) (fun g1_25 => ?_)
      ·refine Rg.gyes rfl rfl ?_
       refine Rg.move rfl rfl ?_
       refine Rg.gyes rfl rfl ?_
       refine Rg.ine rfl rfl rfl ?_
       refine Rg.gyes rfl rfl ?_
       refine Rg.pickt rfl rfl rfl ?_
       refine Rg.pickf rfl rfl rfl ?_
       refine Rg.assign rfl rfl ?_
       refine Rg.nil ?_
       refine T.ret ?_
       exact Kret1 rfl rfl ⟨by simp only [letB]; first | rfl | (congr 1; first | (exact (decide_eq_true (by omega)).symm) | (exact (decide_eq_false (by omega)).symm) | (exact decide_eq_decide.2 (by omega))), rfl⟩
      ·refine Rg.gno rfl rfl rfl rfl ?_
       refine Rg.gno rfl rfl rfl rfl ?_
       refine Rg.gyes rfl rfl ?_
       refine Rg.pickf rfl rfl rfl ?_
       refine Rg.pickf rfl rfl rfl ?_
       refine Rg.assign rfl rfl ?_
       refine Rg.nil ?_
       refine T.ret ?_
       exact Kret1 rfl rfl ⟨by simp only [letB]; first | rfl | (congr 1; first | (exact (decide_eq_true (by omega)).symm) | (exact (decide_eq_false (by omega)).symm) | (exact decide_eq_decide.2 (by omega))), rfl⟩
     ·refine Rg.gno rfl rfl rfl rfl ?_
      refine Rg.gno rfl rfl rfl rfl ?_
      refine Rg.gyes rfl rfl ?_
      refine Rg.pickf rfl rfl rfl ?_
      refine Rg.gyes rfl rfl ?_
      refine Rg.move rfl rfl ?_
      refine Rg.gno rfl rfl rfl rfl ?_
      refine Rg.gno rfl rfl rfl rfl ?_
      refine Rg.gyes rfl rfl ?_
      refine Rg.pickf rfl rfl rfl ?_
      refine Rg.pickf rfl rfl rfl ?_
      refine Rg.assign rfl rfl ?_
      refine Rg.nil ?_
      refine T.ret ?_
      exact Kret1 rfl rfl ⟨by simp only [letB]; first | rfl | (congr 1; first | (exact (decide_eq_true (by omega)).symm) | (exact (decide_eq_false (by omega)).symm) | (exact decide_eq_decide.2 (by omega))), rfl⟩
    ·refine Rg.gno rfl rfl rfl rfl ?_
     refine Rg.gno rfl rfl rfl rfl ?_
     refine Rg.gyes rfl rfl ?_
     refine Rg.pickf rfl rfl rfl ?_
     refine Rg.gyes rfl rfl ?_
     refine Rg.move rfl rfl ?_
     refine Rg.gno rfl rfl rfl rfl ?_
     refine Rg.gno rfl rfl rfl rfl ?_
     refine Rg.gyes rfl rfl ?_
     refine Rg.pickf rfl rfl rfl ?_
     refine Rg.gyes rfl rfl ?_
     refine Rg.move rfl rfl ?_
     refine Rg.gno rfl rfl rfl rfl ?_
     refine Rg.gno rfl rfl rfl rfl ?_
     refine Rg.gyes rfl rfl ?_
     refine Rg.pickf rfl rfl rfl ?_
     refine Rg.pickf rfl rfl rfl ?_
     refine Rg.assign rfl rfl ?_
     refine Rg.nil ?_
     refine T.ret ?_
     exact Kret1 rfl rfl ⟨by simp only [letB]; first | rfl | (congr 1; first | (exact (decide_eq_true (by omega)).symm) | (exact (decide_eq_false (by omega)).symm) | (exact decide_eq_decide.2 (by omega))), rfl⟩
 ·refine Rg.gno rfl rfl rfl rfl ?_
  refine Rg.gno rfl rfl rfl rfl ?_
  refine Rg.pickf rfl rfl rfl ?_
  refine Rg.move rfl rfl ?_
  refine Rg.gyes rfl rfl ?_
  refine Rg.move rfl rfl ?_
  refine Rg.gyes rfl rfl ?_
  refine Rg.ige rfl rfl rfl ?_
  refine Rg.gyes rfl rfl ?_
  refine Rg.move rfl rfl ?_
  refine Rg.gsplitp (g := 12) rfl (fun g1_9 => ?_) (fun g1_9 => ?_)
  ·refine Rg.gyes rfl rfl ?_
   refine Rg.move rfl rfl ?_
   refine Rg.gyes rfl rfl ?_
   refine Rg.ile rfl rfl rfl ?_
   refine Rg.gyes rfl rfl ?_
   refine Rg.pickt rfl rfl rfl ?_
   refine Rg.pickf rfl rfl rfl ?_
   refine Rg.move rfl rfl ?_
   refine Rg.gsplitp (g := 17) rfl (fun g1_14 => ?_) (fun g1_14 => ?_)
   ·refine Rg.gno rfl rfl rfl rfl ?_
    refine Rg.gno rfl rfl rfl rfl ?_
    refine Rg.gno rfl rfl rfl rfl ?_
    refine Rg.gnox rfl rfl rfl ?_
    refine Rg.gnox rfl rfl rfl ?_
    refine Rg.gno rfl rfl rfl rfl ?_
    refine Rg.gno rfl rfl rfl rfl ?_
    refine Rg.gnox rfl rfl rfl ?_
    refine Rg.gnox rfl rfl rfl ?_
    refine Rg.gno rfl rfl rfl rfl ?_
    refine Rg.gno rfl rfl rfl rfl ?_
    refine Rg.gnox rfl rfl rfl ?_
    refine Rg.gnox rfl rfl rfl ?_
    refine Rg.gno rfl rfl rfl rfl ?_
    refine Rg.pickt rfl rfl rfl ?_
    refine Rg.assign rfl rfl ?_
    refine Rg.nil ?_
    refine T.ret ?_
    exact Kret1 rfl rfl ⟨by simp only [letB]; first | rfl | (congr 1; first | (exact (decide_eq_true (by omega)).symm) | (exact (decide_eq_false (by omega)).symm) | (exact decide_eq_decide.2 (by omega))), rfl⟩
   ·refine Rg.gyes rfl rfl ?_
    refine Rg.move rfl rfl ?_
    refine Rg.gyes rfl rfl ?_
    refine Rg.ige rfl rfl rfl ?_
    refine Rg.gyes rfl rfl ?_
    refine Rg.move rfl rfl ?_
    refine Rg.gsplitp (g := 20) rfl (fun g1_17 => ?_) (fun g1_17 => ?_)
    ·refine Rg.gyes rfl rfl ?_
     refine Rg.move rfl rfl ?_
     refine Rg.gyes rfl rfl ?_
     refine Rg.ile rfl rfl rfl ?_
     refine Rg.gyes rfl rfl ?_
     refine Rg.pickt rfl rfl rfl ?_
     refine Rg.gyes rfl rfl ?_
     refine Rg.move rfl rfl ?_
     refine Rg.gsplitp (g := 24) rfl (fun g1_21 => ?_) (fun g1_21 => ?_)
     ·refine Rg.gyes rfl rfl ?_
      refine Rg.move rfl rfl ?_
      refine Rg.gyes rfl rfl ?_
      refine Rg.ine rfl rfl rfl ?_
      refine Rg.gyes rfl rfl ?_
      refine Rg.pickt rfl rfl rfl ?_
      refine Rg.gyes rfl rfl ?_
      refine Rg.move rfl rfl ?_
      refine Rg.gsplitp (g := 28) rfl (fun g1_25 => ?_) (fun g1_25 => ?_)
      ·refine Rg.gyes rfl rfl ?_
       refine Rg.move rfl rfl ?_
       refine Rg.gyes rfl rfl ?_
       refine Rg.ine rfl rfl rfl ?_
       refine Rg.gyes rfl rfl ?_
       refine Rg.pickt rfl rfl rfl ?_
       refine Rg.pickf rfl rfl rfl ?_
       refine Rg.assign rfl rfl ?_
       refine Rg.nil ?_
       refine T.ret ?_
       exact Kret1 rfl rfl ⟨by simp only [letB]; first | rfl | (congr 1; first | (exact (decide_eq_true (by omega)).symm) | (exact (decide_eq_false (by omega)).symm) | (exact decide_eq_decide.2 (by omega))), rfl⟩
      ·refine Rg.gno rfl rfl rfl rfl ?_
       refine Rg.gno rfl rfl rfl rfl ?_
       refine Rg.gyes rfl rfl ?_
       refine Rg.pickf rfl rfl rfl ?_
       refine Rg.pickf rfl rfl rfl ?_
       refine Rg.assign rfl rfl ?_
       refine Rg.nil ?_
       refine T.ret ?_
       exact Kret1 rfl rfl ⟨by simp only [letB]; first | rfl | (congr 1; first | (exact (decide_eq_true (by omega)).symm) | (exact (decide_eq_false (by omega)).symm) | (exact decide_eq_decide.2 (by omega))), rfl⟩
     ·refine Rg.gno rfl rfl rfl rfl ?_
      refine Rg.gno rfl rfl rfl rfl ?_
      refine Rg.gyes rfl rfl ?_
      refine Rg.pickf rfl rfl rfl ?_
      refine Rg.gyes rfl rfl ?_
      refine Rg.move rfl rfl ?_
      refine Rg.gno rfl rfl rfl rfl ?_
      refine Rg.gno rfl rfl rfl rfl ?_
      refine Rg.gyes rfl rfl ?_
      refine Rg.pickf rfl rfl rfl ?_
      refine Rg.pickf rfl rfl rfl ?_
      refine Rg.assign rfl rfl ?_
      refine Rg.nil ?_
      refine T.ret ?_
      exact Kret1 rfl rfl ⟨by simp only [letB]; first | rfl | (congr 1; first | (exact (decide_eq_true (by omega)).symm) | (exact (decide_eq_false (by omega)).symm) | (exact decide_eq_decide.2 (by omega))), rfl⟩
    ·refine Rg.gno rfl rfl rfl rfl ?_
     refine Rg.gno rfl rfl rfl rfl ?_
     refine Rg.gyes rfl rfl ?_
     refine Rg.pickf rfl rfl rfl ?_
     refine Rg.gyes rfl rfl ?_
     refine Rg.move rfl rfl ?_
     refine Rg.gno rfl rfl rfl rfl ?_
     refine Rg.gno rfl rfl rfl rfl ?_
     refine Rg.gyes rfl rfl ?_
     refine Rg.pickf rfl rfl rfl ?_
     refine Rg.gyes rfl rfl ?_
     refine Rg.move rfl rfl ?_
     refine Rg.gno rfl rfl rfl rfl ?_
     refine Rg.gno rfl rfl rfl rfl ?_
     refine Rg.gyes rfl rfl ?_
     refine Rg.pickf rfl rfl rfl ?_
     refine Rg.pickf rfl rfl rfl ?_
     refine Rg.assign rfl rfl ?_
     refine Rg.nil ?_
     refine T.ret ?_
     exact Kret1 rfl rfl ⟨by simp only [letB]; first | rfl | (congr 1; first | (exact (decide_eq_true (by omega)).symm) | (exact (decide_eq_false (by omega)).symm) | (exact decide_eq_decide.2 (by omega))), rfl⟩
  ·refine Rg.gno rfl rfl rfl rfl ?_
   refine Rg.gno rfl rfl rfl rfl ?_
   refine Rg.gyes rfl rfl ?_
   refine Rg.pickf rfl rfl rfl ?_
   refine Rg.pickf rfl rfl rfl ?_
   refine Rg.move rfl rfl ?_
   refine Rg.gyes rfl rfl ?_
   refine Rg.move rfl rfl ?_
   refine Rg.gyes rfl rfl ?_
   refine Rg.ige rfl rfl rfl ?_
   refine Rg.gyes rfl rfl ?_
   refine Rg.move rfl rfl ?_
   refine Rg.gsplitp (g := 20) rfl (fun g1_17 => ?_) (fun g1_17 => ?_)
   ·refine Rg.gyes rfl rfl ?_
    refine Rg.move rfl rfl ?_
    refine Rg.gyes rfl rfl ?_
    refine Rg.ile rfl rfl rfl ?_
    refine Rg.gyes rfl rfl ?_
    refine Rg.pickt rfl rfl rfl ?_
    refine Rg.gyes rfl rfl ?_
    refine Rg.move rfl rfl ?_
    refine Rg.gsplitp (g := 24) rfl (fun g1_21 => ?_) (fun g1_21 => ?_)
    ·refine Rg.gyes rfl rfl ?_
     refine Rg.move rfl rfl ?_
     refine Rg.gyes rfl rfl ?_
     refine Rg.ine rfl rfl rfl ?_
     refine Rg.gyes rfl rfl ?_
     refine Rg.pickt rfl rfl rfl ?_
     refine Rg.gyes rfl rfl ?_
     refine Rg.move rfl rfl ?_
     refine Rg.gsplitp (g := 28) rfl (fun g1_25 => ?_) (fun g1_25 => ?_)
     ·refine Rg.gyes rfl rfl ?_
      refine Rg.move rfl rfl ?_
      refine Rg.gyes rfl rfl ?_
      refine Rg.ine rfl rfl rfl ?_
      refine Rg.gyes rfl rfl ?_
      refine Rg.pickt rfl rfl rfl ?_
      refine Rg.pickf rfl rfl rfl ?_
      refine Rg.assign rfl rfl ?_
      refine Rg.nil ?_
      refine T.ret ?_
      exact Kret1 rfl rfl ⟨by simp only [letB]; first | rfl | (congr 1; first | (exact (decide_eq_true (by omega)).symm) | (exact (decide_eq_false (by omega)).symm) | (exact decide_eq_decide.2 (by omega))), rfl⟩
     ·refine Rg.gno rfl rfl rfl rfl ?_
      refine Rg.gno rfl rfl rfl rfl ?_
      refine Rg.gyes rfl rfl ?_
      refine Rg.pickf rfl rfl rfl ?_
      refine Rg.pickf rfl rfl rfl ?_
      refine Rg.assign rfl rfl ?_
      refine Rg.nil ?_
      refine T.ret ?_
      exact Kret1 rfl rfl ⟨by simp only [letB]; first | rfl | (congr 1; first | (exact (decide_eq_true (by omega)).symm) | (exact (decide_eq_false (by omega)).symm) | (exact decide_eq_decide.2 (by omega))), rfl⟩
    ·refine Rg.gno rfl rfl rfl rfl ?_
     refine Rg.gno rfl rfl rfl rfl ?_
     refine Rg.gyes rfl rfl ?_
     refine Rg.pickf rfl rfl rfl ?_
     refine Rg.gyes rfl rfl ?_
     refine Rg.move rfl rfl ?_
     refine Rg.gno rfl rfl rfl rfl ?_
     refine Rg.gno rfl rfl rfl rfl ?_
     refine Rg.gyes rfl rfl ?_
     refine Rg.pickf rfl rfl rfl ?_
     refine Rg.pickf rfl rfl rfl ?_
     refine Rg.assign rfl rfl ?_
     refine Rg.nil ?_
     refine T.ret ?_
     exact Kret1 rfl rfl ⟨by simp only [letB]; first | rfl | (congr 1; first | (exact (decide_eq_true (by omega)).symm) | (exact (decide_eq_false (by omega)).symm) | (exact decide_eq_decide.2 (by omega))), rfl⟩
   ·refine Rg.gno rfl rfl rfl rfl ?_
    refine Rg.gno rfl rfl rfl rfl ?_
    refine Rg.gyes rfl rfl ?_
    refine Rg.pickf rfl rfl rfl ?_
    refine Rg.gyes rfl rfl ?_
    refine Rg.move rfl rfl ?_
    refine Rg.gno rfl rfl rfl rfl ?_
    refine Rg.gno rfl rfl rfl rfl ?_
    refine Rg.gyes rfl rfl ?_
    refine Rg.pickf rfl rfl rfl ?_
    refine Rg.gyes rfl rfl ?_
    refine Rg.move rfl rfl ?_
    refine Rg.gno rfl rfl rfl rfl ?_
    refine Rg.gno rfl rfl rfl rfl ?_
    refine Rg.gyes rfl rfl ?_
    refine Rg.pickf rfl rfl rfl ?_
    refine Rg.pickf rfl rfl rfl ?_
    refine Rg.assign rfl rfl ?_
    refine Rg.nil ?_
    refine T.ret ?_
    exact Kret1 rfl rfl ⟨by simp only [letB]; first | rfl | (congr 1; first | (exact (decide_eq_true (by omega)).symm) | (exact (decide_eq_false (by omega)).symm) | (exact decide_eq_decide.2 (by omega))), rfl⟩
theorem digit_spec (c : Int) (w0 : World) :
  Spec Tryz.prog 222 #[.int .i64 c] w0 (fun v w => v = .bool (digB c) ∧ w = w0) := by
 refine spec_of (args := [_]) (fn := Tryz.f222) Tryz.func222 rfl (n := 9) Tryz.ntmps222 ?_
 refine T.seq ?_
 refine T.region ?_
 refine Rg.assign rfl rfl ?_
 refine Rg.nil ?_
 refine T.seq ?_
 refine T.region ?_
 refine Rg.move rfl rfl ?_
 refine Rg.ige rfl rfl rfl ?_
 refine Rg.move rfl rfl ?_
 refine Rg.gsplitp (g := 5) rfl (fun g1_2 => ?_) (fun g1_2 => ?_)
 ·refine Rg.gyes rfl rfl ?_
  refine Rg.move rfl rfl ?_
  refine Rg.gyes rfl rfl ?_
  refine Rg.ile rfl rfl rfl ?_
  refine Rg.pickt rfl rfl rfl ?_
  refine Rg.assign rfl rfl ?_
  refine Rg.nil ?_
  refine T.ret ?_
  exact Kret1 rfl rfl ⟨by simp only [digB]; first | rfl | (congr 1; first | (exact (decide_eq_true (by omega)).symm) | (exact (decide_eq_false (by omega)).symm) | (exact decide_eq_decide.2 (by omega))), rfl⟩
 ·refine Rg.gno rfl rfl rfl rfl ?_
  refine Rg.gno rfl rfl rfl rfl ?_
  refine Rg.pickf rfl rfl rfl ?_
  refine Rg.assign rfl rfl ?_
  refine Rg.nil ?_
  refine T.ret ?_
  exact Kret1 rfl rfl ⟨by simp only [digB]; first | rfl | (congr 1; first | (exact (decide_eq_true (by omega)).symm) | (exact (decide_eq_false (by omega)).symm) | (exact decide_eq_decide.2 (by omega))), rfl⟩
theorem fold_spec (c : Int) (w0 : World) (hc : 0 ≤ c ∧ c ≤ 1114111) :
  Spec Tryz.prog 223 #[.int .i64 c] w0 (fun v w => v = .int .i64 (foldZ c) ∧ w = w0) := by
 refine spec_of (args := [_]) (fn := Tryz.f223) Tryz.func223 rfl (n := 24) Tryz.ntmps223 ?_
 refine T.seq ?_
 refine T.region ?_
 refine Rg.assign rfl rfl ?_
 refine Rg.nil ?_
 refine T.seq ?_
 refine T.seq ?_
 refine T.region ?_
 refine Rg.move rfl rfl ?_
 refine Rg.ige rfl rfl rfl ?_
 refine Rg.move rfl rfl ?_
 refine Rg.gsplitp (g := 5) rfl (fun g1_2 => ?_) (fun g1_2 => ?_)
 ·refine Rg.gyes rfl rfl ?_
  refine Rg.move rfl rfl ?_
  refine Rg.gyes rfl rfl ?_
  refine Rg.ile rfl rfl rfl ?_
  refine Rg.pickt rfl rfl rfl ?_
  refine Rg.move rfl rfl ?_
  refine Rg.gsplitp (g := 9) rfl (fun g1_6 => ?_) (fun g1_6 => ?_)
  ·refine Rg.gno rfl rfl rfl rfl ?_
   refine Rg.gno rfl rfl rfl rfl ?_
   refine Rg.gno rfl rfl rfl rfl ?_
   refine Rg.gnox rfl rfl rfl ?_
   refine Rg.gnox rfl rfl rfl ?_
   refine Rg.gno rfl rfl rfl rfl ?_
   refine Rg.gno rfl rfl rfl rfl ?_
   refine Rg.gnox rfl rfl rfl ?_
   refine Rg.gnox rfl rfl rfl ?_
   refine Rg.gno rfl rfl rfl rfl ?_
   refine Rg.pickt rfl rfl rfl ?_
   refine Rg.nil ?_
   refine T.ift rfl ?_
   refine T.seq ?_
   refine T.region ?_
   refine Rg.move rfl rfl ?_
   refine Rg.iadd rfl rfl rfl (by omega) ?_
   refine Rg.assign rfl rfl ?_
   refine Rg.nil ?_
   refine T.ret ?_
   exact Kret1 rfl rfl ⟨by rw [foldZ, if_pos (by omega)], rfl⟩
  ·refine Rg.gyes rfl rfl ?_
   refine Rg.move rfl rfl ?_
   refine Rg.gyes rfl rfl ?_
   refine Rg.ige rfl rfl rfl ?_
   refine Rg.gyes rfl rfl ?_
   refine Rg.move rfl rfl ?_
   refine Rg.gsplitp (g := 12) rfl (fun g1_9 => ?_) (fun g1_9 => ?_)
   ·refine Rg.gyes rfl rfl ?_
    refine Rg.move rfl rfl ?_
    refine Rg.gyes rfl rfl ?_
    refine Rg.ile rfl rfl rfl ?_
    refine Rg.gyes rfl rfl ?_
    refine Rg.pickt rfl rfl rfl ?_
    refine Rg.gyes rfl rfl ?_
    refine Rg.move rfl rfl ?_
    refine Rg.gsplitp (g := 16) rfl (fun g1_13 => ?_) (fun g1_13 => ?_)
    ·refine Rg.gyes rfl rfl ?_
     refine Rg.move rfl rfl ?_
     refine Rg.gyes rfl rfl ?_
     refine Rg.ine rfl rfl rfl ?_
     refine Rg.gyes rfl rfl ?_
     refine Rg.pickt rfl rfl rfl ?_
     refine Rg.pickf rfl rfl rfl ?_
     refine Rg.nil ?_
     refine T.ifp rfl (fun c1 => ?_) (fun c1 => ?_)
     ·refine T.seq ?_
      refine T.region ?_
      refine Rg.move rfl rfl ?_
      refine Rg.iadd rfl rfl rfl (by omega) ?_
      refine Rg.assign rfl rfl ?_
      refine Rg.nil ?_
      refine T.ret ?_
      exact Kret1 rfl rfl ⟨by rw [foldZ, if_pos (by omega)], rfl⟩
     ·refine T.skip ?_
      refine T.seq ?_
      refine T.region ?_
      refine Rg.move rfl rfl ?_
      refine Rg.assign rfl rfl ?_
      refine Rg.nil ?_
      refine T.ret ?_
      exact Kret1 rfl rfl ⟨by rw [foldZ, if_neg (by omega)], rfl⟩
    ·refine Rg.gno rfl rfl rfl rfl ?_
     refine Rg.gno rfl rfl rfl rfl ?_
     refine Rg.gyes rfl rfl ?_
     refine Rg.pickf rfl rfl rfl ?_
     refine Rg.pickf rfl rfl rfl ?_
     refine Rg.nil ?_
     refine T.iff rfl ?_
     refine T.skip ?_
     refine T.seq ?_
     refine T.region ?_
     refine Rg.move rfl rfl ?_
     refine Rg.assign rfl rfl ?_
     refine Rg.nil ?_
     refine T.ret ?_
     exact Kret1 rfl rfl ⟨by rw [foldZ, if_neg (by omega)], rfl⟩
   ·refine Rg.gno rfl rfl rfl rfl ?_
    refine Rg.gno rfl rfl rfl rfl ?_
    refine Rg.gyes rfl rfl ?_
    refine Rg.pickf rfl rfl rfl ?_
    refine Rg.gyes rfl rfl ?_
    refine Rg.move rfl rfl ?_
    refine Rg.gno rfl rfl rfl rfl ?_
    refine Rg.gno rfl rfl rfl rfl ?_
    refine Rg.gyes rfl rfl ?_
    refine Rg.pickf rfl rfl rfl ?_
    refine Rg.pickf rfl rfl rfl ?_
    refine Rg.nil ?_
    refine T.iff rfl ?_
    refine T.skip ?_
    refine T.seq ?_
    refine T.region ?_
    refine Rg.move rfl rfl ?_
    refine Rg.assign rfl rfl ?_
    refine Rg.nil ?_
    refine T.ret ?_
    exact Kret1 rfl rfl ⟨by rw [foldZ, if_neg (by omega)], rfl⟩
 ·refine Rg.gno rfl rfl rfl rfl ?_
  refine Rg.gno rfl rfl rfl rfl ?_
  refine Rg.pickf rfl rfl rfl ?_
  refine Rg.move rfl rfl ?_
  refine Rg.gyes rfl rfl ?_
  refine Rg.move rfl rfl ?_
  refine Rg.gyes rfl rfl ?_
  refine Rg.ige rfl rfl rfl ?_
  refine Rg.gyes rfl rfl ?_
  refine Rg.move rfl rfl ?_
  refine Rg.gsplitp (g := 12) rfl (fun g1_9 => ?_) (fun g1_9 => ?_)
  ·refine Rg.gyes rfl rfl ?_
   refine Rg.move rfl rfl ?_
   refine Rg.gyes rfl rfl ?_
   refine Rg.ile rfl rfl rfl ?_
   refine Rg.gyes rfl rfl ?_
   refine Rg.pickt rfl rfl rfl ?_
   refine Rg.gyes rfl rfl ?_
   refine Rg.move rfl rfl ?_
   refine Rg.gsplitp (g := 16) rfl (fun g1_13 => ?_) (fun g1_13 => ?_)
   ·refine Rg.gyes rfl rfl ?_
    refine Rg.move rfl rfl ?_
    refine Rg.gyes rfl rfl ?_
    refine Rg.ine rfl rfl rfl ?_
    refine Rg.gyes rfl rfl ?_
    refine Rg.pickt rfl rfl rfl ?_
    refine Rg.pickf rfl rfl rfl ?_
    refine Rg.nil ?_
    refine T.ifp rfl (fun c1 => ?_) (fun c1 => ?_)
    ·refine T.seq ?_
     refine T.region ?_
     refine Rg.move rfl rfl ?_
     refine Rg.iadd rfl rfl rfl (by omega) ?_
     refine Rg.assign rfl rfl ?_
     refine Rg.nil ?_
     refine T.ret ?_
     exact Kret1 rfl rfl ⟨by rw [foldZ, if_pos (by omega)], rfl⟩
    ·refine T.skip ?_
     refine T.seq ?_
     refine T.region ?_
     refine Rg.move rfl rfl ?_
     refine Rg.assign rfl rfl ?_
     refine Rg.nil ?_
     refine T.ret ?_
     exact Kret1 rfl rfl ⟨by rw [foldZ, if_neg (by omega)], rfl⟩
   ·refine Rg.gno rfl rfl rfl rfl ?_
    refine Rg.gno rfl rfl rfl rfl ?_
    refine Rg.gyes rfl rfl ?_
    refine Rg.pickf rfl rfl rfl ?_
    refine Rg.pickf rfl rfl rfl ?_
    refine Rg.nil ?_
    refine T.iff rfl ?_
    refine T.skip ?_
    refine T.seq ?_
    refine T.region ?_
    refine Rg.move rfl rfl ?_
    refine Rg.assign rfl rfl ?_
    refine Rg.nil ?_
    refine T.ret ?_
    exact Kret1 rfl rfl ⟨by rw [foldZ, if_neg (by omega)], rfl⟩
  ·refine Rg.gno rfl rfl rfl rfl ?_
   refine Rg.gno rfl rfl rfl rfl ?_
   refine Rg.gyes rfl rfl ?_
   refine Rg.pickf rfl rfl rfl ?_
   refine Rg.gyes rfl rfl ?_
   refine Rg.move rfl rfl ?_
   refine Rg.gno rfl rfl rfl rfl ?_
   refine Rg.gno rfl rfl rfl rfl ?_
   refine Rg.gyes rfl rfl ?_
   refine Rg.pickf rfl rfl rfl ?_
   refine Rg.pickf rfl rfl rfl ?_
   refine Rg.nil ?_
   refine T.iff rfl ?_
   refine T.skip ?_
   refine T.seq ?_
   refine T.region ?_
   refine Rg.move rfl rfl ?_
   refine Rg.assign rfl rfl ?_
   refine Rg.nil ?_
   refine T.ret ?_
   exact Kret1 rfl rfl ⟨by rw [foldZ, if_neg (by omega)], rfl⟩
end Go.K
namespace Go.Proofs
open Go.Shelf
def Tryz.lays169_ren : Go.Shelf.Ren := ⟨fun | 169 => 256 | n => n, fun | 70 => 307 | 9 => 9 | 0 => 0 | 72 => 309 | 37 => 147 | 127 => 331 | 3 => 3 | 5 => 5 | n => n, fun | n => n⟩
theorem Tryz.lays169 : Go.Proofs.Lays.n169 Tryz.prog Tryz.lays169_ren := {
 mixed := by kernel_rfl
 f169 := Tryz.func256.trans (congrArg some (by kernel_rfl))
 t0 := Tryz.underlying0
 a0 := Tryz.isAgg0
 z0 := Tryz.sizeOf0
 v0 := Tryz.zeroValue0
 t3 := Tryz.underlying3
 a3 := Tryz.isAgg3
 z3 := Tryz.sizeOf3
 v3 := Tryz.zeroValue3
 t9 := Tryz.underlying9
 a9 := Tryz.isAgg9
 z9 := Tryz.sizeOf9
 v9 := Tryz.zeroValue9
 t37 := Tryz.underlying147
 a37 := Tryz.isAgg147
 z37 := Tryz.sizeOf147
 v37 := Tryz.zeroValue147
 t70 := Tryz.underlying307
 a70 := Tryz.isAgg307
 z70 := Tryz.sizeOf307
 v70 := Tryz.zeroValue307
 t72 := Tryz.underlying309
 a72 := Tryz.isAgg309
 z72 := Tryz.sizeOf309
 v72 := Tryz.zeroValue309
 t127 := Tryz.underlying331
 a127 := Tryz.isAgg331
 z127 := Tryz.sizeOf331
 v127 := Tryz.zeroValue331 }
def Tryz.lays119_ren : Go.Shelf.Ren := ⟨fun | 119 => 277 | n => n, fun | 21 => 21 | 4 => 4 | n => n, fun | n => n⟩
theorem Tryz.lays119 : Go.Proofs.Lays.n119 Tryz.prog Tryz.lays119_ren := {
 mixed := by kernel_rfl
 f119 := Tryz.func277.trans (congrArg some (by kernel_rfl))
 t4 := Tryz.underlying4
 a4 := Tryz.isAgg4
 z4 := Tryz.sizeOf4
 v4 := Tryz.zeroValue4
 t21 := Tryz.underlying21
 a21 := Tryz.isAgg21
 z21 := Tryz.sizeOf21
 v21 := Tryz.zeroValue21 }
def Tryz.lays106_ren : Go.Shelf.Ren := ⟨fun | 106 => 159 | 213 => 198 | 265 => 235 | n => n, fun | 9 => 9 | 3 => 3 | n => n, fun | n => n⟩
theorem Tryz.lays106 : Go.Proofs.Lays.n106 Tryz.prog Tryz.lays106_ren := {
 mixed := by kernel_rfl
 f106 := Tryz.func159.trans (congrArg some (by kernel_rfl))
 f213 := Tryz.func198.trans (congrArg some (by kernel_rfl))
 f265 := Tryz.func235.trans (congrArg some (by kernel_rfl))
 t3 := Tryz.underlying3
 a3 := Tryz.isAgg3
 z3 := Tryz.sizeOf3
 v3 := Tryz.zeroValue3
 t9 := Tryz.underlying9
 a9 := Tryz.isAgg9
 z9 := Tryz.sizeOf9
 v9 := Tryz.zeroValue9 }
theorem Tryz.Builder_Extra_169 : Builder.Extra Tryz.prog Tryz.lays169_ren := {
 sizeBuilder := by kernel_rfl
 liesBuilder := by kernel_rfl
 t5 := Tryz.underlying5
 a5 := Tryz.isAgg5
 z5 := Tryz.sizeOf5
 v5 := Tryz.zeroValue5
 infoByte := by kernel_rfl
 cellsByte := by kernel_rfl
 sizeByte := by kernel_rfl
 neB5 := by decide }
def Tryz.lays168_ren : Go.Shelf.Ren := ⟨fun | 168 => 254 | 240 => 275 | 242 => 276 | 276 => 285 | 278 => 286 | n => n, fun | 0 => 0 | 3 => 3 | 4 => 4 | 5 => 5 | 9 => 9 | 20 => 20 | 21 => 21 | 37 => 147 | 46 => 183 | 51 => 273 | 70 => 307 | 72 => 309 | 75 => 311 | 80 => 315 | 164 => 336 | n => n, fun | n => n⟩
theorem Tryz.lays168 : Go.Proofs.Lays.n168 Tryz.prog Tryz.lays168_ren := {
 mixed := by kernel_rfl
 f168 := Tryz.func254.trans (congrArg some (by kernel_rfl))
 f240 := Tryz.func275.trans (congrArg some (by kernel_rfl))
 f242 := Tryz.func276.trans (congrArg some (by kernel_rfl))
 f276 := Tryz.func285.trans (congrArg some (by kernel_rfl))
 f278 := Tryz.func286.trans (congrArg some (by kernel_rfl))
 t0 := Tryz.underlying0
 a0 := Tryz.isAgg0
 z0 := Tryz.sizeOf0
 v0 := Tryz.zeroValue0
 t3 := Tryz.underlying3
 a3 := Tryz.isAgg3
 z3 := Tryz.sizeOf3
 v3 := Tryz.zeroValue3
 t4 := Tryz.underlying4
 a4 := Tryz.isAgg4
 z4 := Tryz.sizeOf4
 v4 := Tryz.zeroValue4
 t5 := Tryz.underlying5
 a5 := Tryz.isAgg5
 z5 := Tryz.sizeOf5
 v5 := Tryz.zeroValue5
 t9 := Tryz.underlying9
 a9 := Tryz.isAgg9
 z9 := Tryz.sizeOf9
 v9 := Tryz.zeroValue9
 t20 := Tryz.underlying20
 a20 := Tryz.isAgg20
 z20 := Tryz.sizeOf20
 v20 := Tryz.zeroValue20
 t21 := Tryz.underlying21
 a21 := Tryz.isAgg21
 z21 := Tryz.sizeOf21
 v21 := Tryz.zeroValue21
 t37 := Tryz.underlying147
 a37 := Tryz.isAgg147
 z37 := Tryz.sizeOf147
 v37 := Tryz.zeroValue147
 t46 := Tryz.underlying183
 a46 := Tryz.isAgg183
 z46 := Tryz.sizeOf183
 v46 := Tryz.zeroValue183
 t51 := Tryz.underlying273
 a51 := Tryz.isAgg273
 z51 := Tryz.sizeOf273
 v51 := Tryz.zeroValue273
 t70 := Tryz.underlying307
 a70 := Tryz.isAgg307
 z70 := Tryz.sizeOf307
 v70 := Tryz.zeroValue307
 t72 := Tryz.underlying309
 a72 := Tryz.isAgg309
 z72 := Tryz.sizeOf309
 v72 := Tryz.zeroValue309
 t75 := Tryz.underlying311
 a75 := Tryz.isAgg311
 z75 := Tryz.sizeOf311
 v75 := Tryz.zeroValue311
 t164 := Tryz.underlying336
 a164 := Tryz.isAgg336
 z164 := Tryz.sizeOf336
 v164 := Tryz.zeroValue336 }
theorem Tryz.Builder_Extra_168 : Builder.Extra Tryz.prog Tryz.lays168_ren where
 sizeBuilder := by kernel_rfl
 liesBuilder := by kernel_rfl
 t5 := Tryz.underlying5
 a5 := Tryz.isAgg5
 z5 := Tryz.sizeOf5
 v5 := Tryz.zeroValue5
 infoByte := by kernel_rfl
 cellsByte := by kernel_rfl
 sizeByte := by kernel_rfl
 neB5 := by decide
end Go.Proofs
namespace Go.K
open Go.Proofs
set_option linter.unusedVariables false
set_option linter.unusedSimpArgs false
set_option maxRecDepth 10000
open Go.RowKit Go.Shelf
theorem valid_spec (r : Int) (w : World) : Spec Tryz.prog 277 #[.int .i32 r] w (fun v w' => v = .bool (Lib.validRune r) ∧ w' = w) := (Any.utf8_ValidRune Tryz.lays119 r w).mono fun e w' ⟨h1, h2⟩ => ⟨_, h1, rfl, h2⟩
theorem rune_spec {B b : Nat} {bs : List Value} {r : Int} (w : World) (hr : -2147483648 ≤ r ∧ r ≤ 2147483647) (h : Lib.IsBuilderF 309 5 B b bs w) (hl : bs.length + 4 ≤ 140737488355328) (hB : B ≤ w.heap.size) :
  Spec Tryz.prog 254 #[.pointer (some ⟨b, 0, none⟩), .int .i32 r] w (fun v w' => Lib.IsBuilderF 309 5 B b (bs ++ Lib.runeCells r) w' ∧ Below B w w') :=
 (Any.Builder_WriteRune_k Tryz.lays168 Tryz.Builder_Extra_168 B b bs r hr.1 hr.2 w h hl hB).mono fun e w' ⟨h1, h2, h3, _⟩ => ⟨_, h1, .inr h2, h3⟩
theorem str_spec {B b : Nat} {l : List UInt8} (w : World) (h : Lib.IsBuilderF 309 5 B b (Lib.byteCells l) w) (hB : B ≤ w.heap.size) :
  Spec Tryz.prog 256 #[.pointer (some ⟨b, 0, none⟩)] w (fun v w' => v = .string ⟨l.toArray⟩ ∧ Below B w w') :=
 (Any.Builder_String_any_k Tryz.lays169 Tryz.Builder_Extra_169 B b l w h hB).mono fun e w' ⟨h1, _, h3, _⟩ => ⟨_, h1, rfl, h3⟩
theorem wrap32 {c : Int} (h : 0 ≤ c ∧ c ≤ 1114111) : IntKind.i32.wrap c = c := by
 show (if (true && decide (c % 4294967296 ≥ 2147483648)) = true then c % 4294967296 - 4294967296 else c % 4294967296) = c
 rw [if_neg (by simp only [Bool.true_and, decide_eq_true_eq]; omega)]
 omega
def sgn (c : Int) : Int := if c < 0 ∨ c > 1114111 ∨ Lib.validRune c = false then 65533 else c
theorem sgn_rng (c : Int) : 0 ≤ sgn c ∧ sgn c ≤ 1114111 := by unfold sgn; split <;> omega
def textB (l : List Int) : List UInt8 := l.flatMap fun c => Lib.encodeRune (sgn c)
theorem textB_snoc (l : List Int) (c : Int) : textB (l ++ [c]) = textB l ++ Lib.encodeRune (sgn c) := by simp [textB]
theorem enc_len (r : Int) : (Lib.encodeRune r).length ≤ 4 := by have := (Lib.encodeRuneZ_length r).2; simpa [Lib.encodeRune] using this
theorem textB_len (l : List Int) : (textB l).length ≤ 4 * l.length := by
 induction l with
 |nil => simp [textB]
 |cons c l ih =>
  have := enc_len (sgn c)
  simp only [textB, List.flatMap_cons, List.length_append, List.length_cons] at ih ⊢
  omega
theorem byteCells_snoc (l : List Int) (c : Int) : Lib.byteCells (textB l) ++ Lib.runeCells (sgn c) = Lib.byteCells (textB (l ++ [c])) := by
 rw [textB_snoc, ← Lib.byteCells_encodeRune]; simp [Lib.byteCells]
theorem sgn_spec (c : Int) (w0 : World) :
  Spec Tryz.prog 255 #[.int .i64 c] w0 (fun v w => v = .int .i32 (sgn c) ∧ w = w0) := by
 refine spec_of (args := [_]) (fn := Tryz.f255) Tryz.func255 rfl (n := 17) Tryz.ntmps255 ?_
 refine T.seq ?_
 refine T.region ?_
 refine Rg.assign rfl rfl ?_
 refine Rg.nil ?_
 refine T.seq ?_
 refine T.seq ?_
 refine T.region ?_
 refine Rg.move rfl rfl ?_
 refine Rg.ilt rfl rfl rfl ?_
 refine Rg.move rfl rfl ?_
 refine Rg.gsplitp (g := 5) rfl (fun g1_2 => ?_) (fun g1_2 => ?_)
 ·refine Rg.gno rfl rfl rfl rfl ?_
  refine Rg.gno rfl rfl rfl rfl ?_
  refine Rg.pickt rfl rfl rfl ?_
  refine Rg.move rfl rfl ?_
  refine Rg.gno rfl rfl rfl rfl ?_
  refine Rg.gno rfl rfl rfl rfl ?_
  refine Rg.gno rfl rfl rfl rfl ?_
  refine Rg.gno rfl rfl rfl rfl ?_
  refine Rg.pickt rfl rfl rfl ?_
  refine Rg.nil ?_
  refine T.ift rfl ?_
  refine T.seq ?_
  refine T.region ?_
  refine Rg.assign rfl rfl ?_
  refine Rg.nil ?_
  refine T.ret ?_
  exact Kret1 rfl rfl ⟨by rw [sgn, if_pos (by first | exact .inl (by omega) | exact .inr (.inl (by omega)) | exact .inr (.inr (by assumption)))], rfl⟩
 ·refine Rg.gyes rfl rfl ?_
  refine Rg.move rfl rfl ?_
  refine Rg.gyes rfl rfl ?_
  refine Rg.igt rfl rfl rfl ?_
  refine Rg.pickf rfl rfl rfl ?_
  refine Rg.move rfl rfl ?_
  refine Rg.gsplitp (g := 9) rfl (fun g1_6 => ?_) (fun g1_6 => ?_)
  ·refine Rg.gno rfl rfl rfl rfl ?_
   refine Rg.gno rfl rfl rfl rfl ?_
   refine Rg.gno rfl rfl rfl rfl ?_
   refine Rg.gno rfl rfl rfl rfl ?_
   refine Rg.pickt rfl rfl rfl ?_
   refine Rg.nil ?_
   refine T.ift rfl ?_
   refine T.seq ?_
   refine T.region ?_
   refine Rg.assign rfl rfl ?_
   refine Rg.nil ?_
   refine T.ret ?_
   exact Kret1 rfl rfl ⟨by rw [sgn, if_pos (by first | exact .inl (by omega) | exact .inr (.inl (by omega)) | exact .inr (.inr (by assumption)))], rfl⟩
  ·refine Rg.gyes rfl rfl ?_
   refine Rg.move rfl rfl ?_
   refine Rg.gyes rfl rfl ?_
   refine Rg.conv Tryz.underlying3 Tryz.underlying21 rfl rfl ?_
   refine Rg.eqv (v' := .int .i32 c) (congrArg (Value.int .i32) (wrap32 (by omega))) ?_
   refine Rg.gyes rfl rfl ?_
   refine Rg.call rfl rfl E277 (valid_spec _ _) (fun r wc hc => ?_)
   obtain ⟨rfl, rfl⟩ := hc
   refine Rg.gyes rfl rfl ?_
   refine Rg.not rfl rfl ?_
   refine Rg.eqv (v' := .bool (decide (Lib.validRune c = false))) (by cases Lib.validRune c <;> rfl) ?_
   refine Rg.pickf rfl rfl rfl ?_
   refine Rg.nil ?_
   refine T.ifp rfl (fun c1 => ?_) (fun c1 => ?_)
   ·refine T.seq ?_
    refine T.region ?_
    refine Rg.assign rfl rfl ?_
    refine Rg.nil ?_
    refine T.ret ?_
    exact Kret1 rfl rfl ⟨by rw [sgn, if_pos (by first | exact .inl (by omega) | exact .inr (.inl (by omega)) | exact .inr (.inr (by assumption)))], rfl⟩
   ·refine T.skip ?_
    refine T.seq ?_
    refine T.region ?_
    refine Rg.move rfl rfl ?_
    refine Rg.conv Tryz.underlying3 Tryz.underlying21 rfl rfl ?_
    refine Rg.eqv (v' := .int .i32 c) (congrArg (Value.int .i32) (wrap32 (by omega))) ?_
    refine Rg.assign rfl rfl ?_
    refine Rg.nil ?_
    refine T.ret ?_
    exact Kret1 rfl rfl ⟨by rw [sgn, if_neg (by rintro (h | h | h) <;> first | omega | exact absurd h (by assumption))], rfl⟩
theorem text_spec {M : PSet} {xs : List Int} {v0 : Value} (w0 : World) (hM : Lt M w0) (hv : ((RT.int .i64).sl).V M w0 xs v0) (hl : xs.length ≤ 1000000) :
  Spec Tryz.prog 224 #[v0] w0 (fun v w => v = .string ⟨(textB xs).toArray⟩ ∧ Step M w0 M w none') := by
 refine spec_of (args := [_]) (fn := Tryz.f224) Tryz.func224 rfl (n := 17) Tryz.ntmps224 ?_
 refine T.seq ?_
 refine T.region ?_
 refine Rg.assign rfl rfl ?_
 refine Rg.nil ?_
 refine T.seq ?_
 refine T.region ?_
 refine Rg.alloc M I309 rfl (fun b w1 p1 q1 g1 s1 => ?_)
 have hb1 : Lib.IsBuilderF 309 5 w0.heap.size b (Lib.byteCells (textB (xs.take 0))) w1 := .of (.inl ⟨p1, .slice none 0 0, g1, World.ownsRow_nil _ _ _ _, by simp [Value.ownBlock]⟩)
 have S1 : Below w0.heap.size w0 w1 := s1.below
 refine Rg.nil ?_
 refine T.seq ?_
 refine T.seq ?_
 refine T.region ?_
 refine Rg.move rfl rfl ?_
 refine Rg.lensl Tryz.underlying32 rfl hv rfl ?_
 refine Rg.move rfl rfl ?_
 refine Rg.nil ?_
 refine T.block ?_
 refine T.loop (σ := Nat) (fun k => [(3, .pointer (some ⟨b, 0, none⟩)), (6, v0), (7, .int .i64 (xs.length : Int)), (8, .int .i64 (k : Int))]) (fun k w => Lib.IsBuilderF 309 5 w0.heap.size b (Lib.byteCells (textB (xs.take k))) w ∧ Below w0.heap.size w0 w ∧ k ≤ xs.length) (fun k => xs.length - k) 0 (.cons rfl (.cons rfl (.cons rfl (.cons rfl .nil)))) ?_ ?_
 ·exact ⟨hb1, S1, Nat.zero_le _⟩
 ·rintro k w ⟨hb, S, hk⟩
  refine T.seq ?_
  refine T.region ?_
  refine Rg.ilt rfl rfl rfl ?_
  refine Rg.nil ?_
  refine T.seq ?_
  refine T.ifp rfl (fun c3 => ?_) (fun c3 => ?_)
  ·refine T.skip ?_
   refine T.seq ?_
   refine T.block ?_
   refine T.seq ?_
   refine T.region ?_
   refine Rg.idx (M := M) Tryz.underlying32 I3 rfl rfl rfl hv (Step.below' S M).le (by omega) (fun u4 c hg4 hu4 => ?_) --@ptr RT.int .i64 ;; c
   refine Rg.loadi64 (M := M) Tryz.underlying3 rfl rfl hu4 (Le.refl _ _) (fun in4 => ?_)
   refine Rg.assign rfl rfl ?_
   refine Rg.nil ?_
   refine T.region ?_
   refine Rg.move rfl rfl ?_
   refine Rg.call rfl rfl E255 (sgn_spec c _) (fun r wc hc => ?_)
   obtain ⟨rfl, rfl⟩ := hc
   refine Rg.call rfl rfl E254 (rune_spec _ (by have := sgn_rng c; omega) hb (by rw [Lib.byteCells_length]; have := textB_len (xs.take k); rw [List.length_take] at this; omega) S.size) (fun r5 w5 hc => ?_)
   obtain ⟨hb5, S5⟩ := hc
   have tk : xs.take (k + 1) = xs.take k ++ [c] := by rw [List.take_add_one]; simp only [Int.toNat_natCast] at hg4; rw [hg4]; rfl
   rw [byteCells_snoc, ← tk] at hb5
   have S6 := S.trans S5
   refine Rg.nil ?_
   refine T.region ?_
   refine Rg.iadd rfl rfl rfl (by omega) ?_
   refine Rg.move rfl rfl ?_
   refine Rg.nil ?_
   refine ⟨rfl, k + 1, (.cons rfl (.cons rfl (.cons rfl (.cons rfl .nil)))), ?_, ?_⟩
   ·exact ⟨hb5, S6, by omega⟩
   ·omega
  ·refine T.exit ?_
   refine T.seq ?_
   refine T.region ?_
   refine Rg.call rfl rfl E256 (str_spec _ hb S.size) (fun r7 w7 hc => ?_)
   obtain ⟨rfl, S7⟩ := hc
   refine Rg.assign rfl rfl ?_
   refine Rg.nil ?_
   refine T.ret ?_
   have e : xs.take k = xs := List.take_of_length_le (by omega)
   rw [e]
   exact Kret1 rfl rfl ⟨rfl, Step.below' (S.trans S7) M⟩
end Go.K
namespace Go.K
set_option linter.unusedVariables false
set_option linter.unusedSimpArgs false
def nO (c : Int) : Int := if 194 ≤ c ∧ c < 224 then 2 else if 224 ≤ c ∧ c < 240 then 3 else if 240 ≤ c ∧ c < 245 then 4 else 0
def leastO (c : Int) : Int := if 194 ≤ c ∧ c < 224 then 128 else if 224 ≤ c ∧ c < 240 then 2048 else if 240 ≤ c ∧ c < 245 then 65536 else 0
def vO0 (c : Int) : Int := if 194 ≤ c ∧ c < 224 then c - 192 else if 224 ≤ c ∧ c < 240 then c - 224 else if 240 ≤ c ∧ c < 245 then c - 240 else 0
def vO (l : List UInt8) : Nat → Int
 |0 => vO0 (atB l 0)
 |k + 1 => 64 * vO l k + atB l (k + 1) - 128
theorem contB_iff {l : List UInt8} {k : Nat} : contB l k = true ↔ k < l.length ∧ 128 ≤ atB l k ∧ atB l k < 192 := by
 unfold contB
 simp only [Bool.and_eq_true, decide_eq_true_eq, beq_iff_eq]
 omega
theorem valid_iff {n : Nat} : Utf8.valid (n : Int) = true ↔ (n < 55296 ∨ (57344 ≤ n ∧ n ≤ 1114111)) := by
 simp only [Utf8.valid, Bool.or_eq_true, Bool.and_eq_true, decide_eq_true_eq]
 omega
theorem dec_A {l : List UInt8} (h : (atB l 0 : Int) < 128) : dec l = (atB l 0, 1) := by
 unfold dec decG
 rw [if_pos (by omega)]
theorem dec_D {l : List UInt8} (h0 : 128 ≤ (atB l 0 : Int)) (h : nO (atB l 0) = 0 ∨ ∃ k : Nat, 1 ≤ k ∧ (k : Int) < nO (atB l 0) ∧ contB l k = false) : dec l = (65533, 1) := by
 have hb := atB_lt l 0
 unfold dec decG
 rw [if_neg (by omega)]
 have hk : nO (atB l 0) = 0 ∨ (2 ≤ nO (atB l 0) ∧ contB l 1 = false) ∨ (3 ≤ nO (atB l 0) ∧ contB l 2 = false) ∨ (4 ≤ nO (atB l 0) ∧ contB l 3 = false) := by
  rcases h with h | ⟨k, h1, h2, h3⟩
  ·exact .inl h
  ·have : nO (atB l 0) ≤ 4 := by
    unfold nO
    split
    ·omega
    ·split
     ·omega
     ·split <;> omega
   have hk : k = 1 ∨ k = 2 ∨ k = 3 := by omega
   rcases hk with rfl | rfl | rfl
   ·exact .inr (.inl ⟨by omega, h3⟩)
   ·exact .inr (.inr (.inl ⟨by omega, h3⟩))
   ·exact .inr (.inr (.inr ⟨by omega, h3⟩))
 simp only [beq_iff_eq, Bool.and_eq_true, decide_eq_true_eq, ge_iff_le, valid_iff]
 have hn : nO (atB l 0) = if 194 ≤ (atB l 0 : Int) ∧ (atB l 0 : Int) < 224 then 2 else if 224 ≤ (atB l 0 : Int) ∧ (atB l 0 : Int) < 240 then 3 else if 240 ≤ (atB l 0 : Int) ∧ (atB l 0 : Int) < 245 then 4 else 0 := rfl
 rw [hn] at hk
 split
 ·rename_i hc
  obtain ⟨hc1, hc2⟩ := hc
  split
  ·rename_i hv
   exfalso
   by_cases h194 : 194 ≤ (atB l 0 : Int)
   ·rw [if_pos (by omega)] at hk
    rcases hk with hk | ⟨_, hk⟩ | ⟨hk, _⟩ | ⟨hk, _⟩
    ·omega
    ·rw [hk] at hc2; cases hc2
    ·omega
    ·omega
   ·omega
  ·rfl
 ·split
  ·rename_i hc
   obtain ⟨⟨hc1, hc2⟩, hc3⟩ := hc
   split
   ·exfalso
    rw [if_neg (by omega), if_pos (by omega)] at hk
    rcases hk with hk | ⟨_, hk⟩ | ⟨_, hk⟩ | ⟨hk, _⟩
    ·omega
    ·rw [hk] at hc2; cases hc2
    ·rw [hk] at hc3; cases hc3
    ·omega
   ·rfl
  ·split
   ·rename_i hc
    obtain ⟨⟨⟨hc1, hc2⟩, hc3⟩, hc4⟩ := hc
    split
    ·rename_i hv
     exfalso
     by_cases h245 : (atB l 0 : Int) < 245
     ·rw [if_neg (by omega), if_neg (by omega), if_pos (by omega)] at hk
      rcases hk with hk | ⟨_, hk⟩ | ⟨_, hk⟩ | ⟨_, hk⟩
      ·omega
      ·rw [hk] at hc2; cases hc2
      ·rw [hk] at hc3; cases hc3
      ·rw [hk] at hc4; cases hc4
     ·omega
    ·rfl
   ·rfl
theorem nO_cases {c : Int} (h : nO c ≠ 0) : (nO c = 2 ∧ leastO c = 128 ∧ vO0 c = c - 192 ∧ 194 ≤ c ∧ c < 224) ∨ (nO c = 3 ∧ leastO c = 2048 ∧ vO0 c = c - 224 ∧ 224 ≤ c ∧ c < 240) ∨ (nO c = 4 ∧ leastO c = 65536 ∧ vO0 c = c - 240 ∧ 240 ≤ c ∧ c < 245) := by
 by_cases h1 : 194 ≤ c ∧ c < 224
 ·exact .inl ⟨if_pos h1, if_pos h1, if_pos h1, h1.1, h1.2⟩
 ·by_cases h2 : 224 ≤ c ∧ c < 240
  ·exact .inr (.inl ⟨(if_neg h1).trans (if_pos h2), (if_neg h1).trans (if_pos h2), (if_neg h1).trans (if_pos h2), h2.1, h2.2⟩)
  ·by_cases h3 : 240 ≤ c ∧ c < 245
   ·exact .inr (.inr ⟨(if_neg h1).trans ((if_neg h2).trans (if_pos h3)), (if_neg h1).trans ((if_neg h2).trans (if_pos h3)), (if_neg h1).trans ((if_neg h2).trans (if_pos h3)), h3.1, h3.2⟩)
   ·exact absurd ((if_neg h1).trans ((if_neg h2).trans (if_neg h3))) h
theorem dec_E {l : List UInt8} (hn : nO (atB l 0) ≠ 0) (hc : ∀ k : Nat, 1 ≤ k → (k : Int) < nO (atB l 0) → contB l k = true) (v : Int) (hv : v = vO l (nO (atB l 0) - 1).toNat) :
  dec l = if v < leastO (atB l 0) ∨ v > 1114111 ∨ (55296 ≤ v ∧ v ≤ 57343) then (65533, 1) else (v.toNat, (nO (atB l 0)).toNat) := by
 have hb := atB_lt l 0
 have b1 := atB_lt l 1
 have b2 := atB_lt l 2
 have b3 := atB_lt l 3
 unfold dec decG
 simp only [beq_iff_eq, Bool.and_eq_true, decide_eq_true_eq, ge_iff_le, valid_iff]
 rcases nO_cases hn with ⟨e1, e2, e3, e4, e5⟩ | ⟨e1, e2, e3, e4, e5⟩ | ⟨e1, e2, e3, e4, e5⟩
 ·have c1 := hc 1 (by omega) (by omega)
  have d1 := contB_iff.1 c1
  rw [e1] at hv
  have hv2 : v = 64 * ((atB l 0 : Int) - 192) + atB l 1 - 128 := by rw [hv]; show 64 * vO0 (atB l 0) + _ - _ = _; rw [e3]
  rw [if_neg (by omega), if_pos ⟨by omega, c1⟩, e2, e1]
  by_cases hx : v < 128 ∨ v > 1114111 ∨ (55296 ≤ v ∧ v ≤ 57343)
  ·rw [if_pos hx, if_neg (by omega)]
  ·rw [if_neg hx, if_pos (by omega)]
   simp only [Prod.mk.injEq]; omega
 ·have c1 := hc 1 (by omega) (by omega)
  have c2 := hc 2 (by omega) (by omega)
  have d1 := contB_iff.1 c1
  have d2 := contB_iff.1 c2
  rw [e1] at hv
  have hv2 : v = 64 * (64 * ((atB l 0 : Int) - 224) + atB l 1 - 128) + atB l 2 - 128 := by rw [hv]; show 64 * (64 * vO0 (atB l 0) + _ - _) + _ - _ = _; rw [e3]
  rw [if_neg (by omega), if_neg (by omega), if_pos ⟨⟨by omega, c1⟩, c2⟩, e2, e1]
  by_cases hx : v < 2048 ∨ v > 1114111 ∨ (55296 ≤ v ∧ v ≤ 57343)
  ·rw [if_pos hx, if_neg (by omega)]
  ·rw [if_neg hx, if_pos (by omega)]
   simp only [Prod.mk.injEq]; omega
 ·have c1 := hc 1 (by omega) (by omega)
  have c2 := hc 2 (by omega) (by omega)
  have c3 := hc 3 (by omega) (by omega)
  have d1 := contB_iff.1 c1
  have d2 := contB_iff.1 c2
  have d3 := contB_iff.1 c3
  rw [e1] at hv
  have hv2 : v = 64 * (64 * (64 * ((atB l 0 : Int) - 240) + atB l 1 - 128) + atB l 2 - 128) + atB l 3 - 128 := by rw [hv]; show 64 * (64 * (64 * vO0 (atB l 0) + _ - _) + _ - _) + _ - _ = _; rw [e3]
  rw [if_neg (by omega), if_neg (by omega), if_neg (by omega), if_pos ⟨⟨⟨by omega, c1⟩, c2⟩, c3⟩, e2, e1]
  by_cases hx : v < 65536 ∨ v > 1114111 ∨ (55296 ≤ v ∧ v ≤ 57343)
  ·rw [if_pos hx, if_neg (by omega)]
  ·rw [if_neg hx, if_pos (by omega)]
   simp only [Prod.mk.injEq]; omega
end Go.K
namespace Go.K
open Go.Proofs
set_option linter.unusedVariables false
set_option linter.unusedSimpArgs false
set_option maxRecDepth 10000
theorem rletter_spec (c : Int) (w0 : World) :
  Spec Tryz.prog 253 #[.int .i64 c] w0 (fun v w => v = .bool (letB c) ∧ w = w0) := by
 refine spec_of (args := [_]) (fn := Tryz.f253) Tryz.func253 rfl (n := 31) Tryz.ntmps253 ?_
 refine T.seq ?_
 refine T.region ?_
 refine Rg.assign rfl rfl ?_
 refine Rg.nil ?_
 refine T.seq ?_
 refine T.seq ?_
 refine T.region ?_
 refine Rg.move rfl rfl ?_
 refine Rg.ige rfl rfl rfl ?_
 refine Rg.move rfl rfl ?_
 refine Rg.gsplitp (g := 5) rfl (fun g1_2 => ?_) (fun g1_2 => ?_)
 ·refine Rg.gyes rfl rfl ?_
  refine Rg.move rfl rfl ?_
  refine Rg.gyes rfl rfl ?_
  refine Rg.ile rfl rfl rfl ?_
  refine Rg.pickt rfl rfl rfl ?_
  refine Rg.move rfl rfl ?_
  refine Rg.gsplitp (g := 9) rfl (fun g1_6 => ?_) (fun g1_6 => ?_)
  ·refine Rg.gno rfl rfl rfl rfl ?_
   refine Rg.gno rfl rfl rfl rfl ?_
   refine Rg.gno rfl rfl rfl rfl ?_
   refine Rg.gnox rfl rfl rfl ?_
   refine Rg.gnox rfl rfl rfl ?_
   refine Rg.gno rfl rfl rfl rfl ?_
   refine Rg.pickt rfl rfl rfl ?_
   refine Rg.nil ?_
   refine T.ift rfl ?_
   refine T.seq ?_
   refine T.region ?_
   refine Rg.assign rfl rfl ?_
   refine Rg.nil ?_
   refine T.ret ?_
   exact Kret1 rfl rfl ⟨by simp only [letB]; first | rfl | (congr 1; first | (exact (decide_eq_true (by omega)).symm) | (exact (decide_eq_false (by omega)).symm) | (exact decide_eq_decide.2 (by omega))), rfl⟩
  ·refine Rg.gyes rfl rfl ?_
   refine Rg.move rfl rfl ?_
   refine Rg.gyes rfl rfl ?_
   refine Rg.ige rfl rfl rfl ?_
   refine Rg.gyes rfl rfl ?_
   refine Rg.move rfl rfl ?_
   refine Rg.gsplitp (g := 12) rfl (fun g1_9 => ?_) (fun g1_9 => ?_)
   ·refine Rg.gyes rfl rfl ?_
    refine Rg.move rfl rfl ?_
    refine Rg.gyes rfl rfl ?_
    refine Rg.ile rfl rfl rfl ?_
    refine Rg.gyes rfl rfl ?_
    refine Rg.pickt rfl rfl rfl ?_
    refine Rg.pickf rfl rfl rfl ?_
    refine Rg.nil ?_
    refine T.ifp rfl (fun c1 => ?_) (fun c1 => ?_)
    ·refine T.seq ?_
     refine T.region ?_
     refine Rg.assign rfl rfl ?_
     refine Rg.nil ?_
     refine T.ret ?_
     exact Kret1 rfl rfl ⟨by simp only [letB]; first | rfl | (congr 1; first | (exact (decide_eq_true (by omega)).symm) | (exact (decide_eq_false (by omega)).symm) | (exact decide_eq_decide.2 (by omega))), rfl⟩
    ·refine T.skip ?_
     refine T.seq ?_
     refine T.region ?_
     refine Rg.move rfl rfl ?_
     refine Rg.ige rfl rfl rfl ?_
     refine Rg.move rfl rfl ?_
     refine Rg.gsplitp (g := 19) rfl (fun g3_2 => ?_) (fun g3_2 => ?_)
     ·refine Rg.gyes rfl rfl ?_
      refine Rg.move rfl rfl ?_
      refine Rg.gyes rfl rfl ?_
      refine Rg.ile rfl rfl rfl ?_
      refine Rg.pickt rfl rfl rfl ?_
      refine Rg.move rfl rfl ?_
      refine Rg.gsplitp (g := 23) rfl (fun g3_6 => ?_) (fun g3_6 => ?_)
      ·refine Rg.gyes rfl rfl ?_
       refine Rg.move rfl rfl ?_
       refine Rg.gyes rfl rfl ?_
       refine Rg.ine rfl rfl rfl ?_
       refine Rg.pickt rfl rfl rfl ?_
       refine Rg.move rfl rfl ?_
       refine Rg.gsplitp (g := 27) rfl (fun g3_10 => ?_) (fun g3_10 => ?_)
       ·refine Rg.gyes rfl rfl ?_
        refine Rg.move rfl rfl ?_
        refine Rg.gyes rfl rfl ?_
        refine Rg.ine rfl rfl rfl ?_
        refine Rg.pickt rfl rfl rfl ?_
        refine Rg.assign rfl rfl ?_
        refine Rg.nil ?_
        refine T.ret ?_
        exact Kret1 rfl rfl ⟨by simp only [letB]; first | rfl | (congr 1; first | (exact (decide_eq_true (by omega)).symm) | (exact (decide_eq_false (by omega)).symm) | (exact decide_eq_decide.2 (by omega))), rfl⟩
       ·refine Rg.gno rfl rfl rfl rfl ?_
        refine Rg.gno rfl rfl rfl rfl ?_
        refine Rg.pickf rfl rfl rfl ?_
        refine Rg.assign rfl rfl ?_
        refine Rg.nil ?_
        refine T.ret ?_
        exact Kret1 rfl rfl ⟨by simp only [letB]; first | rfl | (congr 1; first | (exact (decide_eq_true (by omega)).symm) | (exact (decide_eq_false (by omega)).symm) | (exact decide_eq_decide.2 (by omega))), rfl⟩
      ·refine Rg.gno rfl rfl rfl rfl ?_
       refine Rg.gno rfl rfl rfl rfl ?_
       refine Rg.pickf rfl rfl rfl ?_
       refine Rg.move rfl rfl ?_
       refine Rg.gno rfl rfl rfl rfl ?_
       refine Rg.gno rfl rfl rfl rfl ?_
       refine Rg.pickf rfl rfl rfl ?_
       refine Rg.assign rfl rfl ?_
       refine Rg.nil ?_
       refine T.ret ?_
       exact Kret1 rfl rfl ⟨by simp only [letB]; first | rfl | (congr 1; first | (exact (decide_eq_true (by omega)).symm) | (exact (decide_eq_false (by omega)).symm) | (exact decide_eq_decide.2 (by omega))), rfl⟩
     ·refine Rg.gno rfl rfl rfl rfl ?_
      refine Rg.gno rfl rfl rfl rfl ?_
      refine Rg.pickf rfl rfl rfl ?_
      refine Rg.move rfl rfl ?_
      refine Rg.gno rfl rfl rfl rfl ?_
      refine Rg.gno rfl rfl rfl rfl ?_
      refine Rg.pickf rfl rfl rfl ?_
      refine Rg.move rfl rfl ?_
      refine Rg.gno rfl rfl rfl rfl ?_
      refine Rg.gno rfl rfl rfl rfl ?_
      refine Rg.pickf rfl rfl rfl ?_
      refine Rg.assign rfl rfl ?_
      refine Rg.nil ?_
      refine T.ret ?_
      exact Kret1 rfl rfl ⟨by simp only [letB]; first | rfl | (congr 1; first | (exact (decide_eq_true (by omega)).symm) | (exact (decide_eq_false (by omega)).symm) | (exact decide_eq_decide.2 (by omega))), rfl⟩
   ·refine Rg.gno rfl rfl rfl rfl ?_
    refine Rg.gno rfl rfl rfl rfl ?_
    refine Rg.gyes rfl rfl ?_
    refine Rg.pickf rfl rfl rfl ?_
    refine Rg.pickf rfl rfl rfl ?_
    refine Rg.nil ?_
    refine T.iff rfl ?_
    refine T.skip ?_
    refine T.seq ?_
    refine T.region ?_
    refine Rg.move rfl rfl ?_
    refine Rg.ige rfl rfl rfl ?_
    refine Rg.move rfl rfl ?_
    refine Rg.gsplitp (g := 19) rfl (fun g3_2 => ?_) (fun g3_2 => ?_)
    ·refine Rg.gyes rfl rfl ?_
     refine Rg.move rfl rfl ?_
     refine Rg.gyes rfl rfl ?_
     refine Rg.ile rfl rfl rfl ?_
     refine Rg.pickt rfl rfl rfl ?_
     refine Rg.move rfl rfl ?_
     refine Rg.gsplitp (g := 23) rfl (fun g3_6 => ?_) (fun g3_6 => ?_)
     ·refine Rg.gyes rfl rfl ?_
      refine Rg.move rfl rfl ?_
      refine Rg.gyes rfl rfl ?_
      refine Rg.ine rfl rfl rfl ?_
      refine Rg.pickt rfl rfl rfl ?_
      refine Rg.move rfl rfl ?_
      refine Rg.gsplitp (g := 27) rfl (fun g3_10 => ?_) (fun g3_10 => ?_)
      ·refine Rg.gyes rfl rfl ?_
       refine Rg.move rfl rfl ?_
       refine Rg.gyes rfl rfl ?_
       refine Rg.ine rfl rfl rfl ?_
       refine Rg.pickt rfl rfl rfl ?_
       refine Rg.assign rfl rfl ?_
       refine Rg.nil ?_
       refine T.ret ?_
       exact Kret1 rfl rfl ⟨by simp only [letB]; first | rfl | (congr 1; first | (exact (decide_eq_true (by omega)).symm) | (exact (decide_eq_false (by omega)).symm) | (exact decide_eq_decide.2 (by omega))), rfl⟩
      ·refine Rg.gno rfl rfl rfl rfl ?_
       refine Rg.gno rfl rfl rfl rfl ?_
       refine Rg.pickf rfl rfl rfl ?_
       refine Rg.assign rfl rfl ?_
       refine Rg.nil ?_
       refine T.ret ?_
       exact Kret1 rfl rfl ⟨by simp only [letB]; first | rfl | (congr 1; first | (exact (decide_eq_true (by omega)).symm) | (exact (decide_eq_false (by omega)).symm) | (exact decide_eq_decide.2 (by omega))), rfl⟩
     ·refine Rg.gno rfl rfl rfl rfl ?_
      refine Rg.gno rfl rfl rfl rfl ?_
      refine Rg.pickf rfl rfl rfl ?_
      refine Rg.move rfl rfl ?_
      refine Rg.gno rfl rfl rfl rfl ?_
      refine Rg.gno rfl rfl rfl rfl ?_
      refine Rg.pickf rfl rfl rfl ?_
      refine Rg.assign rfl rfl ?_
      refine Rg.nil ?_
      refine T.ret ?_
      exact Kret1 rfl rfl ⟨by simp only [letB]; first | rfl | (congr 1; first | (exact (decide_eq_true (by omega)).symm) | (exact (decide_eq_false (by omega)).symm) | (exact decide_eq_decide.2 (by omega))), rfl⟩
    ·refine Rg.gno rfl rfl rfl rfl ?_
     refine Rg.gno rfl rfl rfl rfl ?_
     refine Rg.pickf rfl rfl rfl ?_
     refine Rg.move rfl rfl ?_
     refine Rg.gno rfl rfl rfl rfl ?_
     refine Rg.gno rfl rfl rfl rfl ?_
     refine Rg.pickf rfl rfl rfl ?_
     refine Rg.move rfl rfl ?_
     refine Rg.gno rfl rfl rfl rfl ?_
     refine Rg.gno rfl rfl rfl rfl ?_
     refine Rg.pickf rfl rfl rfl ?_
     refine Rg.assign rfl rfl ?_
     refine Rg.nil ?_
     refine T.ret ?_
     exact Kret1 rfl rfl ⟨by simp only [letB]; first | rfl | (congr 1; first | (exact (decide_eq_true (by omega)).symm) | (exact (decide_eq_false (by omega)).symm) | (exact decide_eq_decide.2 (by omega))), rfl⟩
 ·refine Rg.gno rfl rfl rfl rfl ?_
  refine Rg.gno rfl rfl rfl rfl ?_
  refine Rg.pickf rfl rfl rfl ?_
  refine Rg.move rfl rfl ?_
  refine Rg.gyes rfl rfl ?_
  refine Rg.move rfl rfl ?_
  refine Rg.gyes rfl rfl ?_
  refine Rg.ige rfl rfl rfl ?_
  refine Rg.gyes rfl rfl ?_
  refine Rg.move rfl rfl ?_
  refine Rg.gsplitp (g := 12) rfl (fun g1_9 => ?_) (fun g1_9 => ?_)
  ·refine Rg.gyes rfl rfl ?_
   refine Rg.move rfl rfl ?_
   refine Rg.gyes rfl rfl ?_
   refine Rg.ile rfl rfl rfl ?_
   refine Rg.gyes rfl rfl ?_
   refine Rg.pickt rfl rfl rfl ?_
   refine Rg.pickf rfl rfl rfl ?_
   refine Rg.nil ?_
   refine T.ifp rfl (fun c1 => ?_) (fun c1 => ?_)
   ·refine T.seq ?_
    refine T.region ?_
    refine Rg.assign rfl rfl ?_
    refine Rg.nil ?_
    refine T.ret ?_
    exact Kret1 rfl rfl ⟨by simp only [letB]; first | rfl | (congr 1; first | (exact (decide_eq_true (by omega)).symm) | (exact (decide_eq_false (by omega)).symm) | (exact decide_eq_decide.2 (by omega))), rfl⟩
   ·refine T.skip ?_
    refine T.seq ?_
    refine T.region ?_
    refine Rg.move rfl rfl ?_
    refine Rg.ige rfl rfl rfl ?_
    refine Rg.move rfl rfl ?_
    refine Rg.gsplitp (g := 19) rfl (fun g3_2 => ?_) (fun g3_2 => ?_)
    ·refine Rg.gyes rfl rfl ?_
     refine Rg.move rfl rfl ?_
     refine Rg.gyes rfl rfl ?_
     refine Rg.ile rfl rfl rfl ?_
     refine Rg.pickt rfl rfl rfl ?_
     refine Rg.move rfl rfl ?_
     refine Rg.gsplitp (g := 23) rfl (fun g3_6 => ?_) (fun g3_6 => ?_)
     ·refine Rg.gyes rfl rfl ?_
      refine Rg.move rfl rfl ?_
      refine Rg.gyes rfl rfl ?_
      refine Rg.ine rfl rfl rfl ?_
      refine Rg.pickt rfl rfl rfl ?_
      refine Rg.move rfl rfl ?_
      refine Rg.gsplitp (g := 27) rfl (fun g3_10 => ?_) (fun g3_10 => ?_)
      ·refine Rg.gyes rfl rfl ?_
       refine Rg.move rfl rfl ?_
       refine Rg.gyes rfl rfl ?_
       refine Rg.ine rfl rfl rfl ?_
       refine Rg.pickt rfl rfl rfl ?_
       refine Rg.assign rfl rfl ?_
       refine Rg.nil ?_
       refine T.ret ?_
       exact Kret1 rfl rfl ⟨by simp only [letB]; first | rfl | (congr 1; first | (exact (decide_eq_true (by omega)).symm) | (exact (decide_eq_false (by omega)).symm) | (exact decide_eq_decide.2 (by omega))), rfl⟩
      ·refine Rg.gno rfl rfl rfl rfl ?_
       refine Rg.gno rfl rfl rfl rfl ?_
       refine Rg.pickf rfl rfl rfl ?_
       refine Rg.assign rfl rfl ?_
       refine Rg.nil ?_
       refine T.ret ?_
       exact Kret1 rfl rfl ⟨by simp only [letB]; first | rfl | (congr 1; first | (exact (decide_eq_true (by omega)).symm) | (exact (decide_eq_false (by omega)).symm) | (exact decide_eq_decide.2 (by omega))), rfl⟩
     ·refine Rg.gno rfl rfl rfl rfl ?_
      refine Rg.gno rfl rfl rfl rfl ?_
      refine Rg.pickf rfl rfl rfl ?_
      refine Rg.move rfl rfl ?_
      refine Rg.gno rfl rfl rfl rfl ?_
      refine Rg.gno rfl rfl rfl rfl ?_
      refine Rg.pickf rfl rfl rfl ?_
      refine Rg.assign rfl rfl ?_
      refine Rg.nil ?_
      refine T.ret ?_
      exact Kret1 rfl rfl ⟨by simp only [letB]; first | rfl | (congr 1; first | (exact (decide_eq_true (by omega)).symm) | (exact (decide_eq_false (by omega)).symm) | (exact decide_eq_decide.2 (by omega))), rfl⟩
    ·refine Rg.gno rfl rfl rfl rfl ?_
     refine Rg.gno rfl rfl rfl rfl ?_
     refine Rg.pickf rfl rfl rfl ?_
     refine Rg.move rfl rfl ?_
     refine Rg.gno rfl rfl rfl rfl ?_
     refine Rg.gno rfl rfl rfl rfl ?_
     refine Rg.pickf rfl rfl rfl ?_
     refine Rg.move rfl rfl ?_
     refine Rg.gno rfl rfl rfl rfl ?_
     refine Rg.gno rfl rfl rfl rfl ?_
     refine Rg.pickf rfl rfl rfl ?_
     refine Rg.assign rfl rfl ?_
     refine Rg.nil ?_
     refine T.ret ?_
     exact Kret1 rfl rfl ⟨by simp only [letB]; first | rfl | (congr 1; first | (exact (decide_eq_true (by omega)).symm) | (exact (decide_eq_false (by omega)).symm) | (exact decide_eq_decide.2 (by omega))), rfl⟩
  ·refine Rg.gno rfl rfl rfl rfl ?_
   refine Rg.gno rfl rfl rfl rfl ?_
   refine Rg.gyes rfl rfl ?_
   refine Rg.pickf rfl rfl rfl ?_
   refine Rg.pickf rfl rfl rfl ?_
   refine Rg.nil ?_
   refine T.iff rfl ?_
   refine T.skip ?_
   refine T.seq ?_
   refine T.region ?_
   refine Rg.move rfl rfl ?_
   refine Rg.ige rfl rfl rfl ?_
   refine Rg.move rfl rfl ?_
   refine Rg.gsplitp (g := 19) rfl (fun g3_2 => ?_) (fun g3_2 => ?_)
   ·refine Rg.gyes rfl rfl ?_
    refine Rg.move rfl rfl ?_
    refine Rg.gyes rfl rfl ?_
    refine Rg.ile rfl rfl rfl ?_
    refine Rg.pickt rfl rfl rfl ?_
    refine Rg.move rfl rfl ?_
    refine Rg.gsplitp (g := 23) rfl (fun g3_6 => ?_) (fun g3_6 => ?_)
    ·refine Rg.gyes rfl rfl ?_
     refine Rg.move rfl rfl ?_
     refine Rg.gyes rfl rfl ?_
     refine Rg.ine rfl rfl rfl ?_
     refine Rg.pickt rfl rfl rfl ?_
     refine Rg.move rfl rfl ?_
     refine Rg.gsplitp (g := 27) rfl (fun g3_10 => ?_) (fun g3_10 => ?_)
     ·refine Rg.gyes rfl rfl ?_
      refine Rg.move rfl rfl ?_
      refine Rg.gyes rfl rfl ?_
      refine Rg.ine rfl rfl rfl ?_
      refine Rg.pickt rfl rfl rfl ?_
      refine Rg.assign rfl rfl ?_
      refine Rg.nil ?_
      refine T.ret ?_
      exact Kret1 rfl rfl ⟨by simp only [letB]; first | rfl | (congr 1; first | (exact (decide_eq_true (by omega)).symm) | (exact (decide_eq_false (by omega)).symm) | (exact decide_eq_decide.2 (by omega))), rfl⟩
     ·refine Rg.gno rfl rfl rfl rfl ?_
      refine Rg.gno rfl rfl rfl rfl ?_
      refine Rg.pickf rfl rfl rfl ?_
      refine Rg.assign rfl rfl ?_
      refine Rg.nil ?_
      refine T.ret ?_
      exact Kret1 rfl rfl ⟨by simp only [letB]; first | rfl | (congr 1; first | (exact (decide_eq_true (by omega)).symm) | (exact (decide_eq_false (by omega)).symm) | (exact decide_eq_decide.2 (by omega))), rfl⟩
    ·refine Rg.gno rfl rfl rfl rfl ?_
     refine Rg.gno rfl rfl rfl rfl ?_
     refine Rg.pickf rfl rfl rfl ?_
     refine Rg.move rfl rfl ?_
     refine Rg.gno rfl rfl rfl rfl ?_
     refine Rg.gno rfl rfl rfl rfl ?_
     refine Rg.pickf rfl rfl rfl ?_
     refine Rg.assign rfl rfl ?_
     refine Rg.nil ?_
     refine T.ret ?_
     exact Kret1 rfl rfl ⟨by simp only [letB]; first | rfl | (congr 1; first | (exact (decide_eq_true (by omega)).symm) | (exact (decide_eq_false (by omega)).symm) | (exact decide_eq_decide.2 (by omega))), rfl⟩
   ·refine Rg.gno rfl rfl rfl rfl ?_
    refine Rg.gno rfl rfl rfl rfl ?_
    refine Rg.pickf rfl rfl rfl ?_
    refine Rg.move rfl rfl ?_
    refine Rg.gno rfl rfl rfl rfl ?_
    refine Rg.gno rfl rfl rfl rfl ?_
    refine Rg.pickf rfl rfl rfl ?_
    refine Rg.move rfl rfl ?_
    refine Rg.gno rfl rfl rfl rfl ?_
    refine Rg.gno rfl rfl rfl rfl ?_
    refine Rg.pickf rfl rfl rfl ?_
    refine Rg.assign rfl rfl ?_
    refine Rg.nil ?_
    refine T.ret ?_
    exact Kret1 rfl rfl ⟨by simp only [letB]; first | rfl | (congr 1; first | (exact (decide_eq_true (by omega)).symm) | (exact (decide_eq_false (by omega)).symm) | (exact decide_eq_decide.2 (by omega))), rfl⟩
theorem rfold_spec (c : Int) (w0 : World) (hc : 0 ≤ c ∧ c ≤ 1114111) :
  Spec Tryz.prog 218 #[.int .i64 c] w0 (fun v w => v = .int .i64 (foldZ c) ∧ w = w0) := by
 refine spec_of (args := [_]) (fn := Tryz.f218) Tryz.func218 rfl (n := 28) Tryz.ntmps218 ?_
 refine T.seq ?_
 refine T.region ?_
 refine Rg.assign rfl rfl ?_
 refine Rg.nil ?_
 refine T.seq ?_
 refine T.seq ?_
 refine T.region ?_
 refine Rg.move rfl rfl ?_
 refine Rg.ige rfl rfl rfl ?_
 refine Rg.move rfl rfl ?_
 refine Rg.gsplitp (g := 5) rfl (fun g1_2 => ?_) (fun g1_2 => ?_)
 ·refine Rg.gyes rfl rfl ?_
  refine Rg.move rfl rfl ?_
  refine Rg.gyes rfl rfl ?_
  refine Rg.ile rfl rfl rfl ?_
  refine Rg.pickt rfl rfl rfl ?_
  refine Rg.move rfl rfl ?_
  refine Rg.gsplitp (g := 9) rfl (fun g1_6 => ?_) (fun g1_6 => ?_)
  ·refine Rg.gno rfl rfl rfl rfl ?_
   refine Rg.gno rfl rfl rfl rfl ?_
   refine Rg.gno rfl rfl rfl rfl ?_
   refine Rg.gnox rfl rfl rfl ?_
   refine Rg.gnox rfl rfl rfl ?_
   refine Rg.gno rfl rfl rfl rfl ?_
   refine Rg.pickt rfl rfl rfl ?_
   refine Rg.move rfl rfl ?_
   refine Rg.gno rfl rfl rfl rfl ?_
   refine Rg.gno rfl rfl rfl rfl ?_
   refine Rg.gno rfl rfl rfl rfl ?_
   refine Rg.gnox rfl rfl rfl ?_
   refine Rg.gnox rfl rfl rfl ?_
   refine Rg.gno rfl rfl rfl rfl ?_
   refine Rg.pickt rfl rfl rfl ?_
   refine Rg.nil ?_
   refine T.ift rfl ?_
   refine T.seq ?_
   refine T.region ?_
   refine Rg.move rfl rfl ?_
   refine Rg.iadd rfl rfl rfl (by omega) ?_
   refine Rg.assign rfl rfl ?_
   refine Rg.nil ?_
   refine T.ret ?_
   exact Kret1 rfl rfl ⟨by rw [foldZ, if_pos (by omega)], rfl⟩
  ·refine Rg.gyes rfl rfl ?_
   refine Rg.move rfl rfl ?_
   refine Rg.gyes rfl rfl ?_
   refine Rg.ige rfl rfl rfl ?_
   refine Rg.gyes rfl rfl ?_
   refine Rg.move rfl rfl ?_
   refine Rg.gsplitp (g := 12) rfl (fun g1_9 => ?_) (fun g1_9 => ?_)
   ·refine Rg.gyes rfl rfl ?_
    refine Rg.move rfl rfl ?_
    refine Rg.gyes rfl rfl ?_
    refine Rg.ile rfl rfl rfl ?_
    refine Rg.gyes rfl rfl ?_
    refine Rg.pickt rfl rfl rfl ?_
    refine Rg.pickf rfl rfl rfl ?_
    refine Rg.move rfl rfl ?_
    refine Rg.gsplitp (g := 17) rfl (fun g1_14 => ?_) (fun g1_14 => ?_)
    ·refine Rg.gno rfl rfl rfl rfl ?_
     refine Rg.gno rfl rfl rfl rfl ?_
     refine Rg.gno rfl rfl rfl rfl ?_
     refine Rg.gnox rfl rfl rfl ?_
     refine Rg.gnox rfl rfl rfl ?_
     refine Rg.gno rfl rfl rfl rfl ?_
     refine Rg.pickt rfl rfl rfl ?_
     refine Rg.nil ?_
     refine T.ift rfl ?_
     refine T.seq ?_
     refine T.region ?_
     refine Rg.move rfl rfl ?_
     refine Rg.iadd rfl rfl rfl (by omega) ?_
     refine Rg.assign rfl rfl ?_
     refine Rg.nil ?_
     refine T.ret ?_
     exact Kret1 rfl rfl ⟨by rw [foldZ, if_pos (by omega)], rfl⟩
    ·refine Rg.gyes rfl rfl ?_
     refine Rg.move rfl rfl ?_
     refine Rg.gyes rfl rfl ?_
     refine Rg.ige rfl rfl rfl ?_
     refine Rg.gyes rfl rfl ?_
     refine Rg.move rfl rfl ?_
     refine Rg.gsplitp (g := 20) rfl (fun g1_17 => ?_) (fun g1_17 => ?_)
     ·refine Rg.gyes rfl rfl ?_
      refine Rg.move rfl rfl ?_
      refine Rg.gyes rfl rfl ?_
      refine Rg.ile rfl rfl rfl ?_
      refine Rg.gyes rfl rfl ?_
      refine Rg.pickt rfl rfl rfl ?_
      refine Rg.pickf rfl rfl rfl ?_
      refine Rg.nil ?_
      refine T.ifp rfl (fun c1 => ?_) (fun c1 => ?_)
      ·refine T.seq ?_
       refine T.region ?_
       refine Rg.move rfl rfl ?_
       refine Rg.iadd rfl rfl rfl (by omega) ?_
       refine Rg.assign rfl rfl ?_
       refine Rg.nil ?_
       refine T.ret ?_
       exact Kret1 rfl rfl ⟨by rw [foldZ, if_pos (by omega)], rfl⟩
      ·refine T.skip ?_
       refine T.seq ?_
       refine T.region ?_
       refine Rg.move rfl rfl ?_
       refine Rg.assign rfl rfl ?_
       refine Rg.nil ?_
       refine T.ret ?_
       exact Kret1 rfl rfl ⟨by rw [foldZ, if_neg (by omega)], rfl⟩
     ·refine Rg.gno rfl rfl rfl rfl ?_
      refine Rg.gno rfl rfl rfl rfl ?_
      refine Rg.gyes rfl rfl ?_
      refine Rg.pickf rfl rfl rfl ?_
      refine Rg.pickf rfl rfl rfl ?_
      refine Rg.nil ?_
      refine T.iff rfl ?_
      refine T.skip ?_
      refine T.seq ?_
      refine T.region ?_
      refine Rg.move rfl rfl ?_
      refine Rg.assign rfl rfl ?_
      refine Rg.nil ?_
      refine T.ret ?_
      exact Kret1 rfl rfl ⟨by rw [foldZ, if_neg (by omega)], rfl⟩
   ·refine Rg.gno rfl rfl rfl rfl ?_
    refine Rg.gno rfl rfl rfl rfl ?_
    refine Rg.gyes rfl rfl ?_
    refine Rg.pickf rfl rfl rfl ?_
    refine Rg.pickf rfl rfl rfl ?_
    refine Rg.move rfl rfl ?_
    refine Rg.gyes rfl rfl ?_
    refine Rg.move rfl rfl ?_
    refine Rg.gyes rfl rfl ?_
    refine Rg.ige rfl rfl rfl ?_
    refine Rg.gyes rfl rfl ?_
    refine Rg.move rfl rfl ?_
    refine Rg.gsplitp (g := 20) rfl (fun g1_17 => ?_) (fun g1_17 => ?_)
    ·refine Rg.gyes rfl rfl ?_
     refine Rg.move rfl rfl ?_
     refine Rg.gyes rfl rfl ?_
     refine Rg.ile rfl rfl rfl ?_
     refine Rg.gyes rfl rfl ?_
     refine Rg.pickt rfl rfl rfl ?_
     refine Rg.pickf rfl rfl rfl ?_
     refine Rg.nil ?_
     refine T.ifp rfl (fun c1 => ?_) (fun c1 => ?_)
     ·refine T.seq ?_
      refine T.region ?_
      refine Rg.move rfl rfl ?_
      refine Rg.iadd rfl rfl rfl (by omega) ?_
      refine Rg.assign rfl rfl ?_
      refine Rg.nil ?_
      refine T.ret ?_
      exact Kret1 rfl rfl ⟨by rw [foldZ, if_pos (by omega)], rfl⟩
     ·refine T.skip ?_
      refine T.seq ?_
      refine T.region ?_
      refine Rg.move rfl rfl ?_
      refine Rg.assign rfl rfl ?_
      refine Rg.nil ?_
      refine T.ret ?_
      exact Kret1 rfl rfl ⟨by rw [foldZ, if_neg (by omega)], rfl⟩
    ·refine Rg.gno rfl rfl rfl rfl ?_
     refine Rg.gno rfl rfl rfl rfl ?_
     refine Rg.gyes rfl rfl ?_
     refine Rg.pickf rfl rfl rfl ?_
     refine Rg.pickf rfl rfl rfl ?_
     refine Rg.nil ?_
     refine T.iff rfl ?_
     refine T.skip ?_
     refine T.seq ?_
     refine T.region ?_
     refine Rg.move rfl rfl ?_
     refine Rg.assign rfl rfl ?_
     refine Rg.nil ?_
     refine T.ret ?_
     exact Kret1 rfl rfl ⟨by rw [foldZ, if_neg (by omega)], rfl⟩
 ·refine Rg.gno rfl rfl rfl rfl ?_
  refine Rg.gno rfl rfl rfl rfl ?_
  refine Rg.pickf rfl rfl rfl ?_
  refine Rg.move rfl rfl ?_
  refine Rg.gyes rfl rfl ?_
  refine Rg.move rfl rfl ?_
  refine Rg.gyes rfl rfl ?_
  refine Rg.ige rfl rfl rfl ?_
  refine Rg.gyes rfl rfl ?_
  refine Rg.move rfl rfl ?_
  refine Rg.gsplitp (g := 12) rfl (fun g1_9 => ?_) (fun g1_9 => ?_)
  ·refine Rg.gyes rfl rfl ?_
   refine Rg.move rfl rfl ?_
   refine Rg.gyes rfl rfl ?_
   refine Rg.ile rfl rfl rfl ?_
   refine Rg.gyes rfl rfl ?_
   refine Rg.pickt rfl rfl rfl ?_
   refine Rg.pickf rfl rfl rfl ?_
   refine Rg.move rfl rfl ?_
   refine Rg.gsplitp (g := 17) rfl (fun g1_14 => ?_) (fun g1_14 => ?_)
   ·refine Rg.gno rfl rfl rfl rfl ?_
    refine Rg.gno rfl rfl rfl rfl ?_
    refine Rg.gno rfl rfl rfl rfl ?_
    refine Rg.gnox rfl rfl rfl ?_
    refine Rg.gnox rfl rfl rfl ?_
    refine Rg.gno rfl rfl rfl rfl ?_
    refine Rg.pickt rfl rfl rfl ?_
    refine Rg.nil ?_
    refine T.ift rfl ?_
    refine T.seq ?_
    refine T.region ?_
    refine Rg.move rfl rfl ?_
    refine Rg.iadd rfl rfl rfl (by omega) ?_
    refine Rg.assign rfl rfl ?_
    refine Rg.nil ?_
    refine T.ret ?_
    exact Kret1 rfl rfl ⟨by rw [foldZ, if_pos (by omega)], rfl⟩
   ·refine Rg.gyes rfl rfl ?_
    refine Rg.move rfl rfl ?_
    refine Rg.gyes rfl rfl ?_
    refine Rg.ige rfl rfl rfl ?_
    refine Rg.gyes rfl rfl ?_
    refine Rg.move rfl rfl ?_
    refine Rg.gsplitp (g := 20) rfl (fun g1_17 => ?_) (fun g1_17 => ?_)
    ·refine Rg.gyes rfl rfl ?_
     refine Rg.move rfl rfl ?_
     refine Rg.gyes rfl rfl ?_
     refine Rg.ile rfl rfl rfl ?_
     refine Rg.gyes rfl rfl ?_
     refine Rg.pickt rfl rfl rfl ?_
     refine Rg.pickf rfl rfl rfl ?_
     refine Rg.nil ?_
     refine T.ifp rfl (fun c1 => ?_) (fun c1 => ?_)
     ·refine T.seq ?_
      refine T.region ?_
      refine Rg.move rfl rfl ?_
      refine Rg.iadd rfl rfl rfl (by omega) ?_
      refine Rg.assign rfl rfl ?_
      refine Rg.nil ?_
      refine T.ret ?_
      exact Kret1 rfl rfl ⟨by rw [foldZ, if_pos (by omega)], rfl⟩
     ·refine T.skip ?_
      refine T.seq ?_
      refine T.region ?_
      refine Rg.move rfl rfl ?_
      refine Rg.assign rfl rfl ?_
      refine Rg.nil ?_
      refine T.ret ?_
      exact Kret1 rfl rfl ⟨by rw [foldZ, if_neg (by omega)], rfl⟩
    ·refine Rg.gno rfl rfl rfl rfl ?_
     refine Rg.gno rfl rfl rfl rfl ?_
     refine Rg.gyes rfl rfl ?_
     refine Rg.pickf rfl rfl rfl ?_
     refine Rg.pickf rfl rfl rfl ?_
     refine Rg.nil ?_
     refine T.iff rfl ?_
     refine T.skip ?_
     refine T.seq ?_
     refine T.region ?_
     refine Rg.move rfl rfl ?_
     refine Rg.assign rfl rfl ?_
     refine Rg.nil ?_
     refine T.ret ?_
     exact Kret1 rfl rfl ⟨by rw [foldZ, if_neg (by omega)], rfl⟩
  ·refine Rg.gno rfl rfl rfl rfl ?_
   refine Rg.gno rfl rfl rfl rfl ?_
   refine Rg.gyes rfl rfl ?_
   refine Rg.pickf rfl rfl rfl ?_
   refine Rg.pickf rfl rfl rfl ?_
   refine Rg.move rfl rfl ?_
   refine Rg.gyes rfl rfl ?_
   refine Rg.move rfl rfl ?_
   refine Rg.gyes rfl rfl ?_
   refine Rg.ige rfl rfl rfl ?_
   refine Rg.gyes rfl rfl ?_
   refine Rg.move rfl rfl ?_
   refine Rg.gsplitp (g := 20) rfl (fun g1_17 => ?_) (fun g1_17 => ?_)
   ·refine Rg.gyes rfl rfl ?_
    refine Rg.move rfl rfl ?_
    refine Rg.gyes rfl rfl ?_
    refine Rg.ile rfl rfl rfl ?_
    refine Rg.gyes rfl rfl ?_
    refine Rg.pickt rfl rfl rfl ?_
    refine Rg.pickf rfl rfl rfl ?_
    refine Rg.nil ?_
    refine T.ifp rfl (fun c1 => ?_) (fun c1 => ?_)
    ·refine T.seq ?_
     refine T.region ?_
     refine Rg.move rfl rfl ?_
     refine Rg.iadd rfl rfl rfl (by omega) ?_
     refine Rg.assign rfl rfl ?_
     refine Rg.nil ?_
     refine T.ret ?_
     exact Kret1 rfl rfl ⟨by rw [foldZ, if_pos (by omega)], rfl⟩
    ·refine T.skip ?_
     refine T.seq ?_
     refine T.region ?_
     refine Rg.move rfl rfl ?_
     refine Rg.assign rfl rfl ?_
     refine Rg.nil ?_
     refine T.ret ?_
     exact Kret1 rfl rfl ⟨by rw [foldZ, if_neg (by omega)], rfl⟩
   ·refine Rg.gno rfl rfl rfl rfl ?_
    refine Rg.gno rfl rfl rfl rfl ?_
    refine Rg.gyes rfl rfl ?_
    refine Rg.pickf rfl rfl rfl ?_
    refine Rg.pickf rfl rfl rfl ?_
    refine Rg.nil ?_
    refine T.iff rfl ?_
    refine T.skip ?_
    refine T.seq ?_
    refine T.region ?_
    refine Rg.move rfl rfl ?_
    refine Rg.assign rfl rfl ?_
    refine Rg.nil ?_
    refine T.ret ?_
    exact Kret1 rfl rfl ⟨by rw [foldZ, if_neg (by omega)], rfl⟩
def inB (c : Int) : Bool := decide (letB c = true ∨ digB c = true)
theorem rin_spec (c : Int) (w0 : World) :
  Spec Tryz.prog 217 #[.int .i64 c] w0 (fun v w => v = .bool (inB c) ∧ w = w0) := by
 refine spec_of (args := [_]) (fn := Tryz.f217) Tryz.func217 rfl (n := 13) Tryz.ntmps217 ?_
 refine T.seq ?_
 refine T.region ?_
 refine Rg.assign rfl rfl ?_
 refine Rg.nil ?_
 refine T.seq ?_
 refine T.region ?_
 refine Rg.move rfl rfl ?_
 refine Rg.call rfl rfl E253 (rletter_spec _ _) (fun r wc hc => ?_)
 obtain ⟨rfl, rfl⟩ := hc
 refine Rg.eqv (v' := .bool (decide (letB c = true))) (by cases letB c <;> rfl) ?_
 refine Rg.move rfl rfl ?_
 refine Rg.gsplitp (g := 5) rfl (fun g1_2 => ?_) (fun g1_2 => ?_)
 ·refine Rg.gno rfl rfl rfl rfl ?_
  refine Rg.gno rfl rfl rfl rfl ?_
  refine Rg.gno rfl rfl rfl rfl ?_
  refine Rg.gnox rfl rfl rfl ?_
  refine Rg.gnox rfl rfl rfl ?_
  refine Rg.gno rfl rfl rfl rfl ?_
  refine Rg.pickt rfl rfl rfl ?_
  refine Rg.assign rfl rfl ?_
  refine Rg.nil ?_
  refine T.ret ?_
  have e : (digB c = true) = (48 ≤ c ∧ c ≤ 57) := by simp [digB]
  exact Kret1 rfl rfl ⟨by simp only [inB, e]; first | (congr 1; first | (exact (decide_eq_true (.inl (by assumption))).symm) | (exact (decide_eq_true (.inr (by omega))).symm) | (exact (decide_eq_false (by rintro (h | h) <;> first | exact absurd h (by assumption) | omega)).symm) | (exact decide_eq_decide.2 ⟨fun h => .inr (by omega), fun h => h.elim (fun h => absurd h (by assumption)) (fun h => by omega)⟩)), rfl⟩
 ·refine Rg.gyes rfl rfl ?_
  refine Rg.move rfl rfl ?_
  refine Rg.gyes rfl rfl ?_
  refine Rg.ige rfl rfl rfl ?_
  refine Rg.gyes rfl rfl ?_
  refine Rg.move rfl rfl ?_
  refine Rg.gsplitp (g := 8) rfl (fun g1_5 => ?_) (fun g1_5 => ?_)
  ·refine Rg.gyes rfl rfl ?_
   refine Rg.move rfl rfl ?_
   refine Rg.gyes rfl rfl ?_
   refine Rg.ile rfl rfl rfl ?_
   refine Rg.gyes rfl rfl ?_
   refine Rg.pickt rfl rfl rfl ?_
   refine Rg.pickf rfl rfl rfl ?_
   refine Rg.assign rfl rfl ?_
   refine Rg.nil ?_
   refine T.ret ?_
   have e : (digB c = true) = (48 ≤ c ∧ c ≤ 57) := by simp [digB]
   exact Kret1 rfl rfl ⟨by simp only [inB, e]; first | (congr 1; first | (exact (decide_eq_true (.inl (by assumption))).symm) | (exact (decide_eq_true (.inr (by omega))).symm) | (exact (decide_eq_false (by rintro (h | h) <;> first | exact absurd h (by assumption) | omega)).symm) | (exact decide_eq_decide.2 ⟨fun h => .inr (by omega), fun h => h.elim (fun h => absurd h (by assumption)) (fun h => by omega)⟩)), rfl⟩
  ·refine Rg.gno rfl rfl rfl rfl ?_
   refine Rg.gno rfl rfl rfl rfl ?_
   refine Rg.gyes rfl rfl ?_
   refine Rg.pickf rfl rfl rfl ?_
   refine Rg.pickf rfl rfl rfl ?_
   refine Rg.assign rfl rfl ?_
   refine Rg.nil ?_
   refine T.ret ?_
   have e : (digB c = true) = (48 ≤ c ∧ c ≤ 57) := by simp [digB]
   exact Kret1 rfl rfl ⟨by simp only [inB, e]; first | (congr 1; first | (exact (decide_eq_true (.inl (by assumption))).symm) | (exact (decide_eq_true (.inr (by omega))).symm) | (exact (decide_eq_false (by rintro (h | h) <;> first | exact absurd h (by assumption) | omega)).symm) | (exact decide_eq_decide.2 ⟨fun h => .inr (by omega), fun h => h.elim (fun h => absurd h (by assumption)) (fun h => by omega)⟩)), rfl⟩
theorem vO_rng {l : List UInt8} {c : Int} (hc : c = (atB l 0 : Int)) (hn : nO c ≠ 0) : ∀ {k : Nat}, (∀ j : Nat, 1 ≤ j → j < k + 1 → contB l j = true) → k ≤ 3 → 0 ≤ vO l k ∧ vO l k ≤ 100000000 := by
 have key : ∀ k : Nat, (∀ j : Nat, 1 ≤ j → j < k + 1 → contB l j = true) → 0 ≤ vO l k ∧ vO l k ≤ 33 * 64 ^ k - 1 := by
  intro k
  induction k with
  |zero =>
   intro _
   have := nO_cases hn
   show 0 ≤ vO0 (atB l 0 : Int) ∧ vO0 (atB l 0 : Int) ≤ 33 * 64 ^ 0 - 1
   rw [← hc]; simp only [Int.pow_zero]; omega
  |succ k ih =>
   intro h
   have h1 := ih fun j h2 h3 => h j h2 (by omega)
   have h2 := contB_iff.1 (h (k + 1) (by omega) (by omega))
   show 0 ≤ 64 * vO l k + _ - 128 ∧ 64 * vO l k + _ - 128 ≤ _
   rw [Int.pow_succ]
   omega
 intro k h hk
 have := key k h
 have h3 : (64 : Int) ^ k ≤ 262144 := by
  rcases (show k = 0 ∨ k = 1 ∨ k = 2 ∨ k = 3 by omega) with rfl | rfl | rfl | rfl <;> decide
 omega
theorem one_spec {l : List UInt8} (w0 : World) (hl : l ≠ []) (hlen : l.length ≤ 1000000) :
  Spec Tryz.prog 252 #[.string ⟨l.toArray⟩] w0 (fun v w => v = .tuple #[.int .i64 ((dec l).1 : Int), .int .i64 ((dec l).2 : Int)] ∧ w = w0) := by
 have hpos : 0 < l.length := List.length_pos_iff.2 hl
 have hb0 := atB_lt l 0
 obtain ⟨c, hc⟩ : ∃ c : Int, c = (atB l 0 : Int) := ⟨_, rfl⟩
 have hcr : 0 ≤ c ∧ c < 256 := by omega
 refine spec_of (args := [_]) (fn := Tryz.f252) Tryz.func252 rfl (n := 85) Tryz.ntmps252 ?_
 refine T.seq ?_
 refine T.region ?_
 refine Rg.assign rfl rfl ?_
 refine Rg.assign rfl rfl ?_
 refine Rg.nil ?_
 refine T.seq ?_
 refine T.region ?_
 refine Rg.move rfl rfl ?_
 refine Rg.strAt (c := l.getD 0 0) Tryz.underlying9 rfl rfl rfl (by decide) (by rw [List.getD_eq_getElem?_getD]; show l[0]? = _; rw [List.getElem?_eq_getElem hpos]; rfl) ?_
 refine Rg.eqv (v' := .int .u8 c) (by rw [hc]; rfl) ?_
 refine Rg.conv64 Tryz.underlying5 Tryz.underlying3 rfl rfl (by omega) ?_
 refine Rg.assign rfl rfl ?_
 refine Rg.nil ?_
 refine T.seq ?_
 refine T.seq ?_
 refine T.region ?_
 refine Rg.move rfl rfl ?_
 refine Rg.ilt rfl rfl rfl ?_
 refine Rg.nil ?_
 refine T.ifp rfl (fun c2 => ?_) (fun c2 => ?_)
 ·refine T.seq ?_
  refine T.region ?_
  refine Rg.move rfl rfl ?_
  refine Rg.assign rfl rfl ?_
  refine Rg.assign rfl rfl ?_
  refine Rg.nil ?_
  refine T.ret ?_
  exact Kret2 rfl rfl rfl ⟨by rw [dec_A (by omega), hc]; rfl, rfl⟩
 ·refine T.skip ?_
  refine T.seq ?_
  refine T.region ?_
  refine Rg.assign rfl rfl ?_
  refine Rg.nil ?_
  refine T.seq ?_
  refine T.region ?_
  refine Rg.assign rfl rfl ?_
  refine Rg.nil ?_
  refine T.seq ?_
  refine T.region ?_
  refine Rg.assign rfl rfl ?_
  refine Rg.nil ?_
  refine T.seqJoin [(0, .string ⟨l.toArray⟩), (4, .int .i64 c), (5, .int .i64 (nO c)), (6, .int .i64 (leastO c)), (7, .int .i64 (vO0 c))] ?_ ?_
  ·refine T.seq ?_
   refine T.region ?_
   refine Rg.move rfl rfl ?_
   refine Rg.ige rfl rfl rfl ?_
   refine Rg.move rfl rfl ?_
   refine Rg.gsplitp (g := 18) rfl (fun g7_2 => ?_) (fun g7_2 => ?_)
   ·refine Rg.gyes rfl rfl ?_
    refine Rg.move rfl rfl ?_
    refine Rg.gyes rfl rfl ?_
    refine Rg.ilt rfl rfl rfl ?_
    refine Rg.pickt rfl rfl rfl ?_
    refine Rg.nil ?_
    refine T.ifp rfl (fun c7 => ?_) (fun c7 => ?_)
    ·refine T.seq ?_
     refine T.region ?_
     refine Rg.assign rfl rfl ?_
     refine Rg.nil ?_
     refine T.seq ?_
     refine T.region ?_
     refine Rg.assign rfl rfl ?_
     refine Rg.nil ?_
     refine T.region ?_
     refine Rg.move rfl rfl ?_
     refine Rg.isub rfl rfl rfl (by omega) ?_
     refine Rg.assign rfl rfl ?_
     refine Rg.nil ?_
     exact ⟨rfl, rfl, rfl, .cons rfl (.cons rfl (.cons (congrArg (fun z => some (Value.int .i64 z)) (by first | (exfalso; omega) | (unfold nO; repeat (first | rw [if_pos (by omega)] | rw [if_neg (by omega)])))) (.cons (congrArg (fun z => some (Value.int .i64 z)) (by first | (exfalso; omega) | (unfold leastO; repeat (first | rw [if_pos (by omega)] | rw [if_neg (by omega)])))) (.cons (congrArg (fun z => some (Value.int .i64 z)) (by first | (exfalso; omega) | (unfold vO0; repeat (first | rw [if_pos (by omega)] | rw [if_neg (by omega)])))) (.nil)))))⟩
    ·refine T.seq ?_
     refine T.region ?_
     refine Rg.move rfl rfl ?_
     refine Rg.ige rfl rfl rfl ?_
     refine Rg.move rfl rfl ?_
     refine Rg.gsplitp (g := 26) rfl (fun g11_2 => ?_) (fun g11_2 => ?_)
     ·refine Rg.gyes rfl rfl ?_
      refine Rg.move rfl rfl ?_
      refine Rg.gyes rfl rfl ?_
      refine Rg.ilt rfl rfl rfl ?_
      refine Rg.pickt rfl rfl rfl ?_
      refine Rg.nil ?_
      refine T.ifp rfl (fun c11 => ?_) (fun c11 => ?_)
      ·refine T.seq ?_
       refine T.region ?_
       refine Rg.assign rfl rfl ?_
       refine Rg.nil ?_
       refine T.seq ?_
       refine T.region ?_
       refine Rg.assign rfl rfl ?_
       refine Rg.nil ?_
       refine T.region ?_
       refine Rg.move rfl rfl ?_
       refine Rg.isub rfl rfl rfl (by omega) ?_
       refine Rg.assign rfl rfl ?_
       refine Rg.nil ?_
       exact ⟨rfl, rfl, rfl, .cons rfl (.cons rfl (.cons (congrArg (fun z => some (Value.int .i64 z)) (by first | (exfalso; omega) | (unfold nO; repeat (first | rw [if_pos (by omega)] | rw [if_neg (by omega)])))) (.cons (congrArg (fun z => some (Value.int .i64 z)) (by first | (exfalso; omega) | (unfold leastO; repeat (first | rw [if_pos (by omega)] | rw [if_neg (by omega)])))) (.cons (congrArg (fun z => some (Value.int .i64 z)) (by first | (exfalso; omega) | (unfold vO0; repeat (first | rw [if_pos (by omega)] | rw [if_neg (by omega)])))) (.nil)))))⟩
      ·refine T.seq ?_
       refine T.region ?_
       refine Rg.move rfl rfl ?_
       refine Rg.ige rfl rfl rfl ?_
       refine Rg.move rfl rfl ?_
       refine Rg.gsplitp (g := 34) rfl (fun g15_2 => ?_) (fun g15_2 => ?_)
       ·refine Rg.gyes rfl rfl ?_
        refine Rg.move rfl rfl ?_
        refine Rg.gyes rfl rfl ?_
        refine Rg.ilt rfl rfl rfl ?_
        refine Rg.pickt rfl rfl rfl ?_
        refine Rg.nil ?_
        refine T.ifp rfl (fun c15 => ?_) (fun c15 => ?_)
        ·refine T.seq ?_
         refine T.region ?_
         refine Rg.assign rfl rfl ?_
         refine Rg.nil ?_
         refine T.seq ?_
         refine T.region ?_
         refine Rg.assign rfl rfl ?_
         refine Rg.nil ?_
         refine T.region ?_
         refine Rg.move rfl rfl ?_
         refine Rg.isub rfl rfl rfl (by omega) ?_
         refine Rg.assign rfl rfl ?_
         refine Rg.nil ?_
         exact ⟨rfl, rfl, rfl, .cons rfl (.cons rfl (.cons (congrArg (fun z => some (Value.int .i64 z)) (by first | (exfalso; omega) | (unfold nO; repeat (first | rw [if_pos (by omega)] | rw [if_neg (by omega)])))) (.cons (congrArg (fun z => some (Value.int .i64 z)) (by first | (exfalso; omega) | (unfold leastO; repeat (first | rw [if_pos (by omega)] | rw [if_neg (by omega)])))) (.cons (congrArg (fun z => some (Value.int .i64 z)) (by first | (exfalso; omega) | (unfold vO0; repeat (first | rw [if_pos (by omega)] | rw [if_neg (by omega)])))) (.nil)))))⟩
        ·refine T.skip ?_
         exact ⟨rfl, rfl, rfl, .cons rfl (.cons rfl (.cons (congrArg (fun z => some (Value.int .i64 z)) (by first | (exfalso; omega) | (unfold nO; repeat (first | rw [if_pos (by omega)] | rw [if_neg (by omega)])))) (.cons (congrArg (fun z => some (Value.int .i64 z)) (by first | (exfalso; omega) | (unfold leastO; repeat (first | rw [if_pos (by omega)] | rw [if_neg (by omega)])))) (.cons (congrArg (fun z => some (Value.int .i64 z)) (by first | (exfalso; omega) | (unfold vO0; repeat (first | rw [if_pos (by omega)] | rw [if_neg (by omega)])))) (.nil)))))⟩
       ·refine Rg.gno rfl rfl rfl rfl ?_
        refine Rg.gno rfl rfl rfl rfl ?_
        refine Rg.pickf rfl rfl rfl ?_
        refine Rg.nil ?_
        refine T.iff rfl ?_
        refine T.skip ?_
        exact ⟨rfl, rfl, rfl, .cons rfl (.cons rfl (.cons (congrArg (fun z => some (Value.int .i64 z)) (by first | (exfalso; omega) | (unfold nO; repeat (first | rw [if_pos (by omega)] | rw [if_neg (by omega)])))) (.cons (congrArg (fun z => some (Value.int .i64 z)) (by first | (exfalso; omega) | (unfold leastO; repeat (first | rw [if_pos (by omega)] | rw [if_neg (by omega)])))) (.cons (congrArg (fun z => some (Value.int .i64 z)) (by first | (exfalso; omega) | (unfold vO0; repeat (first | rw [if_pos (by omega)] | rw [if_neg (by omega)])))) (.nil)))))⟩
     ·refine Rg.gno rfl rfl rfl rfl ?_
      refine Rg.gno rfl rfl rfl rfl ?_
      refine Rg.pickf rfl rfl rfl ?_
      refine Rg.nil ?_
      refine T.iff rfl ?_
      refine T.seq ?_
      refine T.region ?_
      refine Rg.move rfl rfl ?_
      refine Rg.ige rfl rfl rfl ?_
      refine Rg.move rfl rfl ?_
      refine Rg.gsplitp (g := 34) rfl (fun g15_2 => ?_) (fun g15_2 => ?_)
      ·refine Rg.gyes rfl rfl ?_
       refine Rg.move rfl rfl ?_
       refine Rg.gyes rfl rfl ?_
       refine Rg.ilt rfl rfl rfl ?_
       refine Rg.pickt rfl rfl rfl ?_
       refine Rg.nil ?_
       refine T.ifp rfl (fun c15 => ?_) (fun c15 => ?_)
       ·refine T.seq ?_
        refine T.region ?_
        refine Rg.assign rfl rfl ?_
        refine Rg.nil ?_
        refine T.seq ?_
        refine T.region ?_
        refine Rg.assign rfl rfl ?_
        refine Rg.nil ?_
        refine T.region ?_
        refine Rg.move rfl rfl ?_
        refine Rg.isub rfl rfl rfl (by omega) ?_
        refine Rg.assign rfl rfl ?_
        refine Rg.nil ?_
        exact ⟨rfl, rfl, rfl, .cons rfl (.cons rfl (.cons (congrArg (fun z => some (Value.int .i64 z)) (by first | (exfalso; omega) | (unfold nO; repeat (first | rw [if_pos (by omega)] | rw [if_neg (by omega)])))) (.cons (congrArg (fun z => some (Value.int .i64 z)) (by first | (exfalso; omega) | (unfold leastO; repeat (first | rw [if_pos (by omega)] | rw [if_neg (by omega)])))) (.cons (congrArg (fun z => some (Value.int .i64 z)) (by first | (exfalso; omega) | (unfold vO0; repeat (first | rw [if_pos (by omega)] | rw [if_neg (by omega)])))) (.nil)))))⟩
       ·refine T.skip ?_
        exact ⟨rfl, rfl, rfl, .cons rfl (.cons rfl (.cons (congrArg (fun z => some (Value.int .i64 z)) (by first | (exfalso; omega) | (unfold nO; repeat (first | rw [if_pos (by omega)] | rw [if_neg (by omega)])))) (.cons (congrArg (fun z => some (Value.int .i64 z)) (by first | (exfalso; omega) | (unfold leastO; repeat (first | rw [if_pos (by omega)] | rw [if_neg (by omega)])))) (.cons (congrArg (fun z => some (Value.int .i64 z)) (by first | (exfalso; omega) | (unfold vO0; repeat (first | rw [if_pos (by omega)] | rw [if_neg (by omega)])))) (.nil)))))⟩
      ·refine Rg.gno rfl rfl rfl rfl ?_
       refine Rg.gno rfl rfl rfl rfl ?_
       refine Rg.pickf rfl rfl rfl ?_
       refine Rg.nil ?_
       refine T.iff rfl ?_
       refine T.skip ?_
       exact ⟨rfl, rfl, rfl, .cons rfl (.cons rfl (.cons (congrArg (fun z => some (Value.int .i64 z)) (by first | (exfalso; omega) | (unfold nO; repeat (first | rw [if_pos (by omega)] | rw [if_neg (by omega)])))) (.cons (congrArg (fun z => some (Value.int .i64 z)) (by first | (exfalso; omega) | (unfold leastO; repeat (first | rw [if_pos (by omega)] | rw [if_neg (by omega)])))) (.cons (congrArg (fun z => some (Value.int .i64 z)) (by first | (exfalso; omega) | (unfold vO0; repeat (first | rw [if_pos (by omega)] | rw [if_neg (by omega)])))) (.nil)))))⟩
   ·refine Rg.gno rfl rfl rfl rfl ?_
    refine Rg.gno rfl rfl rfl rfl ?_
    refine Rg.pickf rfl rfl rfl ?_
    refine Rg.nil ?_
    refine T.iff rfl ?_
    refine T.seq ?_
    refine T.region ?_
    refine Rg.move rfl rfl ?_
    refine Rg.ige rfl rfl rfl ?_
    refine Rg.move rfl rfl ?_
    refine Rg.gsplitp (g := 26) rfl (fun g11_2 => ?_) (fun g11_2 => ?_)
    ·refine Rg.gyes rfl rfl ?_
     refine Rg.move rfl rfl ?_
     refine Rg.gyes rfl rfl ?_
     refine Rg.ilt rfl rfl rfl ?_
     refine Rg.pickt rfl rfl rfl ?_
     refine Rg.nil ?_
     refine T.ifp rfl (fun c11 => ?_) (fun c11 => ?_)
     ·refine T.seq ?_
      refine T.region ?_
      refine Rg.assign rfl rfl ?_
      refine Rg.nil ?_
      refine T.seq ?_
      refine T.region ?_
      refine Rg.assign rfl rfl ?_
      refine Rg.nil ?_
      refine T.region ?_
      refine Rg.move rfl rfl ?_
      refine Rg.isub rfl rfl rfl (by omega) ?_
      refine Rg.assign rfl rfl ?_
      refine Rg.nil ?_
      exact ⟨rfl, rfl, rfl, .cons rfl (.cons rfl (.cons (congrArg (fun z => some (Value.int .i64 z)) (by first | (exfalso; omega) | (unfold nO; repeat (first | rw [if_pos (by omega)] | rw [if_neg (by omega)])))) (.cons (congrArg (fun z => some (Value.int .i64 z)) (by first | (exfalso; omega) | (unfold leastO; repeat (first | rw [if_pos (by omega)] | rw [if_neg (by omega)])))) (.cons (congrArg (fun z => some (Value.int .i64 z)) (by first | (exfalso; omega) | (unfold vO0; repeat (first | rw [if_pos (by omega)] | rw [if_neg (by omega)])))) (.nil)))))⟩
     ·refine T.seq ?_
      refine T.region ?_
      refine Rg.move rfl rfl ?_
      refine Rg.ige rfl rfl rfl ?_
      refine Rg.move rfl rfl ?_
      refine Rg.gsplitp (g := 34) rfl (fun g15_2 => ?_) (fun g15_2 => ?_)
      ·refine Rg.gyes rfl rfl ?_
       refine Rg.move rfl rfl ?_
       refine Rg.gyes rfl rfl ?_
       refine Rg.ilt rfl rfl rfl ?_
       refine Rg.pickt rfl rfl rfl ?_
       refine Rg.nil ?_
       refine T.ifp rfl (fun c15 => ?_) (fun c15 => ?_)
       ·refine T.seq ?_
        refine T.region ?_
        refine Rg.assign rfl rfl ?_
        refine Rg.nil ?_
        refine T.seq ?_
        refine T.region ?_
        refine Rg.assign rfl rfl ?_
        refine Rg.nil ?_
        refine T.region ?_
        refine Rg.move rfl rfl ?_
        refine Rg.isub rfl rfl rfl (by omega) ?_
        refine Rg.assign rfl rfl ?_
        refine Rg.nil ?_
        exact ⟨rfl, rfl, rfl, .cons rfl (.cons rfl (.cons (congrArg (fun z => some (Value.int .i64 z)) (by first | (exfalso; omega) | (unfold nO; repeat (first | rw [if_pos (by omega)] | rw [if_neg (by omega)])))) (.cons (congrArg (fun z => some (Value.int .i64 z)) (by first | (exfalso; omega) | (unfold leastO; repeat (first | rw [if_pos (by omega)] | rw [if_neg (by omega)])))) (.cons (congrArg (fun z => some (Value.int .i64 z)) (by first | (exfalso; omega) | (unfold vO0; repeat (first | rw [if_pos (by omega)] | rw [if_neg (by omega)])))) (.nil)))))⟩
       ·refine T.skip ?_
        exact ⟨rfl, rfl, rfl, .cons rfl (.cons rfl (.cons (congrArg (fun z => some (Value.int .i64 z)) (by first | (exfalso; omega) | (unfold nO; repeat (first | rw [if_pos (by omega)] | rw [if_neg (by omega)])))) (.cons (congrArg (fun z => some (Value.int .i64 z)) (by first | (exfalso; omega) | (unfold leastO; repeat (first | rw [if_pos (by omega)] | rw [if_neg (by omega)])))) (.cons (congrArg (fun z => some (Value.int .i64 z)) (by first | (exfalso; omega) | (unfold vO0; repeat (first | rw [if_pos (by omega)] | rw [if_neg (by omega)])))) (.nil)))))⟩
      ·refine Rg.gno rfl rfl rfl rfl ?_
       refine Rg.gno rfl rfl rfl rfl ?_
       refine Rg.pickf rfl rfl rfl ?_
       refine Rg.nil ?_
       refine T.iff rfl ?_
       refine T.skip ?_
       exact ⟨rfl, rfl, rfl, .cons rfl (.cons rfl (.cons (congrArg (fun z => some (Value.int .i64 z)) (by first | (exfalso; omega) | (unfold nO; repeat (first | rw [if_pos (by omega)] | rw [if_neg (by omega)])))) (.cons (congrArg (fun z => some (Value.int .i64 z)) (by first | (exfalso; omega) | (unfold leastO; repeat (first | rw [if_pos (by omega)] | rw [if_neg (by omega)])))) (.cons (congrArg (fun z => some (Value.int .i64 z)) (by first | (exfalso; omega) | (unfold vO0; repeat (first | rw [if_pos (by omega)] | rw [if_neg (by omega)])))) (.nil)))))⟩
    ·refine Rg.gno rfl rfl rfl rfl ?_
     refine Rg.gno rfl rfl rfl rfl ?_
     refine Rg.pickf rfl rfl rfl ?_
     refine Rg.nil ?_
     refine T.iff rfl ?_
     refine T.seq ?_
     refine T.region ?_
     refine Rg.move rfl rfl ?_
     refine Rg.ige rfl rfl rfl ?_
     refine Rg.move rfl rfl ?_
     refine Rg.gsplitp (g := 34) rfl (fun g15_2 => ?_) (fun g15_2 => ?_)
     ·refine Rg.gyes rfl rfl ?_
      refine Rg.move rfl rfl ?_
      refine Rg.gyes rfl rfl ?_
      refine Rg.ilt rfl rfl rfl ?_
      refine Rg.pickt rfl rfl rfl ?_
      refine Rg.nil ?_
      refine T.ifp rfl (fun c15 => ?_) (fun c15 => ?_)
      ·refine T.seq ?_
       refine T.region ?_
       refine Rg.assign rfl rfl ?_
       refine Rg.nil ?_
       refine T.seq ?_
       refine T.region ?_
       refine Rg.assign rfl rfl ?_
       refine Rg.nil ?_
       refine T.region ?_
       refine Rg.move rfl rfl ?_
       refine Rg.isub rfl rfl rfl (by omega) ?_
       refine Rg.assign rfl rfl ?_
       refine Rg.nil ?_
       exact ⟨rfl, rfl, rfl, .cons rfl (.cons rfl (.cons (congrArg (fun z => some (Value.int .i64 z)) (by first | (exfalso; omega) | (unfold nO; repeat (first | rw [if_pos (by omega)] | rw [if_neg (by omega)])))) (.cons (congrArg (fun z => some (Value.int .i64 z)) (by first | (exfalso; omega) | (unfold leastO; repeat (first | rw [if_pos (by omega)] | rw [if_neg (by omega)])))) (.cons (congrArg (fun z => some (Value.int .i64 z)) (by first | (exfalso; omega) | (unfold vO0; repeat (first | rw [if_pos (by omega)] | rw [if_neg (by omega)])))) (.nil)))))⟩
      ·refine T.skip ?_
       exact ⟨rfl, rfl, rfl, .cons rfl (.cons rfl (.cons (congrArg (fun z => some (Value.int .i64 z)) (by first | (exfalso; omega) | (unfold nO; repeat (first | rw [if_pos (by omega)] | rw [if_neg (by omega)])))) (.cons (congrArg (fun z => some (Value.int .i64 z)) (by first | (exfalso; omega) | (unfold leastO; repeat (first | rw [if_pos (by omega)] | rw [if_neg (by omega)])))) (.cons (congrArg (fun z => some (Value.int .i64 z)) (by first | (exfalso; omega) | (unfold vO0; repeat (first | rw [if_pos (by omega)] | rw [if_neg (by omega)])))) (.nil)))))⟩
     ·refine Rg.gno rfl rfl rfl rfl ?_
      refine Rg.gno rfl rfl rfl rfl ?_
      refine Rg.pickf rfl rfl rfl ?_
      refine Rg.nil ?_
      refine T.iff rfl ?_
      refine T.skip ?_
      exact ⟨rfl, rfl, rfl, .cons rfl (.cons rfl (.cons (congrArg (fun z => some (Value.int .i64 z)) (by first | (exfalso; omega) | (unfold nO; repeat (first | rw [if_pos (by omega)] | rw [if_neg (by omega)])))) (.cons (congrArg (fun z => some (Value.int .i64 z)) (by first | (exfalso; omega) | (unfold leastO; repeat (first | rw [if_pos (by omega)] | rw [if_neg (by omega)])))) (.cons (congrArg (fun z => some (Value.int .i64 z)) (by first | (exfalso; omega) | (unfold vO0; repeat (first | rw [if_pos (by omega)] | rw [if_neg (by omega)])))) (.nil)))))⟩
  ·refine T.seq ?_
   refine T.seq ?_
   refine T.region ?_
   refine Rg.move rfl rfl ?_
   refine Rg.ieq rfl rfl rfl ?_
   refine Rg.move rfl rfl ?_
   refine Rg.gsplitp (g := 42) rfl (fun g19_2 => ?_) (fun g19_2 => ?_)
   ·refine Rg.gno rfl rfl rfl rfl ?_
    refine Rg.gno rfl rfl rfl rfl ?_
    refine Rg.gno rfl rfl rfl rfl ?_
    refine Rg.gno rfl rfl rfl rfl ?_
    refine Rg.pickt rfl rfl rfl ?_
    refine Rg.nil ?_
    refine T.ift rfl ?_
    refine T.seq ?_
    refine T.region ?_
    refine Rg.assign rfl rfl ?_
    refine Rg.assign rfl rfl ?_
    refine Rg.nil ?_
    refine T.ret ?_
    have hx : nO (atB l 0 : Int) = 0 ∨ ∃ k : Nat, 1 ≤ k ∧ (k : Int) < nO (atB l 0 : Int) ∧ contB l k = false := by
     rw [← hc]
     by_cases h0 : nO c = 0
     ·exact .inl h0
     ·have hnc := nO_cases h0; exact .inr ⟨(nO c).toNat - 1, by omega, by omega, Bool.eq_false_iff.2 fun h => by have := (contB_iff.1 h).1; omega⟩
    have e : dec l = (65533, 1) := dec_D (by omega) hx
    exact Kret2 rfl rfl rfl ⟨by rw [e]; rfl, rfl⟩
   ·refine Rg.gyes rfl rfl ?_
    refine Rg.move rfl rfl ?_
    refine Rg.gyes rfl rfl ?_
    refine Rg.lenstr Tryz.underlying9 rfl rfl ?_
    refine Rg.eqv (v' := .int .i64 (l.length : Int)) (by simp [ByteArray.size]) ?_
    refine Rg.gyes rfl rfl ?_
    refine Rg.move rfl rfl ?_
    refine Rg.gyes rfl rfl ?_
    refine Rg.ilt rfl rfl rfl ?_
    refine Rg.pickf rfl rfl rfl ?_
    refine Rg.nil ?_
    refine T.ifp rfl (fun c19 => ?_) (fun c19 => ?_)
    ·refine T.seq ?_
     refine T.region ?_
     refine Rg.assign rfl rfl ?_
     refine Rg.assign rfl rfl ?_
     refine Rg.nil ?_
     refine T.ret ?_
     have hx : nO (atB l 0 : Int) = 0 ∨ ∃ k : Nat, 1 ≤ k ∧ (k : Int) < nO (atB l 0 : Int) ∧ contB l k = false := by
      rw [← hc]
      by_cases h0 : nO c = 0
      ·exact .inl h0
      ·have hnc := nO_cases h0; exact .inr ⟨(nO c).toNat - 1, by omega, by omega, Bool.eq_false_iff.2 fun h => by have := (contB_iff.1 h).1; omega⟩
     have e : dec l = (65533, 1) := dec_D (by omega) hx
     exact Kret2 rfl rfl rfl ⟨by rw [e]; rfl, rfl⟩
    ·refine T.skip ?_
     refine T.seq ?_
     refine T.seq ?_
     refine T.region ?_
     refine Rg.assign rfl rfl ?_
     refine Rg.nil ?_
     refine T.block ?_
     refine T.loop (σ := Nat) (fun i => [(0, .string ⟨l.toArray⟩), (5, .int .i64 (nO c)), (6, .int .i64 (leastO c)), (7, .int .i64 (vO l (i - 1))), (8, .int .i64 (i : Int))]) (fun i w => w = w0 ∧ 1 ≤ i ∧ (i : Int) ≤ nO c ∧ ∀ k : Nat, 1 ≤ k → k < i → contB l k = true) (fun i => (nO c).toNat - i) 1 (.cons rfl (.cons rfl (.cons rfl (.cons (congrArg (fun z => some (Value.int .i64 z)) (by show vO0 c = vO0 (atB l 0 : Int); rw [hc])) (.cons rfl .nil))))) ?_ ?_
     ·exact ⟨rfl, Nat.le_refl _, by have := nO_cases (c := c) (by omega); omega, fun k h1 h2 => by omega⟩
     ·rintro i w ⟨rfl, hi1, hi2, hok⟩
      have hnc := nO_cases (c := c) (by omega)
      have hvr : 0 ≤ vO l (i - 1) ∧ vO l (i - 1) ≤ 100000000 := by
       exact vO_rng (l := l) (c := c) (k := i - 1) hc (by omega) (fun j h1 h2 => hok j h1 (by omega)) (by omega)
      refine T.seq ?_
      refine T.seq ?_
      refine T.region ?_
      refine Rg.move rfl rfl ?_
      refine Rg.move rfl rfl ?_
      refine Rg.ilt rfl rfl rfl ?_
      refine Rg.nil ?_
      refine T.ifp rfl (fun c22 => ?_) (fun c22 => ?_)
      ·refine T.skip ?_
       refine T.seq ?_
       refine T.block ?_
       refine T.seq ?_
       refine T.region ?_
       refine Rg.move rfl rfl ?_
       refine Rg.move rfl rfl ?_
       have hin : i < l.length := by omega
       refine Rg.strAt (c := l.getD i 0) Tryz.underlying9 rfl rfl rfl (by omega) (by rw [List.getD_eq_getElem?_getD, Int.toNat_natCast, List.getElem?_eq_getElem hin]; rfl) ?_
       refine Rg.eqv (v' := .int .u8 (atB l i : Int)) rfl ?_
       have hbi := atB_lt l i
       refine Rg.conv64 Tryz.underlying5 Tryz.underlying3 rfl rfl (by omega) ?_
       refine Rg.assign rfl rfl ?_
       refine Rg.nil ?_
       refine T.seq ?_
       refine T.seq ?_
       refine T.region ?_
       refine Rg.move rfl rfl ?_
       refine Rg.ilt rfl rfl rfl ?_
       refine Rg.move rfl rfl ?_
       refine Rg.gsplitp (g := 59) rfl (fun g25_2 => ?_) (fun g25_2 => ?_)
       ·refine Rg.gno rfl rfl rfl rfl ?_
        refine Rg.gno rfl rfl rfl rfl ?_
        refine Rg.pickt rfl rfl rfl ?_
        refine Rg.nil ?_
        refine T.ift rfl ?_
        refine T.seq ?_
        refine T.region ?_
        refine Rg.assign rfl rfl ?_
        refine Rg.assign rfl rfl ?_
        refine Rg.nil ?_
        refine T.ret ?_
        have hx : nO (atB l 0 : Int) = 0 ∨ ∃ k : Nat, 1 ≤ k ∧ (k : Int) < nO (atB l 0 : Int) ∧ contB l k = false := by
         rw [← hc]
         exact .inr ⟨i, hi1, by omega, Bool.eq_false_iff.2 fun h => by have := contB_iff.1 h; omega⟩
        have e : dec l = (65533, 1) := dec_D (by omega) hx
        exact Kret2 rfl rfl rfl ⟨by rw [e]; rfl, rfl⟩
       ·refine Rg.gyes rfl rfl ?_
        refine Rg.move rfl rfl ?_
        refine Rg.gyes rfl rfl ?_
        refine Rg.ige rfl rfl rfl ?_
        refine Rg.pickf rfl rfl rfl ?_
        refine Rg.nil ?_
        refine T.ifp rfl (fun c25 => ?_) (fun c25 => ?_)
        ·refine T.seq ?_
         refine T.region ?_
         refine Rg.assign rfl rfl ?_
         refine Rg.assign rfl rfl ?_
         refine Rg.nil ?_
         refine T.ret ?_
         have hx : nO (atB l 0 : Int) = 0 ∨ ∃ k : Nat, 1 ≤ k ∧ (k : Int) < nO (atB l 0 : Int) ∧ contB l k = false := by
          rw [← hc]
          exact .inr ⟨i, hi1, by omega, Bool.eq_false_iff.2 fun h => by have := contB_iff.1 h; omega⟩
         have e : dec l = (65533, 1) := dec_D (by omega) hx
         exact Kret2 rfl rfl rfl ⟨by rw [e]; rfl, rfl⟩
        ·refine T.skip ?_
         refine T.region ?_
         refine Rg.move rfl rfl ?_
         refine Rg.imul rfl rfl rfl (by omega) ?_
         refine Rg.move rfl rfl ?_
         refine Rg.iadd rfl rfl rfl (by omega) ?_
         refine Rg.isub rfl rfl rfl (by omega) ?_
         refine Rg.assign rfl rfl ?_
         refine Rg.nil ?_
         refine T.region ?_
         refine Rg.move rfl rfl ?_
         refine Rg.iadd rfl rfl rfl (by omega) ?_
         refine Rg.assign rfl rfl ?_
         refine Rg.nil ?_
         refine ⟨rfl, i + 1, (.cons rfl (.cons rfl (.cons rfl (.cons (congrArg (fun z => some (Value.int .i64 z)) (by obtain ⟨q, rfl⟩ : ∃ q, i = q + 1 := ⟨i - 1, by omega⟩; rfl)) (.cons rfl .nil))))), ?_, ?_⟩
         ·exact ⟨rfl, by omega, by omega, fun k h1 h2 => by
           rcases Nat.lt_or_ge k i with h | h
           ·exact hok k h1 h
           ·obtain rfl : k = i := by omega
            exact contB_iff.2 (by omega)⟩
         ·omega
      ·refine T.exit ?_
       refine T.seq ?_
       refine T.seq ?_
       refine T.region ?_
       refine Rg.move rfl rfl ?_
       refine Rg.move rfl rfl ?_
       refine Rg.ilt rfl rfl rfl ?_
       refine Rg.move rfl rfl ?_
       refine Rg.gsplitp (g := 71) rfl (fun g28_3 => ?_) (fun g28_3 => ?_)
       ·refine Rg.gno rfl rfl rfl rfl ?_
        refine Rg.gno rfl rfl rfl rfl ?_
        refine Rg.pickt rfl rfl rfl ?_
        refine Rg.move rfl rfl ?_
        refine Rg.gno rfl rfl rfl rfl ?_
        refine Rg.gno rfl rfl rfl rfl ?_
        refine Rg.gno rfl rfl rfl rfl ?_
        refine Rg.gnox rfl rfl rfl ?_
        refine Rg.gnox rfl rfl rfl ?_
        refine Rg.gno rfl rfl rfl rfl ?_
        refine Rg.pickt rfl rfl rfl ?_
        refine Rg.nil ?_
        refine T.ift rfl ?_
        refine T.seq ?_
        refine T.region ?_
        refine Rg.assign rfl rfl ?_
        refine Rg.assign rfl rfl ?_
        refine Rg.nil ?_
        refine T.ret ?_
        have e := dec_E (l := l) (by rw [← hc]; omega) (by rw [← hc]; exact fun k h1 h2 => hok k h1 (by omega)) (vO l (i - 1)) (by rw [← hc]; congr 1; omega)
        rw [← hc, if_pos (by omega)] at e
        exact Kret2 rfl rfl rfl ⟨by rw [e]; rfl, rfl⟩
       ·refine Rg.gyes rfl rfl ?_
        refine Rg.move rfl rfl ?_
        refine Rg.gyes rfl rfl ?_
        refine Rg.igt rfl rfl rfl ?_
        refine Rg.pickf rfl rfl rfl ?_
        refine Rg.move rfl rfl ?_
        refine Rg.gsplitp (g := 75) rfl (fun g28_7 => ?_) (fun g28_7 => ?_)
        ·refine Rg.gno rfl rfl rfl rfl ?_
         refine Rg.gno rfl rfl rfl rfl ?_
         refine Rg.gno rfl rfl rfl rfl ?_
         refine Rg.gnox rfl rfl rfl ?_
         refine Rg.gnox rfl rfl rfl ?_
         refine Rg.gno rfl rfl rfl rfl ?_
         refine Rg.pickt rfl rfl rfl ?_
         refine Rg.nil ?_
         refine T.ift rfl ?_
         refine T.seq ?_
         refine T.region ?_
         refine Rg.assign rfl rfl ?_
         refine Rg.assign rfl rfl ?_
         refine Rg.nil ?_
         refine T.ret ?_
         have e := dec_E (l := l) (by rw [← hc]; omega) (by rw [← hc]; exact fun k h1 h2 => hok k h1 (by omega)) (vO l (i - 1)) (by rw [← hc]; congr 1; omega)
         rw [← hc, if_pos (by omega)] at e
         exact Kret2 rfl rfl rfl ⟨by rw [e]; rfl, rfl⟩
        ·refine Rg.gyes rfl rfl ?_
         refine Rg.move rfl rfl ?_
         refine Rg.gyes rfl rfl ?_
         refine Rg.ige rfl rfl rfl ?_
         refine Rg.gyes rfl rfl ?_
         refine Rg.move rfl rfl ?_
         refine Rg.gsplitp (g := 78) rfl (fun g28_10 => ?_) (fun g28_10 => ?_)
         ·refine Rg.gyes rfl rfl ?_
          refine Rg.move rfl rfl ?_
          refine Rg.gyes rfl rfl ?_
          refine Rg.ile rfl rfl rfl ?_
          refine Rg.gyes rfl rfl ?_
          refine Rg.pickt rfl rfl rfl ?_
          refine Rg.pickf rfl rfl rfl ?_
          refine Rg.nil ?_
          refine T.ifp rfl (fun c28 => ?_) (fun c28 => ?_)
          ·refine T.seq ?_
           refine T.region ?_
           refine Rg.assign rfl rfl ?_
           refine Rg.assign rfl rfl ?_
           refine Rg.nil ?_
           refine T.ret ?_
           have e := dec_E (l := l) (by rw [← hc]; omega) (by rw [← hc]; exact fun k h1 h2 => hok k h1 (by omega)) (vO l (i - 1)) (by rw [← hc]; congr 1; omega)
           rw [← hc, if_pos (by omega)] at e
           exact Kret2 rfl rfl rfl ⟨by rw [e]; rfl, rfl⟩
          ·refine T.skip ?_
           refine T.seq ?_
           refine T.region ?_
           refine Rg.move rfl rfl ?_
           refine Rg.move rfl rfl ?_
           refine Rg.assign rfl rfl ?_
           refine Rg.assign rfl rfl ?_
           refine Rg.nil ?_
           refine T.ret ?_
           have e := dec_E (l := l) (by rw [← hc]; omega) (by rw [← hc]; exact fun k h1 h2 => hok k h1 (by omega)) (vO l (i - 1)) (by rw [← hc]; congr 1; omega)
           rw [← hc, if_neg (by omega)] at e
           exact Kret2 rfl rfl rfl ⟨by rw [e]; simp only []; rw [Int.toNat_of_nonneg hvr.1, Int.toNat_of_nonneg (by omega)], rfl⟩
         ·refine Rg.gno rfl rfl rfl rfl ?_
          refine Rg.gno rfl rfl rfl rfl ?_
          refine Rg.gyes rfl rfl ?_
          refine Rg.pickf rfl rfl rfl ?_
          refine Rg.pickf rfl rfl rfl ?_
          refine Rg.nil ?_
          refine T.iff rfl ?_
          refine T.skip ?_
          refine T.seq ?_
          refine T.region ?_
          refine Rg.move rfl rfl ?_
          refine Rg.move rfl rfl ?_
          refine Rg.assign rfl rfl ?_
          refine Rg.assign rfl rfl ?_
          refine Rg.nil ?_
          refine T.ret ?_
          have e := dec_E (l := l) (by rw [← hc]; omega) (by rw [← hc]; exact fun k h1 h2 => hok k h1 (by omega)) (vO l (i - 1)) (by rw [← hc]; congr 1; omega)
          rw [← hc, if_neg (by omega)] at e
          exact Kret2 rfl rfl rfl ⟨by rw [e]; simp only []; rw [Int.toNat_of_nonneg hvr.1, Int.toNat_of_nonneg (by omega)], rfl⟩
theorem rsigns_spec {M : PSet} {l : List UInt8} (w0 : World) (hM : Lt M w0) (hl : l.length ≤ 1000000) :
  Spec Tryz.prog 216 #[.string ⟨l.toArray⟩] w0 (fun v w => ((RT.int .i64).sl).V M w (signs l) v ∧ Step M w0 M w none') := by
 have hM0 := hM
 refine spec_of (args := [_]) (fn := Tryz.f216) Tryz.func216 rfl (n := 22) Tryz.ntmps216 ?_
 have S : Step M w0 M w0 none' := (Step.refl _ _).widen (fun _ h => h.elim) (fun _ h => h.elim)
 refine T.seq ?_
 refine T.region ?_
 refine Rg.assign rfl rfl ?_
 refine Rg.nil ?_
 refine T.seq ?_
 refine T.region ?_
 refine Rg.assign rfl rfl ?_
 refine Rg.nil ?_
 refine T.seq ?_
 refine T.block ?_
 refine T.loop (σ := Nat × List Int × Value) (fun q => [(0, .string ⟨(l.drop q.1).toArray⟩), (3, q.2.2)]) (fun q w => ∃ M', Lt M' w ∧ Step M w0 M' w none' ∧ Own (RT.int .i64) 3 M' w w0.heap.size q.2.2 q.2.1 ∧ signs l = q.2.1 ++ signs (l.drop q.1) ∧ q.1 ≤ l.length) (fun q => l.length - q.1) (0, [], .slice none 0 0) (.cons rfl (.cons rfl .nil)) ?_ ?_
 ·exact ⟨M, hM, S, Own.nil _ _ _ _ _, by simp, by simp⟩
 ·rintro ⟨p, xs, u⟩ w ⟨M1, hM, S, ho, hsg, hp⟩
  dsimp only at ho hsg hp ⊢
  refine T.seq ?_
  refine T.seq ?_
  refine T.region ?_
  refine Rg.move rfl rfl ?_
  refine Rg.lenstr Tryz.underlying9 rfl rfl ?_
  refine Rg.eqv (v' := .int .i64 ((l.drop p).length : Int)) (by simp [ByteArray.size]) ?_
  refine Rg.igt rfl rfl rfl ?_
  refine Rg.nil ?_
  refine T.ifp rfl (fun c2 => ?_) (fun c2 => ?_)
  ·refine T.skip ?_
   refine T.block ?_
   refine T.seq ?_
   refine T.region ?_
   refine Rg.move rfl rfl ?_
   have hne : l.drop p ≠ [] := by intro h; rw [h] at c2; simp at c2
   have hpl : p < l.length := by have := List.length_pos_iff.2 hne; rw [List.length_drop] at this; omega
   have hwd := dec_width hne
   refine Rg.call rfl rfl E252 (one_spec (l := l.drop p) _ hne (by rw [List.length_drop]; omega)) (fun r3 w3 hc => ?_)
   obtain ⟨rfl, rfl⟩ := hc
   refine Rg.move rfl rfl ?_
   refine Rg.extract rfl rfl rfl ?_
   refine Rg.extract rfl rfl rfl ?_
   refine Rg.assign rfl rfl ?_
   refine Rg.assign rfl rfl ?_
   refine Rg.nil ?_
   refine T.seq ?_
   refine T.region ?_
   refine Rg.move rfl rfl ?_
   refine Rg.move rfl rfl ?_
   refine Rg.sl1 (A := RT.int .i64) (hn := by decide) (M := M1) Tryz.underlying32 I3 (by decide) rfl rfl hM (V_i64 (by have := dec_bound (l.drop p); omega)) (.inr ⟨rfl, rfl⟩) (fun u4_2 w4_2 hu4_2 s4_2 => ?_)
   replace ho := ho.step0 s4_2
   replace hM := s4_2.lt hM
   have := S.size
   replace S := S.trans0 s4_2
   refine Rg.append (M := M1) (base := w0.heap.size) Tryz.underlying32 I3 rfl rfl rfl rfl ho hu4_2 (Le.refl _ _) (by simp; have := signs_len l; rw [hsg] at this; simp at this; omega) (by simp; have := signs_len l; rw [hsg] at this; simp at this; omega) (S.size) (fun u4_3 M4_3 w4_3 ho4_3 s4_3 => ?_)
   replace hu4_2 := hu4_2.le s4_3.le
   replace hM := s4_3.lt hM
   have := S.size
   replace S := S.transBlk s4_3 ho (Nat.le_refl _)
   replace ho := ho4_3
   refine Rg.assign rfl rfl ?_
   refine Rg.nil ?_
   refine T.region ?_
   refine Rg.move rfl rfl ?_
   refine Rg.move rfl rfl ?_
   refine Rg.strFrom Tryz.underlying9 rfl rfl rfl (by omega) ?_
   refine Rg.eqv (v' := .string ⟨(l.drop (p + (dec (l.drop p)).2)).toArray⟩) (by rw [List.drop_drop]; simp) ?_
   refine Rg.assign rfl rfl ?_
   refine Rg.nil ?_
   refine ⟨rfl, (p + (dec (l.drop p)).2, xs ++ [((dec (l.drop p)).1 : Int)], u4_3), (.cons rfl (.cons rfl .nil)), ?_, ?_⟩
   ·refine ⟨M4_3, hM, S, ho, ?_, ?_⟩
    ·rw [hsg, signs_step hne, List.drop_drop]; simp
    ·have := hwd.2; rw [List.length_drop] at this; dsimp only; omega
   ·have := hwd.1
    have := hwd.2
    rw [List.length_drop] at this
    dsimp only; omega
  ·refine T.exit ?_
   refine T.seq ?_
   refine T.region ?_
   refine Rg.move rfl rfl ?_
   refine Rg.assign rfl rfl ?_
   refine Rg.nil ?_
   refine T.ret ?_
   have e : signs l = xs := by rw [hsg, List.drop_of_length_le (by simp at c2; omega), signs_nil]; simp
   rw [e]
   have := signs_len l
   rw [e] at this
   exact Kret1 rfl rfl ⟨ho.close hM0 S (by omega), S.back⟩
theorem V_u8w {M : PSet} {w : World} {x : Int} (h : 0 ≤ x ∧ x < 256) : RT.u8.V M w x.toNat.toUInt8 (.int .u8 (IntKind.u8.wrap x)) := by
 have e1 : IntKind.u8.wrap x = x := by
  show (if (false && decide (x % 256 ≥ 128)) = true then x % 256 - 256 else x % 256) = x
  rw [if_neg (by simp)]; omega
 have e2 : ((x.toNat.toUInt8).toNat : Int) = x := by
  have : x.toNat.toUInt8.toNat = x.toNat % 256 := UInt8.toNat_ofNat' ..
  omega
 rw [e1]
 exact ⟨[.int .u8 x], by show _ = _; rw [e2], rfl⟩
theorem enc1 {r : Int} (h : 0 ≤ r ∧ r < 128) : Lib.encodeRune r = [r.toNat.toUInt8] := by rw [Lib.encodeRune, Lib.encodeRuneZ_one h.1 (by omega)]; rfl
theorem enc2 {r : Int} (h : 128 ≤ r ∧ r < 2048) : Lib.encodeRune r = [(192 + r / 64).toNat.toUInt8, (128 + r % 64).toNat.toUInt8] := by rw [Lib.encodeRune, Lib.encodeRuneZ_two h.1 (by omega)]; rfl
theorem sgn_cases (c : Int) : sgn c < 55296 ∨ 57343 < sgn c := by
 unfold sgn
 split
 ·omega
 ·rename_i h
  have h2 : Lib.validRune c = true := by
   cases hv : Lib.validRune c with
   |true => rfl
   |false => exact absurd (.inr (.inr hv)) h
  simp only [Lib.validRune, decide_eq_true_eq] at h2
  omega
theorem enc3 {r : Int} (h : 2048 ≤ r ∧ r < 65536) (h2 : r < 55296 ∨ 57343 < r) : Lib.encodeRune r = [(224 + r / 4096).toNat.toUInt8, (128 + r / 64 % 64).toNat.toUInt8, (128 + r % 64).toNat.toUInt8] := by rw [Lib.encodeRune, Lib.encodeRuneZ_three (by omega)]; rfl
theorem enc4 {r : Int} (h : 65536 ≤ r ∧ r ≤ 1114111) : Lib.encodeRune r = [(240 + r / 262144).toNat.toUInt8, (128 + r / 4096 % 64).toNat.toUInt8, (128 + r / 64 % 64).toNat.toUInt8, (128 + r % 64).toNat.toUInt8] := by rw [Lib.encodeRune, Lib.encodeRuneZ_four h.1 h.2]; rfl
theorem sgn_bad {c : Int} (h : c < 0 ∨ c > 1114111 ∨ (55296 ≤ c ∧ c ≤ 57343)) : sgn c = 65533 := by
 rw [sgn, if_pos]
 rcases h with h | h | h
 ·exact .inl h
 ·exact .inr (.inl h)
 ·refine .inr (.inr ?_)
  simp only [Lib.validRune, decide_eq_false_iff_not]; omega
theorem sgn_good {c : Int} (h : ¬ (c < 0 ∨ c > 1114111 ∨ (55296 ≤ c ∧ c ≤ 57343))) : sgn c = c := by
 rw [sgn, if_neg]
 rintro (h1 | h1 | h1)
 ·omega
 ·omega
 ·simp only [Lib.validRune, decide_eq_false_iff_not] at h1; omega
theorem rtext_spec {M : PSet} {xs : List Int} {v0 : Value} (w0 : World) (hM : Lt M w0) (hv : ((RT.int .i64).sl).V M w0 xs v0) (hl : xs.length ≤ 1000000) :
  Spec Tryz.prog 219 #[v0] w0 (fun v w => v = .string ⟨(textB xs).toArray⟩ ∧ Step M w0 M w none') := by
 have hM0 := hM
 refine spec_of (args := [_]) (fn := Tryz.f219) Tryz.func219 rfl (n := 91) Tryz.ntmps219 ?_
 have S : Step M w0 M w0 none' := (Step.refl _ _).widen (fun _ h => h.elim) (fun _ h => h.elim)
 refine T.seq ?_
 refine T.region ?_
 refine Rg.assign rfl rfl ?_
 refine Rg.nil ?_
 refine T.seq ?_
 refine T.region ?_
 refine Rg.assign rfl rfl ?_
 refine Rg.nil ?_
 refine T.seq ?_
 refine T.seq ?_
 refine T.region ?_
 refine Rg.assign rfl rfl ?_
 refine Rg.nil ?_
 refine T.block ?_
 refine T.loop (σ := Nat × Value) (fun q => [(0, v0), (3, q.2), (4, .int .i64 (q.1 : Int))]) (fun q w => ∃ M', Lt M' w ∧ Step M w0 M' w none' ∧ Own RT.u8 5 M' w w0.heap.size q.2 (textB (xs.take q.1)) ∧ ((RT.int .i64).sl).V M' w xs v0 ∧ q.1 ≤ xs.length) (fun q => xs.length - q.1) (0, .slice none 0 0) (.cons rfl (.cons rfl (.cons rfl .nil))) ?_ ?_
 ·exact ⟨M, hM, S, Own.nil _ _ _ _ _, hv, Nat.zero_le _⟩
 ·rintro ⟨k, u⟩ w ⟨M1, hM, S, ho, hv, hk⟩
  dsimp only at ho hk ⊢
  refine T.seq ?_
  refine T.seq ?_
  refine T.region ?_
  refine Rg.move rfl rfl ?_
  refine Rg.move rfl rfl ?_
  refine Rg.lensl Tryz.underlying32 rfl hv rfl ?_
  refine Rg.ilt rfl rfl rfl ?_
  refine Rg.nil ?_
  refine T.ifp rfl (fun c3 => ?_) (fun c3 => ?_)
  ·refine T.skip ?_
   refine T.seq ?_
   refine T.block ?_
   refine T.seq ?_
   refine T.region ?_
   refine Rg.move rfl rfl ?_
   refine Rg.move rfl rfl ?_
   refine Rg.idx (M := M1) Tryz.underlying32 I3 rfl rfl rfl hv (Le.refl _ _) (by omega) (fun u5 c hg5 hu5 => ?_) --@ptr RT.int .i64 ;; c
   refine Rg.loadi64 (M := M1) Tryz.underlying3 rfl rfl hu5 (Le.refl _ _) (fun in5 => ?_)
   have tk : xs.take (k + 1) = xs.take k ++ [c] := by rw [List.take_add_one]; simp only [Int.toNat_natCast] at hg5; rw [hg5]; rfl
   have hsr := sgn_rng c
   have hsc := sgn_cases c
   refine Rg.assign rfl rfl ?_
   refine Rg.nil ?_
   refine T.seqJoin [(0, v0), (3, u), (4, .int .i64 (k : Int)), (5, .int .i64 (sgn c))] ?_ ?_
   ·refine T.seq ?_
    refine T.region ?_
    refine Rg.move rfl rfl ?_
    refine Rg.ilt rfl rfl rfl ?_
    refine Rg.move rfl rfl ?_
    refine Rg.gsplitp (g := 18) rfl (fun g6_2 => ?_) (fun g6_2 => ?_)
    ·refine Rg.gno rfl rfl rfl rfl ?_
     refine Rg.gno rfl rfl rfl rfl ?_
     refine Rg.pickt rfl rfl rfl ?_
     refine Rg.move rfl rfl ?_
     refine Rg.gno rfl rfl rfl rfl ?_
     refine Rg.gno rfl rfl rfl rfl ?_
     refine Rg.gno rfl rfl rfl rfl ?_
     refine Rg.gnox rfl rfl rfl ?_
     refine Rg.gnox rfl rfl rfl ?_
     refine Rg.gno rfl rfl rfl rfl ?_
     refine Rg.pickt rfl rfl rfl ?_
     refine Rg.nil ?_
     refine T.ift rfl ?_
     refine T.region ?_
     refine Rg.assign rfl rfl ?_
     refine Rg.nil ?_
     exact ⟨rfl, rfl, rfl, .cons rfl (.cons rfl (.cons rfl (.cons (congrArg (fun z => some (Value.int .i64 z)) (by first | exact (sgn_bad (by omega)).symm | exact (sgn_good (by omega)).symm)) (.nil))))⟩
    ·refine Rg.gyes rfl rfl ?_
     refine Rg.move rfl rfl ?_
     refine Rg.gyes rfl rfl ?_
     refine Rg.igt rfl rfl rfl ?_
     refine Rg.pickf rfl rfl rfl ?_
     refine Rg.move rfl rfl ?_
     refine Rg.gsplitp (g := 22) rfl (fun g6_6 => ?_) (fun g6_6 => ?_)
     ·refine Rg.gno rfl rfl rfl rfl ?_
      refine Rg.gno rfl rfl rfl rfl ?_
      refine Rg.gno rfl rfl rfl rfl ?_
      refine Rg.gnox rfl rfl rfl ?_
      refine Rg.gnox rfl rfl rfl ?_
      refine Rg.gno rfl rfl rfl rfl ?_
      refine Rg.pickt rfl rfl rfl ?_
      refine Rg.nil ?_
      refine T.ift rfl ?_
      refine T.region ?_
      refine Rg.assign rfl rfl ?_
      refine Rg.nil ?_
      exact ⟨rfl, rfl, rfl, .cons rfl (.cons rfl (.cons rfl (.cons (congrArg (fun z => some (Value.int .i64 z)) (by first | exact (sgn_bad (by omega)).symm | exact (sgn_good (by omega)).symm)) (.nil))))⟩
     ·refine Rg.gyes rfl rfl ?_
      refine Rg.move rfl rfl ?_
      refine Rg.gyes rfl rfl ?_
      refine Rg.ige rfl rfl rfl ?_
      refine Rg.gyes rfl rfl ?_
      refine Rg.move rfl rfl ?_
      refine Rg.gsplitp (g := 25) rfl (fun g6_9 => ?_) (fun g6_9 => ?_)
      ·refine Rg.gyes rfl rfl ?_
       refine Rg.move rfl rfl ?_
       refine Rg.gyes rfl rfl ?_
       refine Rg.ile rfl rfl rfl ?_
       refine Rg.gyes rfl rfl ?_
       refine Rg.pickt rfl rfl rfl ?_
       refine Rg.pickf rfl rfl rfl ?_
       refine Rg.nil ?_
       refine T.ifp rfl (fun c6 => ?_) (fun c6 => ?_)
       ·refine T.region ?_
        refine Rg.assign rfl rfl ?_
        refine Rg.nil ?_
        exact ⟨rfl, rfl, rfl, .cons rfl (.cons rfl (.cons rfl (.cons (congrArg (fun z => some (Value.int .i64 z)) (by first | exact (sgn_bad (by omega)).symm | exact (sgn_good (by omega)).symm)) (.nil))))⟩
       ·refine T.skip ?_
        exact ⟨rfl, rfl, rfl, .cons rfl (.cons rfl (.cons rfl (.cons (congrArg (fun z => some (Value.int .i64 z)) (by first | exact (sgn_bad (by omega)).symm | exact (sgn_good (by omega)).symm)) (.nil))))⟩
      ·refine Rg.gno rfl rfl rfl rfl ?_
       refine Rg.gno rfl rfl rfl rfl ?_
       refine Rg.gyes rfl rfl ?_
       refine Rg.pickf rfl rfl rfl ?_
       refine Rg.pickf rfl rfl rfl ?_
       refine Rg.nil ?_
       refine T.iff rfl ?_
       refine T.skip ?_
       exact ⟨rfl, rfl, rfl, .cons rfl (.cons rfl (.cons rfl (.cons (congrArg (fun z => some (Value.int .i64 z)) (by first | exact (sgn_bad (by omega)).symm | exact (sgn_good (by omega)).symm)) (.nil))))⟩
   ·refine T.seq ?_
    refine T.region ?_
    refine Rg.move rfl rfl ?_
    refine Rg.ilt rfl rfl rfl ?_
    refine Rg.nil ?_
    refine T.ifp rfl (fun c8 => ?_) (fun c8 => ?_)
    ·refine T.region ?_
     refine Rg.move rfl rfl ?_
     refine Rg.move rfl rfl ?_
     refine Rg.conv Tryz.underlying3 Tryz.underlying5 rfl rfl ?_
     refine Rg.sl1 (A := RT.u8) (hn := by decide) (M := M1) Tryz.underlying147 I5 (by decide) rfl rfl hM (V_u8w (by omega)) (.inr ⟨rfl, rfl⟩) (fun u9_3 w9_3 hu9_3 s9_3 => ?_)
     replace hv := hv.le s9_3.le
     replace ho := ho.step0 s9_3
     replace hM := s9_3.lt hM
     have := S.size
     replace S := S.trans0 s9_3
     refine Rg.append (M := M1) (base := w0.heap.size) Tryz.underlying147 I5 rfl rfl rfl rfl ho hu9_3 (Le.refl _ _) (by have := textB_len (xs.take k); rw [List.length_take] at this; simp; omega) (by have := textB_len (xs.take k); rw [List.length_take] at this; simp; omega) (S.size) (fun u9_4 M9_4 w9_4 ho9_4 s9_4 => ?_)
     replace hv := hv.le s9_4.le
     replace hu9_3 := hu9_3.le s9_4.le
     replace hM := s9_4.lt hM
     have := S.size
     replace S := S.transBlk s9_4 ho (Nat.le_refl _)
     replace ho := ho9_4
     refine Rg.assign rfl rfl ?_
     refine Rg.nil ?_
     refine T.region ?_
     refine Rg.move rfl rfl ?_
     refine Rg.iadd rfl rfl rfl (by omega) ?_
     refine Rg.assign rfl rfl ?_
     refine Rg.nil ?_
     refine ⟨rfl, (k + 1, u9_4), (.cons rfl (.cons rfl (.cons rfl .nil))), ?_, ?_⟩
     ·exact ⟨M9_4, hM, S, by rw [tk, textB_snoc, enc1 (by omega)]; exact ho, hv, by dsimp only; omega⟩
     ·dsimp only; omega
    ·refine T.seq ?_
     refine T.region ?_
     refine Rg.move rfl rfl ?_
     refine Rg.ilt rfl rfl rfl ?_
     refine Rg.nil ?_
     refine T.ifp rfl (fun c10 => ?_) (fun c10 => ?_)
     ·refine T.region ?_
      refine Rg.move rfl rfl ?_
      refine Rg.move rfl rfl ?_
      refine Rg.idiv rfl rfl rfl (by omega) ?_
      refine Rg.iadd rfl rfl rfl (by omega) ?_
      refine Rg.conv Tryz.underlying3 Tryz.underlying5 rfl rfl ?_
      refine Rg.move rfl rfl ?_
      refine Rg.imod rfl rfl rfl (by omega) ?_
      refine Rg.iadd rfl rfl rfl (by omega) ?_
      refine Rg.conv Tryz.underlying3 Tryz.underlying5 rfl rfl ?_
      refine Rg.sln (A := RT.u8) (hn := by decide) (M := M1) (xs := [(192 + sgn c / 64).toNat.toUInt8, (128 + sgn c % 64).toNat.toUInt8]) Tryz.underlying147 I5 rfl (by decide) rfl ⟨_, _, _, rfl, rfl, rfl, V_u8w (by omega), _, _, _, rfl, rfl, rfl, V_u8w (by omega), rfl⟩ rfl hM (.inr ⟨rfl, rfl⟩) (by decide) (fun u11_9 w11_9 hu11_9 s11_9 => ?_) --@step s11_9
      --@vf hu11_9
      replace hv := hv.le s11_9.le
      replace ho := ho.step0 s11_9
      replace hM := s11_9.lt hM
      have := S.size
      replace S := S.trans0 s11_9
      refine Rg.append (M := M1) (base := w0.heap.size) Tryz.underlying147 I5 rfl rfl rfl rfl ho hu11_9 (Le.refl _ _) (by have := textB_len (xs.take k); rw [List.length_take] at this; simp; omega) (by have := textB_len (xs.take k); rw [List.length_take] at this; simp; omega) (S.size) (fun u11_10 M11_10 w11_10 ho11_10 s11_10 => ?_)
      replace hv := hv.le s11_10.le
      replace hu11_9 := hu11_9.le s11_10.le
      replace hM := s11_10.lt hM
      have := S.size
      replace S := S.transBlk s11_10 ho (Nat.le_refl _)
      replace ho := ho11_10
      refine Rg.assign rfl rfl ?_
      refine Rg.nil ?_
      refine T.region ?_
      refine Rg.move rfl rfl ?_
      refine Rg.iadd rfl rfl rfl (by omega) ?_
      refine Rg.assign rfl rfl ?_
      refine Rg.nil ?_
      refine ⟨rfl, (k + 1, u11_10), (.cons rfl (.cons rfl (.cons rfl .nil))), ?_, ?_⟩
      ·exact ⟨M11_10, hM, S, by rw [tk, textB_snoc, enc2 (by omega)]; exact ho, hv, by dsimp only; omega⟩
      ·dsimp only; omega
     ·refine T.seq ?_
      refine T.region ?_
      refine Rg.move rfl rfl ?_
      refine Rg.ilt rfl rfl rfl ?_
      refine Rg.nil ?_
      refine T.ifp rfl (fun c12 => ?_) (fun c12 => ?_)
      ·refine T.region ?_
       refine Rg.move rfl rfl ?_
       refine Rg.move rfl rfl ?_
       refine Rg.idiv rfl rfl rfl (by omega) ?_
       refine Rg.iadd rfl rfl rfl (by omega) ?_
       refine Rg.conv Tryz.underlying3 Tryz.underlying5 rfl rfl ?_
       refine Rg.move rfl rfl ?_
       refine Rg.idiv rfl rfl rfl (by omega) ?_
       refine Rg.imod rfl rfl rfl (by omega) ?_
       refine Rg.iadd rfl rfl rfl (by omega) ?_
       refine Rg.conv Tryz.underlying3 Tryz.underlying5 rfl rfl ?_
       refine Rg.move rfl rfl ?_
       refine Rg.imod rfl rfl rfl (by omega) ?_
       refine Rg.iadd rfl rfl rfl (by omega) ?_
       refine Rg.conv Tryz.underlying3 Tryz.underlying5 rfl rfl ?_
       refine Rg.sln (A := RT.u8) (hn := by decide) (M := M1) (xs := [(224 + sgn c / 4096).toNat.toUInt8, (128 + sgn c / 64 % 64).toNat.toUInt8, (128 + sgn c % 64).toNat.toUInt8]) Tryz.underlying147 I5 rfl (by decide) rfl ⟨_, _, _, rfl, rfl, rfl, V_u8w (by omega), _, _, _, rfl, rfl, rfl, V_u8w (by omega), _, _, _, rfl, rfl, rfl, V_u8w (by omega), rfl⟩ rfl hM (.inr ⟨rfl, rfl⟩) (by decide) (fun u13_14 w13_14 hu13_14 s13_14 => ?_) --@step s13_14
       --@vf hu13_14
       replace hv := hv.le s13_14.le
       replace ho := ho.step0 s13_14
       replace hM := s13_14.lt hM
       have := S.size
       replace S := S.trans0 s13_14
       refine Rg.append (M := M1) (base := w0.heap.size) Tryz.underlying147 I5 rfl rfl rfl rfl ho hu13_14 (Le.refl _ _) (by have := textB_len (xs.take k); rw [List.length_take] at this; simp; omega) (by have := textB_len (xs.take k); rw [List.length_take] at this; simp; omega) (S.size) (fun u13_15 M13_15 w13_15 ho13_15 s13_15 => ?_)
       replace hv := hv.le s13_15.le
       replace hu13_14 := hu13_14.le s13_15.le
       replace hM := s13_15.lt hM
       have := S.size
       replace S := S.transBlk s13_15 ho (Nat.le_refl _)
       replace ho := ho13_15
       refine Rg.assign rfl rfl ?_
       refine Rg.nil ?_
       refine T.region ?_
       refine Rg.move rfl rfl ?_
       refine Rg.iadd rfl rfl rfl (by omega) ?_
       refine Rg.assign rfl rfl ?_
       refine Rg.nil ?_
       refine ⟨rfl, (k + 1, u13_15), (.cons rfl (.cons rfl (.cons rfl .nil))), ?_, ?_⟩
       ·exact ⟨M13_15, hM, S, by rw [tk, textB_snoc, enc3 (by omega) hsc]; exact ho, hv, by dsimp only; omega⟩
       ·dsimp only; omega
      ·refine T.region ?_
       refine Rg.move rfl rfl ?_
       refine Rg.move rfl rfl ?_
       refine Rg.idiv rfl rfl rfl (by omega) ?_
       refine Rg.iadd rfl rfl rfl (by omega) ?_
       refine Rg.conv Tryz.underlying3 Tryz.underlying5 rfl rfl ?_
       refine Rg.move rfl rfl ?_
       refine Rg.idiv rfl rfl rfl (by omega) ?_
       refine Rg.imod rfl rfl rfl (by omega) ?_
       refine Rg.iadd rfl rfl rfl (by omega) ?_
       refine Rg.conv Tryz.underlying3 Tryz.underlying5 rfl rfl ?_
       refine Rg.move rfl rfl ?_
       refine Rg.idiv rfl rfl rfl (by omega) ?_
       refine Rg.imod rfl rfl rfl (by omega) ?_
       refine Rg.iadd rfl rfl rfl (by omega) ?_
       refine Rg.conv Tryz.underlying3 Tryz.underlying5 rfl rfl ?_
       refine Rg.move rfl rfl ?_
       refine Rg.imod rfl rfl rfl (by omega) ?_
       refine Rg.iadd rfl rfl rfl (by omega) ?_
       refine Rg.conv Tryz.underlying3 Tryz.underlying5 rfl rfl ?_
       refine Rg.sln (A := RT.u8) (hn := by decide) (M := M1) (xs := [(240 + sgn c / 262144).toNat.toUInt8, (128 + sgn c / 4096 % 64).toNat.toUInt8, (128 + sgn c / 64 % 64).toNat.toUInt8, (128 + sgn c % 64).toNat.toUInt8]) Tryz.underlying147 I5 rfl (by decide) rfl ⟨_, _, _, rfl, rfl, rfl, V_u8w (by omega), _, _, _, rfl, rfl, rfl, V_u8w (by omega), _, _, _, rfl, rfl, rfl, V_u8w (by omega), _, _, _, rfl, rfl, rfl, V_u8w (by omega), rfl⟩ rfl hM (.inr ⟨rfl, rfl⟩) (by decide) (fun u14_19 w14_19 hu14_19 s14_19 => ?_) --@step s14_19
       --@vf hu14_19
       replace hv := hv.le s14_19.le
       replace ho := ho.step0 s14_19
       replace hM := s14_19.lt hM
       have := S.size
       replace S := S.trans0 s14_19
       refine Rg.append (M := M1) (base := w0.heap.size) Tryz.underlying147 I5 rfl rfl rfl rfl ho hu14_19 (Le.refl _ _) (by have := textB_len (xs.take k); rw [List.length_take] at this; simp; omega) (by have := textB_len (xs.take k); rw [List.length_take] at this; simp; omega) (S.size) (fun u14_20 M14_20 w14_20 ho14_20 s14_20 => ?_)
       replace hv := hv.le s14_20.le
       replace hu14_19 := hu14_19.le s14_20.le
       replace hM := s14_20.lt hM
       have := S.size
       replace S := S.transBlk s14_20 ho (Nat.le_refl _)
       replace ho := ho14_20
       refine Rg.assign rfl rfl ?_
       refine Rg.nil ?_
       refine T.region ?_
       refine Rg.move rfl rfl ?_
       refine Rg.iadd rfl rfl rfl (by omega) ?_
       refine Rg.assign rfl rfl ?_
       refine Rg.nil ?_
       refine ⟨rfl, (k + 1, u14_20), (.cons rfl (.cons rfl (.cons rfl .nil))), ?_, ?_⟩
       ·exact ⟨M14_20, hM, S, by rw [tk, textB_snoc, enc4 (by omega)]; exact ho, hv, by dsimp only; omega⟩
       ·dsimp only; omega
  ·refine T.exit ?_
   refine T.seq ?_
   refine T.region ?_
   refine Rg.move rfl rfl ?_
   refine Rg.b2s (hn := by decide) (M := M) Tryz.underlying147 Tryz.underlying5 Tryz.underlying9 rfl rfl (ho.close hM0 S (by have := textB_len (xs.take k); rw [List.length_take] at this; omega)) (Le.refl _ _) ?_
   refine Rg.assign rfl rfl ?_
   refine Rg.nil ?_
   refine T.ret ?_
   have e : xs.take k = xs := List.take_of_length_le (by omega)
   rw [e]
   exact Kret1 rfl rfl ⟨rfl, S.back⟩
end Go.K
namespace Go.K
open Go.Proofs
set_option linter.unusedVariables false
set_option linter.unusedSimpArgs false
set_option maxRecDepth 10000
theorem signs_spec {M : PSet} {l : List UInt8} (w0 : World) (hM : Lt M w0) (hl : l.length ≤ 1000000) :
  Spec Tryz.prog 225 #[.string ⟨l.toArray⟩] w0 (fun v w => ((RT.int .i64).sl).V M w (signs l) v ∧ Step M w0 M w none') := by
 have hM0 := hM
 refine spec_of (args := [_]) (fn := Tryz.f225) Tryz.func225 rfl (n := 17) Tryz.ntmps225 ?_
 have S : Step M w0 M w0 none' := (Step.refl _ _).widen (fun _ h => h.elim) (fun _ h => h.elim)
 refine T.seq ?_
 refine T.region ?_
 refine Rg.assign rfl rfl ?_
 refine Rg.nil ?_
 refine T.seq ?_
 refine T.region ?_
 refine Rg.assign rfl rfl ?_
 refine Rg.nil ?_
 refine T.seq ?_
 refine T.seq ?_
 refine T.region ?_
 refine Rg.move rfl rfl ?_
 refine Rg.rangeStr M Tryz.underlying9 rfl rfl (fun b2_1 w2_1 p2_1 q2_1 g2_1 s2_1 => ?_)
 obtain ⟨M_2_1, eM_2_1⟩ : ∃ M', M' = ins M b2_1 := ⟨_, rfl⟩
 rw [← eM_2_1] at s2_1
 have m_g2_1 : M_2_1 b2_1 := by rw [eM_2_1]; exact .inl rfl
 replace hM := s2_1.lt hM
 have := S.size
 replace S := S.trans0 s2_1
 refine Rg.nil ?_
 refine T.block ?_
 refine T.loop (σ := Nat × List Int × Value) (fun q => [(3, q.2.2), (7, .pointer (some ⟨b2_1, 0, none⟩))]) (fun q w => ∃ M', Lt M' w ∧ Step M w0 M' w none' ∧ w.heap[b2_1]? = some (.stringIter ⟨l.toArray⟩ q.1) ∧ M' b2_1 ∧ Own (RT.int .i64) 3 M' w w0.heap.size q.2.2 q.2.1 ∧ signs l = q.2.1 ++ signs (l.drop q.1) ∧ q.1 ≤ l.length) (fun q => l.length - q.1) (0, [], .slice none 0 0) (.cons rfl (.cons rfl .nil)) ?_ ?_
 ·exact ⟨M_2_1, hM, S, g2_1, m_g2_1, Own.nil _ _ _ _ _, by simp, by simp⟩
 ·rintro ⟨p, xs, u⟩ w ⟨M1, hM, S, g, m_g, ho, hsg, hp⟩
  dsimp only at g ho hsg hp ⊢
  refine T.seq ?_
  refine T.region ?_
  refine Rg.nextStr (M := M1) rfl g m_g rfl (fun n3_0 w3_0 g3_0 s3_0 => ?_) (fun n3_0 => ?_)
  ·have := lt_of_get g
   replace m_g := (s3_0.mem _ this).2 m_g
   replace ho := ho.step s3_0 (fun b hb hk => ho.notIter g (hk ▸ hb))
   replace hM := s3_0.lt hM
   have := S.size
   replace S := S.trans s3_0 (fun k hk h => by have h : _ = _ := h; subst h; first | (exfalso; omega) | (show _ ≤ _; omega) | exact ⟨by omega, (S.mem _ hk).1 ((s3_0.mem _ (lt_of_get g)).1 m_g)⟩ | exact .inl rfl | exact .inr rfl | exact .inr (.inl rfl) | exact .inr (.inr rfl) | exact rfl)
   have g_ := g3_0
   clear g
   have g := g_
   clear g_
   refine Rg.extract rfl rfl rfl ?_
   refine Rg.nil ?_
   refine T.seq ?_
   refine T.ift rfl ?_
   refine T.skip ?_
   refine T.block ?_
   refine T.seq ?_
   refine T.region ?_
   refine Rg.extract rfl rfl rfl ?_
   refine Rg.assign rfl rfl ?_
   refine Rg.nil ?_
   refine T.region ?_
   refine Rg.move rfl rfl ?_
   refine Rg.move rfl rfl ?_
   refine Rg.conv64 Tryz.underlying21 Tryz.underlying3 rfl rfl (by have := dec_bound (l.drop p); omega) ?_
   refine Rg.sl1 (A := RT.int .i64) (hn := by decide) (M := M1) Tryz.underlying32 I3 (by decide) rfl rfl hM (V_i64 (by have := dec_bound (l.drop p); omega)) (.inr ⟨rfl, rfl⟩) (fun u5_3 w5_3 hu5_3 s5_3 => ?_)
   have := lt_of_get g
   replace m_g := (s5_3.mem _ this).2 m_g
   replace g := s5_3.same0 g
   replace ho := ho.step0 s5_3
   replace hM := s5_3.lt hM
   have := S.size
   replace S := S.trans0 s5_3
   refine Rg.append (M := M1) (base := w0.heap.size) Tryz.underlying32 I3 rfl rfl rfl rfl ho hu5_3 (Le.refl _ _) (by simp; have := signs_len l; rw [hsg] at this; simp at this; omega) (by simp; have := signs_len l; rw [hsg] at this; simp at this; omega) (S.size) (fun u5_4 M5_4 w5_4 ho5_4 s5_4 => ?_)
   have := lt_of_get g
   replace m_g := (s5_4.mem _ this).2 m_g
   replace g := s5_4.keep g (fun h => by first | exact ho.notIter g h | exact ho.neT g (by decide) h | (have := (ho.base _ h).1; omega))
   replace hu5_3 := hu5_3.le s5_4.le
   replace hM := s5_4.lt hM
   have := S.size
   replace S := S.transBlk s5_4 ho (Nat.le_refl _)
   replace ho := ho5_4
   refine Rg.assign rfl rfl ?_
   refine Rg.nil ?_
   have hne : l.drop p ≠ [] := by intro h; have := congrArg List.length h; simp at this; omega
   refine ⟨rfl, (p + (dec (l.drop p)).2, xs ++ [((dec (l.drop p)).1 : Int)], u5_4), (.cons rfl (.cons rfl .nil)), ?_, ?_⟩
   ·refine ⟨M5_4, hM, S, g, m_g, ho, ?_, ?_⟩
    ·rw [hsg, signs_step hne, List.drop_drop]; simp
    ·have := (dec_width hne).2; rw [List.length_drop] at this; dsimp only; omega
   ·have := (dec_width hne).1
    have := (dec_width hne).2
    rw [List.length_drop] at this
    dsimp only; omega
  ·refine Rg.extract rfl rfl rfl ?_
   refine Rg.nil ?_
   refine T.seq ?_
   refine T.iff rfl ?_
   refine T.exit ?_
   refine T.seq ?_
   refine T.region ?_
   refine Rg.move rfl rfl ?_
   refine Rg.assign rfl rfl ?_
   refine Rg.nil ?_
   refine T.ret ?_
   have e : signs l = xs := by rw [hsg, List.drop_of_length_le (by omega), signs_nil]; simp
   rw [e]
   have := signs_len l
   rw [e] at this
   exact Kret1 rfl rfl ⟨ho.close hM0 S (by omega), S.back⟩
def takeF (p : List Int × List (List UInt8)) (c : Int) : List Int × List (List UInt8) :=
 if letB c = true ∨ digB c = true then (p.1 ++ [foldZ c], p.2) else if 0 < p.1.length then ([], p.2 ++ [textB p.1]) else ([], p.2)
structure TakeS (M : PSet) (w : World) (B bo bs : Nat) (p : List Int × List (List UInt8)) : Prop where
 a : ∃ u, w.heap[bo]? = some (.cells #[u] 32 (0, 0)) ∧ Own (RT.int .i64) 3 M w B u p.1
 b : ∃ u, w.heap[bs]? = some (.cells #[u] 55 (0, 0)) ∧ Own RT.str 9 M w B u p.2
 m : M bo ∧ M bs ∧ B ≤ bo ∧ B ≤ bs
theorem letB_rng {c : Int} (h : letB c = true ∨ digB c = true) : 0 ≤ c ∧ c ≤ 1114111 := by
 simp only [letB, digB, decide_eq_true_eq] at h; omega
theorem wtake_spec {M : PSet} {B bo bs : Nat} {p : List Int × List (List UInt8)} (w0 : World) (hM : Lt M w0) (c : Int) (ht : TakeS M w0 B bo bs p) (hl : p.1.length ≤ 1000000 ∧ p.2.length ≤ 1000000) :
  Spec Tryz.prog 220 #[.int .i64 c, .pointer (some ⟨bo, 0, none⟩), .pointer (some ⟨bs, 0, none⟩)] w0 (fun v w => ∃ M', Lt M' w ∧ TakeS M' w B bo bs (takeF p c) ∧ Step M w0 M' w (mine M B)) := by
 obtain ⟨⟨uo, go, ho⟩, ⟨us, gs, hs⟩, m_go, m_gs, hBo, hBs⟩ := ht
 obtain ⟨own, out⟩ := p
 dsimp only at ho hs hl ⊢
 have hne : bo ≠ bs := fun e => by subst e; rw [go] at gs; cases gs
 refine spec_of (args := [_, _, _]) (fn := Tryz.f220) Tryz.func220 rfl (n := 23) Tryz.ntmps220 ?_
 have S : Step M w0 M w0 (mine M B) := (Step.refl _ _).widen (fun _ h => h.elim) (fun _ h => h.2)
 refine T.seq ?_
 refine T.seq ?_
 refine T.region ?_
 refine Rg.move rfl rfl ?_
 refine Rg.call rfl rfl E221 (letter_spec _ _) (fun r wc hc => ?_)
 obtain ⟨rfl, rfl⟩ := hc
 refine Rg.eqv (v' := .bool (decide (letB c = true))) (by cases letB c <;> rfl) ?_
 refine Rg.move rfl rfl ?_
 refine Rg.gsplitp (g := 6) rfl (fun g0_2 => ?_) (fun g0_2 => ?_)
 ·refine Rg.gno rfl rfl rfl rfl ?_
  refine Rg.gno rfl rfl rfl rfl ?_
  refine Rg.pickt rfl rfl rfl ?_
  refine Rg.nil ?_
  refine T.ift rfl ?_
  refine T.seq ?_
  apply T.drawF 2 [0] 2 none' mixed rfl rfl rfl rfl
  intro wD1 sA1
  have sD1 := sA1 M
  have := lt_of_get go
  replace m_go := (sD1.mem _ this).2 m_go
  replace go := sD1.same0 go
  have := lt_of_get gs
  replace m_gs := (sD1.mem _ this).2 m_gs
  replace gs := sD1.same0 gs
  replace ho := ho.step0 sD1
  replace hs := hs.step0 sD1
  replace hM := sD1.lt hM
  have := S.size
  replace S := S.trans0 sD1
  refine Rg.loadc Tryz.underlying32 rfl rfl rfl (by first | assumption | exact Step.same0 sD1 (by assumption)) rfl ?_
  refine Rg.nil ⟨rfl, rfl, rfl, ?_⟩
  refine Rg.move rfl rfl ?_
  refine Rg.nil ⟨rfl, rfl, rfl, ?_⟩
  refine QRg.nil ?_
  refine ⟨Floats.all ⟨FloatOk.load rfl (by assumption) (by first | assumption | exact fun h => h | (intro h; have h : _ = _ := h; omega)), trivial⟩, ?_⟩
  have kp := Keep.refl none' wD1
  have hlet : letB c = true ∨ digB c = true := by first | exact .inl (by assumption) | exact .inr (by assumption)
  refine Rg.call rfl rfl E223 (fold_spec c _ (letB_rng hlet)) (fun r wc hc => ?_)
  obtain ⟨rfl, rfl⟩ := hc
  refine (fun (kp : Keep _ _ _) => Rg.nil ⟨rfl, rfl, fun _ => kp, ?_⟩) (by first | exact kp | exact kp.go0 (by assumption) | exact kp.goN (by assumption) | exact kp.go (by assumption) (fun _ _ h => by first | exact h | exact h.elim))
  refine Rg.sl1 (A := RT.int .i64) (hn := by decide) (M := M) Tryz.underlying32 I3 (by decide) rfl rfl hM (V_i64 (by have := letB_rng hlet; unfold foldZ; split <;> omega)) (.inr ⟨rfl, rfl⟩) (fun u1_3 w1_3 hu1_3 s1_3 => ?_)
  have := lt_of_get go
  replace m_go := (s1_3.mem _ this).2 m_go
  replace go := s1_3.same0 go
  have := lt_of_get gs
  replace m_gs := (s1_3.mem _ this).2 m_gs
  replace gs := s1_3.same0 gs
  replace ho := ho.step0 s1_3
  replace hs := hs.step0 s1_3
  replace hM := s1_3.lt hM
  have := S.size
  replace S := S.trans0 s1_3
  refine (fun (kp : Keep _ _ _) => Rg.nil ⟨rfl, rfl, fun _ => kp, ?_⟩) (by first | exact kp | exact kp.go0 (by assumption) | exact kp.goN (by assumption) | exact kp.go (by assumption) (fun _ _ h => by first | exact h | exact h.elim))
  refine Rg.append (M := M) (base := B) Tryz.underlying32 I3 rfl rfl rfl rfl ho hu1_3 (Le.refl _ _) (by simp; omega) (by simp; omega) (by have := lt_of_get go; omega) (fun u1_4 M1_4 w1_4 ho1_4 s1_4 => ?_)
  have := lt_of_get go
  replace m_go := (s1_4.mem _ this).2 m_go
  replace go := s1_4.keep go (fun h => by first | exact ho.notIter go h | exact ho.neT go (by decide) h | (have := (ho.base _ h).1; omega))
  have := lt_of_get gs
  replace m_gs := (s1_4.mem _ this).2 m_gs
  replace gs := s1_4.keep gs (fun h => by first | exact ho.notIter gs h | exact ho.neT gs (by decide) h | (have := (ho.base _ h).1; omega))
  replace hu1_3 := hu1_3.le s1_4.le
  replace hs := hs.step s1_4 (fun b h1 h2 => hs.apartT ho (by decide) h1 h2)
  replace hM := s1_4.lt hM
  have := S.size
  replace S := S.trans s1_4 (fun b hb h => ⟨(ho.base b h).1, (S.mem b hb).1 (ho.mut_ b h)⟩)
  replace ho := ho1_4
  refine Rg.nil ⟨rfl, rfl, fun h => absurd rfl h, ?_⟩
  refine Rg.storec (M := M1_4) I32 rfl rfl go rfl ((by obtain ⟨_, _, he, _⟩ := ho.isSlice; rw [he]; rfl)) m_go (fun w1_5 g1_5 s1_5 => ?_)
  change w1_5.heap[_]? = some (Obj.cells #[u1_4] _ _) at g1_5
  have := lt_of_get go
  replace m_go := (s1_5.mem _ this).2 m_go
  have := lt_of_get gs
  replace m_gs := (s1_5.mem _ this).2 m_gs
  replace gs := s1_5.keep gs (fun hk => by have hk : _ = _ := hk; omega)
  replace hu1_3 := hu1_3.le s1_5.le
  replace ho := ho.step s1_5 (fun b hb hk => by have hk : b = _ := hk; subst hk; first | exact absurd hb (ho.neT go (by decide)) | exact absurd hb (ho.neT gs (by decide)))
  replace hs := hs.step s1_5 (fun b hb hk => by have hk : b = _ := hk; subst hk; first | exact absurd hb (hs.neT go (by decide)) | exact absurd hb (hs.neT gs (by decide)))
  replace hM := s1_5.lt hM
  have := S.size
  replace S := S.trans s1_5 (fun k hk h => by have h : _ = _ := h; subst h; first | (exfalso; omega) | (show _ ≤ _; omega) | exact ⟨by omega, (S.mem _ hk).1 ((s1_5.mem _ (lt_of_get go)).1 m_go)⟩ | exact .inl rfl | exact .inr rfl | exact .inr (.inl rfl) | exact .inr (.inr rfl) | exact rfl)
  have go_ := g1_5
  clear go
  have go := go_
  clear go_
  refine Rg.nil ⟨rfl, rfl, fun h => absurd rfl h, ?_⟩
  refine TRg.nil ?_
  refine T.ret ?_
  rw [show takeF (own, out) c = (own ++ [foldZ c], out) from if_pos hlet]
  exact Kret0 rfl ⟨M1_4, hM, ⟨⟨_, go, ho⟩, ⟨_, gs, hs⟩, m_go, m_gs, hBo, hBs⟩, S⟩
 ·refine Rg.gyes rfl rfl ?_
  refine Rg.move rfl rfl ?_
  refine Rg.gyes rfl rfl ?_
  refine Rg.call rfl rfl E222 (digit_spec _ _) (fun r wc hc => ?_)
  obtain ⟨rfl, rfl⟩ := hc
  refine Rg.eqv (v' := .bool (decide (digB c = true))) (by cases digB c <;> rfl) ?_
  refine Rg.pickf rfl rfl rfl ?_
  refine Rg.nil ?_
  refine T.ifp rfl (fun c0 => ?_) (fun c0 => ?_)
  ·refine T.seq ?_
   apply T.drawF 2 [0] 2 none' mixed rfl rfl rfl rfl
   intro wD1 sA1
   have sD1 := sA1 M
   have := lt_of_get go
   replace m_go := (sD1.mem _ this).2 m_go
   replace go := sD1.same0 go
   have := lt_of_get gs
   replace m_gs := (sD1.mem _ this).2 m_gs
   replace gs := sD1.same0 gs
   replace ho := ho.step0 sD1
   replace hs := hs.step0 sD1
   replace hM := sD1.lt hM
   have := S.size
   replace S := S.trans0 sD1
   refine Rg.loadc Tryz.underlying32 rfl rfl rfl (by first | assumption | exact Step.same0 sD1 (by assumption)) rfl ?_
   refine Rg.nil ⟨rfl, rfl, rfl, ?_⟩
   refine Rg.move rfl rfl ?_
   refine Rg.nil ⟨rfl, rfl, rfl, ?_⟩
   refine QRg.nil ?_
   refine ⟨Floats.all ⟨FloatOk.load rfl (by assumption) (by first | assumption | exact fun h => h | (intro h; have h : _ = _ := h; omega)), trivial⟩, ?_⟩
   have kp := Keep.refl none' wD1
   have hlet : letB c = true ∨ digB c = true := by first | exact .inl (by assumption) | exact .inr (by assumption)
   refine Rg.call rfl rfl E223 (fold_spec c _ (letB_rng hlet)) (fun r wc hc => ?_)
   obtain ⟨rfl, rfl⟩ := hc
   refine (fun (kp : Keep _ _ _) => Rg.nil ⟨rfl, rfl, fun _ => kp, ?_⟩) (by first | exact kp | exact kp.go0 (by assumption) | exact kp.goN (by assumption) | exact kp.go (by assumption) (fun _ _ h => by first | exact h | exact h.elim))
   refine Rg.sl1 (A := RT.int .i64) (hn := by decide) (M := M) Tryz.underlying32 I3 (by decide) rfl rfl hM (V_i64 (by have := letB_rng hlet; unfold foldZ; split <;> omega)) (.inr ⟨rfl, rfl⟩) (fun u1_3 w1_3 hu1_3 s1_3 => ?_)
   have := lt_of_get go
   replace m_go := (s1_3.mem _ this).2 m_go
   replace go := s1_3.same0 go
   have := lt_of_get gs
   replace m_gs := (s1_3.mem _ this).2 m_gs
   replace gs := s1_3.same0 gs
   replace ho := ho.step0 s1_3
   replace hs := hs.step0 s1_3
   replace hM := s1_3.lt hM
   have := S.size
   replace S := S.trans0 s1_3
   refine (fun (kp : Keep _ _ _) => Rg.nil ⟨rfl, rfl, fun _ => kp, ?_⟩) (by first | exact kp | exact kp.go0 (by assumption) | exact kp.goN (by assumption) | exact kp.go (by assumption) (fun _ _ h => by first | exact h | exact h.elim))
   refine Rg.append (M := M) (base := B) Tryz.underlying32 I3 rfl rfl rfl rfl ho hu1_3 (Le.refl _ _) (by simp; omega) (by simp; omega) (by have := lt_of_get go; omega) (fun u1_4 M1_4 w1_4 ho1_4 s1_4 => ?_)
   have := lt_of_get go
   replace m_go := (s1_4.mem _ this).2 m_go
   replace go := s1_4.keep go (fun h => by first | exact ho.notIter go h | exact ho.neT go (by decide) h | (have := (ho.base _ h).1; omega))
   have := lt_of_get gs
   replace m_gs := (s1_4.mem _ this).2 m_gs
   replace gs := s1_4.keep gs (fun h => by first | exact ho.notIter gs h | exact ho.neT gs (by decide) h | (have := (ho.base _ h).1; omega))
   replace hu1_3 := hu1_3.le s1_4.le
   replace hs := hs.step s1_4 (fun b h1 h2 => hs.apartT ho (by decide) h1 h2)
   replace hM := s1_4.lt hM
   have := S.size
   replace S := S.trans s1_4 (fun b hb h => ⟨(ho.base b h).1, (S.mem b hb).1 (ho.mut_ b h)⟩)
   replace ho := ho1_4
   refine Rg.nil ⟨rfl, rfl, fun h => absurd rfl h, ?_⟩
   refine Rg.storec (M := M1_4) I32 rfl rfl go rfl ((by obtain ⟨_, _, he, _⟩ := ho.isSlice; rw [he]; rfl)) m_go (fun w1_5 g1_5 s1_5 => ?_)
   change w1_5.heap[_]? = some (Obj.cells #[u1_4] _ _) at g1_5
   have := lt_of_get go
   replace m_go := (s1_5.mem _ this).2 m_go
   have := lt_of_get gs
   replace m_gs := (s1_5.mem _ this).2 m_gs
   replace gs := s1_5.keep gs (fun hk => by have hk : _ = _ := hk; omega)
   replace hu1_3 := hu1_3.le s1_5.le
   replace ho := ho.step s1_5 (fun b hb hk => by have hk : b = _ := hk; subst hk; first | exact absurd hb (ho.neT go (by decide)) | exact absurd hb (ho.neT gs (by decide)))
   replace hs := hs.step s1_5 (fun b hb hk => by have hk : b = _ := hk; subst hk; first | exact absurd hb (hs.neT go (by decide)) | exact absurd hb (hs.neT gs (by decide)))
   replace hM := s1_5.lt hM
   have := S.size
   replace S := S.trans s1_5 (fun k hk h => by have h : _ = _ := h; subst h; first | (exfalso; omega) | (show _ ≤ _; omega) | exact ⟨by omega, (S.mem _ hk).1 ((s1_5.mem _ (lt_of_get go)).1 m_go)⟩ | exact .inl rfl | exact .inr rfl | exact .inr (.inl rfl) | exact .inr (.inr rfl) | exact rfl)
   have go_ := g1_5
   clear go
   have go := go_
   clear go_
   refine Rg.nil ⟨rfl, rfl, fun h => absurd rfl h, ?_⟩
   refine TRg.nil ?_
   refine T.ret ?_
   rw [show takeF (own, out) c = (own ++ [foldZ c], out) from if_pos hlet]
   exact Kret0 rfl ⟨M1_4, hM, ⟨⟨_, go, ho⟩, ⟨_, gs, hs⟩, m_go, m_gs, hBo, hBs⟩, S⟩
  ·refine T.skip ?_
   refine T.seq ?_
   refine T.seq ?_
   refine T.region ?_
   refine Rg.loadc Tryz.underlying32 rfl rfl rfl (by assumption) rfl ?_
   refine Rg.lenown Tryz.underlying32 rfl ho rfl ?_
   refine Rg.igt rfl rfl rfl ?_
   refine Rg.nil ?_
   refine T.ifp rfl (fun c2 => ?_) (fun c2 => ?_)
   ·apply T.drawF 2 [0] 2 none' mixed rfl rfl rfl rfl
    intro wD3 sA3
    have sD3 := sA3 M
    have := lt_of_get go
    replace m_go := (sD3.mem _ this).2 m_go
    replace go := sD3.same0 go
    have := lt_of_get gs
    replace m_gs := (sD3.mem _ this).2 m_gs
    replace gs := sD3.same0 gs
    replace ho := ho.step0 sD3
    replace hs := hs.step0 sD3
    replace hM := sD3.lt hM
    have := S.size
    replace S := S.trans0 sD3
    refine Rg.loadc Tryz.underlying55 rfl rfl rfl (by first | assumption | exact Step.same0 sD3 (by assumption)) rfl ?_
    refine Rg.nil ⟨rfl, rfl, rfl, ?_⟩
    refine Rg.loadc Tryz.underlying32 rfl rfl rfl (by first | assumption | exact Step.same0 sD3 (by assumption)) rfl ?_
    refine Rg.nil ⟨rfl, rfl, rfl, ?_⟩
    refine QRg.nil ?_
    refine ⟨Floats.all ⟨FloatOk.load rfl (by assumption) (by first | assumption | exact fun h => h | (intro h; have h : _ = _ := h; omega)), trivial⟩, ?_⟩
    have kp := Keep.refl none' wD3
    refine Rg.call rfl rfl E224 (text_spec (M := rm M uo) _ (fun b hb => hM b hb.1) (ho.view (by omega)) (by omega)) (fun r3 w3 hc => ?_)
    obtain ⟨rfl, s3⟩ := hc
    replace s3 := s3.any M --@step s3
    have := lt_of_get go
    replace m_go := (s3.mem _ this).2 m_go
    replace go := s3.same0 go
    have := lt_of_get gs
    replace m_gs := (s3.mem _ this).2 m_gs
    replace gs := s3.same0 gs
    replace ho := ho.step0 s3
    replace hs := hs.step0 s3
    replace hM := s3.lt hM
    have := S.size
    replace S := S.trans0 s3
    refine (fun (kp : Keep _ _ _) => Rg.nil ⟨rfl, rfl, fun _ => kp, ?_⟩) (by first | exact kp | exact kp.go0 (by assumption) | exact kp.goN (by assumption) | exact kp.go (by assumption) (fun _ _ h => by first | exact h | exact h.elim))
    refine Rg.sl1 (A := RT.str) (hn := by decide) (M := M) Tryz.underlying55 I9 (by decide) rfl rfl hM (V_str.2 ⟨rfl, by have := textB_len own; omega⟩) (.inr ⟨rfl, rfl⟩) (fun u3_3 w3_3 hu3_3 s3_3 => ?_)
    have := lt_of_get go
    replace m_go := (s3_3.mem _ this).2 m_go
    replace go := s3_3.same0 go
    have := lt_of_get gs
    replace m_gs := (s3_3.mem _ this).2 m_gs
    replace gs := s3_3.same0 gs
    replace ho := ho.step0 s3_3
    replace hs := hs.step0 s3_3
    replace hM := s3_3.lt hM
    have := S.size
    replace S := S.trans0 s3_3
    refine (fun (kp : Keep _ _ _) => Rg.nil ⟨rfl, rfl, fun _ => kp, ?_⟩) (by first | exact kp | exact kp.go0 (by assumption) | exact kp.goN (by assumption) | exact kp.go (by assumption) (fun _ _ h => by first | exact h | exact h.elim))
    refine Rg.append (M := M) (base := B) Tryz.underlying55 I9 rfl rfl rfl rfl hs hu3_3 (Le.refl _ _) (by simp; omega) (by simp; omega) (by have := lt_of_get go; omega) (fun u3_4 M3_4 w3_4 ho3_4 s3_4 => ?_)
    have := lt_of_get go
    replace m_go := (s3_4.mem _ this).2 m_go
    replace go := s3_4.keep go (fun h => by first | exact hs.notIter go h | exact hs.neT go (by decide) h | (have := (hs.base _ h).1; omega))
    have := lt_of_get gs
    replace m_gs := (s3_4.mem _ this).2 m_gs
    replace gs := s3_4.keep gs (fun h => by first | exact hs.notIter gs h | exact hs.neT gs (by decide) h | (have := (hs.base _ h).1; omega))
    replace hu3_3 := hu3_3.le s3_4.le
    replace ho := ho.step s3_4 (fun b h1 h2 => ho.apartT hs (by decide) h1 h2)
    replace hM := s3_4.lt hM
    have := S.size
    replace S := S.trans s3_4 (fun b hb h => ⟨(hs.base b h).1, (S.mem b hb).1 (hs.mut_ b h)⟩)
    replace hs := ho3_4
    refine Rg.nil ⟨rfl, rfl, fun h => absurd rfl h, ?_⟩
    refine Rg.storec (M := M3_4) I55 rfl rfl gs rfl ((by obtain ⟨_, _, he, _⟩ := hs.isSlice; rw [he]; rfl)) m_gs (fun w3_5 g3_5 s3_5 => ?_)
    change w3_5.heap[_]? = some (Obj.cells #[u3_4] _ _) at g3_5
    have := lt_of_get go
    replace m_go := (s3_5.mem _ this).2 m_go
    replace go := s3_5.keep go (fun hk => by have hk : _ = _ := hk; omega)
    have := lt_of_get gs
    replace m_gs := (s3_5.mem _ this).2 m_gs
    replace hu3_3 := hu3_3.le s3_5.le
    replace ho := ho.step s3_5 (fun b hb hk => by have hk : b = _ := hk; subst hk; first | exact absurd hb (ho.neT go (by decide)) | exact absurd hb (ho.neT gs (by decide)))
    replace hs := hs.step s3_5 (fun b hb hk => by have hk : b = _ := hk; subst hk; first | exact absurd hb (hs.neT go (by decide)) | exact absurd hb (hs.neT gs (by decide)))
    replace hM := s3_5.lt hM
    have := S.size
    replace S := S.trans s3_5 (fun k hk h => by have h : _ = _ := h; subst h; first | (exfalso; omega) | (show _ ≤ _; omega) | exact ⟨by omega, (S.mem _ hk).1 ((s3_5.mem _ (lt_of_get gs)).1 m_gs)⟩ | exact .inl rfl | exact .inr rfl | exact .inr (.inl rfl) | exact .inr (.inr rfl) | exact rfl)
    have gs_ := g3_5
    clear gs
    have gs := gs_
    clear gs_
    refine Rg.nil ⟨rfl, rfl, fun h => absurd rfl h, ?_⟩
    refine TRg.nil ?_
    refine T.region ?_
    refine Rg.storec (M := M3_4) I32 rfl rfl go rfl (rfl) m_go (fun w4_0 g4_0 s4_0 => ?_)
    change w4_0.heap[_]? = some (Obj.cells #[.slice none 0 0] _ _) at g4_0
    have := lt_of_get go
    replace m_go := (s4_0.mem _ this).2 m_go
    have := lt_of_get gs
    replace m_gs := (s4_0.mem _ this).2 m_gs
    replace gs := s4_0.keep gs (fun hk => by have hk : _ = _ := hk; omega)
    replace hu3_3 := hu3_3.le s4_0.le
    replace ho := ho.step s4_0 (fun b hb hk => by have hk : b = _ := hk; subst hk; first | exact absurd hb (ho.neT go (by decide)) | exact absurd hb (ho.neT gs (by decide)))
    replace hs := hs.step s4_0 (fun b hb hk => by have hk : b = _ := hk; subst hk; first | exact absurd hb (hs.neT go (by decide)) | exact absurd hb (hs.neT gs (by decide)))
    replace hM := s4_0.lt hM
    have := S.size
    replace S := S.trans s4_0 (fun k hk h => by have h : _ = _ := h; subst h; first | (exfalso; omega) | (show _ ≤ _; omega) | exact ⟨by omega, (S.mem _ hk).1 ((s4_0.mem _ (lt_of_get go)).1 m_go)⟩ | exact .inl rfl | exact .inr rfl | exact .inr (.inl rfl) | exact .inr (.inr rfl) | exact rfl)
    have go_ := g4_0
    clear go
    have go := go_
    clear go_
    refine Rg.nil ?_
    first | refine EndP.nil ?_ | simp +decide only [Kseq, Kblock, if_true, if_false] | skip
    have hnl : ¬ (letB c = true ∨ digB c = true) := by rintro (h | h) <;> exact absurd h (by assumption)
    first
    |rw [show takeF (own, out) c = ([], out ++ [textB own]) from (if_neg hnl).trans (if_pos (by show 0 < own.length; omega))]
     exact Kret0n rfl ⟨_, hM, ⟨⟨_, go, Own.nil _ _ _ _ _⟩, ⟨_, gs, hs⟩, m_go, m_gs, hBo, hBs⟩, S⟩
    |rw [show takeF (own, out) c = ([], out) from (if_neg hnl).trans (if_neg (by show ¬ 0 < own.length; omega))]
     exact Kret0n rfl ⟨_, hM, ⟨⟨_, go, Own.nil _ _ _ _ _⟩, ⟨_, gs, hs⟩, m_go, m_gs, hBo, hBs⟩, S⟩
   ·refine T.skip ?_
    refine T.region ?_
    refine Rg.storec (M := M) I32 rfl rfl go rfl (rfl) m_go (fun w4_0 g4_0 s4_0 => ?_)
    change w4_0.heap[_]? = some (Obj.cells #[.slice none 0 0] _ _) at g4_0
    have := lt_of_get go
    replace m_go := (s4_0.mem _ this).2 m_go
    have := lt_of_get gs
    replace m_gs := (s4_0.mem _ this).2 m_gs
    replace gs := s4_0.keep gs (fun hk => by have hk : _ = _ := hk; omega)
    replace ho := ho.step s4_0 (fun b hb hk => by have hk : b = _ := hk; subst hk; first | exact absurd hb (ho.neT go (by decide)) | exact absurd hb (ho.neT gs (by decide)))
    replace hs := hs.step s4_0 (fun b hb hk => by have hk : b = _ := hk; subst hk; first | exact absurd hb (hs.neT go (by decide)) | exact absurd hb (hs.neT gs (by decide)))
    replace hM := s4_0.lt hM
    have := S.size
    replace S := S.trans s4_0 (fun k hk h => by have h : _ = _ := h; subst h; first | (exfalso; omega) | (show _ ≤ _; omega) | exact ⟨by omega, (S.mem _ hk).1 ((s4_0.mem _ (lt_of_get go)).1 m_go)⟩ | exact .inl rfl | exact .inr rfl | exact .inr (.inl rfl) | exact .inr (.inr rfl) | exact rfl)
    have go_ := g4_0
    clear go
    have go := go_
    clear go_
    refine Rg.nil ?_
    first | refine EndP.nil ?_ | simp +decide only [Kseq, Kblock, if_true, if_false] | skip
    have hnl : ¬ (letB c = true ∨ digB c = true) := by rintro (h | h) <;> exact absurd h (by assumption)
    first
    |rw [show takeF (own, out) c = ([], out ++ [textB own]) from (if_neg hnl).trans (if_pos (by show 0 < own.length; omega))]
     exact Kret0n rfl ⟨_, hM, ⟨⟨_, go, Own.nil _ _ _ _ _⟩, ⟨_, gs, hs⟩, m_go, m_gs, hBo, hBs⟩, S⟩
    |rw [show takeF (own, out) c = ([], out) from (if_neg hnl).trans (if_neg (by show ¬ 0 < own.length; omega))]
     exact Kret0n rfl ⟨_, hM, ⟨⟨_, go, Own.nil _ _ _ _ _⟩, ⟨_, gs, hs⟩, m_go, m_gs, hBo, hBs⟩, S⟩
theorem take_len (l : List Int) : ∀ p, (l.foldl takeF p).1.length ≤ p.1.length + l.length ∧ (l.foldl takeF p).2.length ≤ p.2.length + l.length := by
 induction l with
 |nil => intro p; simp
 |cons c l ih =>
  intro p
  have := ih (takeF p c)
  have h1 : (takeF p c).1.length ≤ p.1.length + 1 ∧ (takeF p c).2.length ≤ p.2.length + 1 := by
   unfold takeF
   split
   ·simp
   ·split <;> simp
  simp only [List.foldl_cons, List.length_cons]; omega
def words (l : List UInt8) : List (List UInt8) := ((signs l ++ [32]).foldl takeF ([], [])).2
theorem words_len (l : List UInt8) : (words l).length ≤ l.length + 1 := by
 have h := (take_len (signs l ++ [32]) ([], [])).2
 have h2 := signs_len l
 rw [List.length_append] at h
 have h3 : ([] : List (List UInt8)).length = 0 := rfl
 have h4 : [(32 : Int)].length = 1 := rfl
 unfold words
 simp only [h3, h4] at h
 omega
theorem words_spec {M : PSet} {l : List UInt8} (w0 : World) (hM : Lt M w0) (hl : l.length ≤ 900000) :
  Spec Tryz.prog 192 #[.string ⟨l.toArray⟩] w0 (fun v w => (RT.str.sl).V M w (words l) v ∧ Step M w0 M w none') := by
 have hM0 := hM
 refine spec_of (args := [_]) (fn := Tryz.f192) Tryz.func192 rfl (n := 23) Tryz.ntmps192 ?_
 have S : Step M w0 M w0 none' := (Step.refl _ _).widen (fun _ h => h.elim) (fun _ h => h.elim)
 refine T.seq ?_
 refine T.region ?_
 refine Rg.assign rfl rfl ?_
 refine Rg.nil ?_
 refine T.seq ?_
 refine T.region ?_
 refine Rg.alloc M I55 rfl (fun b1_0 w1_0 p1_0 q1_0 g1_0 s1_0 => ?_)
 obtain ⟨M_1_0, eM_1_0⟩ : ∃ M', M' = ins M b1_0 := ⟨_, rfl⟩
 rw [← eM_1_0] at s1_0
 have m_g1_0 : M_1_0 b1_0 := by rw [eM_1_0]; exact .inl rfl
 change w1_0.heap[b1_0]? = some (.cells #[.slice none 0 0] _ _) at g1_0
 replace hM := s1_0.lt hM
 have := S.size
 replace S := S.trans0 s1_0
 refine Rg.nil ?_
 refine T.seq ?_
 refine T.region ?_
 refine Rg.alloc M_1_0 I32 rfl (fun b2_0 w2_0 p2_0 q2_0 g2_0 s2_0 => ?_)
 obtain ⟨M_2_0, eM_2_0⟩ : ∃ M', M' = ins M_1_0 b2_0 := ⟨_, rfl⟩
 rw [← eM_2_0] at s2_0
 have m_g2_0 : M_2_0 b2_0 := by rw [eM_2_0]; exact .inl rfl
 change w2_0.heap[b2_0]? = some (.cells #[.slice none 0 0] _ _) at g2_0
 have := lt_of_get g1_0
 replace m_g1_0 := (s2_0.mem _ this).2 m_g1_0
 replace g1_0 := s2_0.same0 g1_0
 replace hM := s2_0.lt hM
 have := S.size
 replace S := S.trans0 s2_0
 refine Rg.nil ?_
 refine T.seq ?_
 refine T.region ?_
 refine Rg.makeFunc (xs := []) (ys := [.tmp 4, .tmp 3]) rfl rfl rfl ?_
 refine Rg.assign rfl rfl ?_
 refine Rg.nil ?_
 refine T.seq ?_
 refine T.seq ?_
 refine T.region ?_
 refine Rg.move rfl rfl ?_
 refine Rg.call rfl rfl E225 (signs_spec _ hM (by omega)) (fun v4 w4 hc => ?_)
 obtain ⟨hsg, s4⟩ := hc --@step s4
 --@vf hsg
 have := lt_of_get g1_0
 replace m_g1_0 := (s4.mem _ this).2 m_g1_0
 replace g1_0 := s4.same0 g1_0
 have := lt_of_get g2_0
 replace m_g2_0 := (s4.mem _ this).2 m_g2_0
 replace g2_0 := s4.same0 g2_0
 replace hM := s4.lt hM
 have := S.size
 replace S := S.trans0 s4
 refine Rg.lensl Tryz.underlying32 rfl hsg rfl ?_
 refine Rg.move rfl rfl ?_
 refine Rg.nil ?_
 refine T.block ?_
 refine T.loop (σ := Nat) (fun k => [(3, .pointer (some ⟨b1_0, 0, none⟩)), (5, .func (.func 220) #[] #[.pointer (some ⟨b2_0, 0, none⟩), .pointer (some ⟨b1_0, 0, none⟩)]), (10, v4), (11, .int .i64 ((signs l).length : Int)), (12, .int .i64 (k : Int))]) (fun k w => ∃ M', Lt M' w ∧ Step M w0 M' w none' ∧ TakeS M' w w0.heap.size b2_0 b1_0 (((signs l).take k).foldl takeF ([], [])) ∧ ((RT.int .i64).sl).V M' w (signs l) v4 ∧ k ≤ (signs l).length) (fun k => (signs l).length - k) 0 (.cons rfl (.cons rfl (.cons rfl (.cons rfl (.cons rfl .nil))))) ?_ ?_
 ·exact ⟨_, hM, S, ⟨⟨_, g2_0, Own.nil _ _ _ _ _⟩, ⟨_, g1_0, Own.nil _ _ _ _ _⟩, m_g2_0, m_g1_0, by omega, by omega⟩, hsg, Nat.zero_le _⟩
 ·rintro k w ⟨M1, hM, S, ht, hsg, hk⟩
  refine T.seq ?_
  refine T.region ?_
  refine Rg.ilt rfl rfl rfl ?_
  refine Rg.nil ?_
  refine T.seq ?_
  refine T.ifp rfl (fun c5 => ?_) (fun c5 => ?_)
  ·refine T.skip ?_
   refine T.seq ?_
   refine T.block ?_
   refine T.seq ?_
   refine T.region ?_
   refine Rg.idx (M := M1) Tryz.underlying32 I3 rfl rfl rfl hsg (Le.refl _ _) (by omega) (fun u6 c hg6 hu6 => ?_) --@ptr RT.int .i64 ;; c
   refine Rg.loadi64 (M := M1) Tryz.underlying3 rfl rfl hu6 (Le.refl _ _) (fun in6 => ?_)
   refine Rg.assign rfl rfl ?_
   refine Rg.nil ?_
   refine T.region ?_
   refine Rg.move rfl rfl ?_
   refine Rg.move rfl rfl ?_
   have hsl := signs_len l
   have hl2 := take_len ((signs l).take k) ([], [])
   rw [List.length_take] at hl2
   refine Rg.callv (first := []) (captured := [.pointer (some ⟨b2_0, 0, none⟩), .pointer (some ⟨b1_0, 0, none⟩)]) rfl rfl rfl E220 (wtake_spec (B := w0.heap.size) _ hM c ht (by simp at hl2; omega)) (fun r7 w7 hc => ?_)
   obtain ⟨M2, hM2, ht2, s7⟩ := hc
   have tk : (signs l).take (k + 1) = (signs l).take k ++ [c] := by rw [List.take_add_one]; simp only [Int.toNat_natCast] at hg6; rw [hg6]; rfl
   refine Rg.nil ?_
   refine T.region ?_
   refine Rg.iadd rfl rfl rfl (by omega) ?_
   refine Rg.move rfl rfl ?_
   refine Rg.nil ?_
   refine ⟨rfl, k + 1, (.cons rfl (.cons rfl (.cons rfl (.cons rfl (.cons rfl .nil))))), ?_, ?_⟩
   ·exact ⟨M2, hM2, S.transOwn s7 (Nat.le_refl _), by rw [tk, List.foldl_append]; exact ht2, hsg.le s7.le, by omega⟩
   ·omega
  ·refine T.exit ?_
   refine T.seq ?_
   refine T.region ?_
   refine Rg.move rfl rfl ?_
   have hsl := signs_len l
   have hl2 := take_len ((signs l).take k) ([], [])
   rw [List.length_take] at hl2
   refine Rg.callv (first := []) (captured := [.pointer (some ⟨b2_0, 0, none⟩), .pointer (some ⟨b1_0, 0, none⟩)]) rfl rfl rfl E220 (wtake_spec (B := w0.heap.size) _ hM 32 ht (by simp at hl2; omega)) (fun r9 w9 hc => ?_)
   obtain ⟨M2, hM2, ht2, s9⟩ := hc
   have e9 : takeF (((signs l).take k).foldl takeF ([], [])) 32 = (signs l ++ [32]).foldl takeF ([], []) := by rw [List.foldl_append, List.take_of_length_le (by omega)]; rfl
   rw [e9] at ht2
   obtain ⟨_, ⟨us, gs, hs⟩, _⟩ := ht2
   replace S := S.transOwn s9 (Nat.le_refl _)
   refine Rg.nil ?_
   refine T.seq ?_
   refine T.region ?_
   refine Rg.loadc Tryz.underlying55 rfl rfl rfl gs rfl ?_
   refine Rg.assign rfl rfl ?_
   refine Rg.nil ?_
   refine T.ret ?_
   exact Kret1 rfl rfl ⟨Own.close hM0 S hs (by have := words_len l; omega), S.back⟩
end Go.K
namespace Go.K
open Go.Proofs
set_option linter.unusedVariables false
set_option linter.unusedSimpArgs false
set_option maxRecDepth 10000
theorem takeF_in {p : List Int × List (List UInt8)} {c : Int} (h : inB c = true) : takeF p c = (p.1 ++ [foldZ c], p.2) := if_pos (by simpa [inB] using h)
theorem takeF_out {p : List Int × List (List UInt8)} {c : Int} (h : inB c = false) : takeF p c = if 0 < p.1.length then ([], p.2 ++ [textB p.1]) else ([], p.2) := if_neg (by simpa [inB] using h)
def WAt (sg : List Int) (i : Nat) (ws : List (List UInt8)) : Prop := (i ≤ sg.length ∧ (sg.take i).foldl takeF ([], []) = ([], ws)) ∨ (i = sg.length + 1 ∧ ((sg ++ [32]).foldl takeF ([], [])).2 = ws)
theorem in_rng {c : Int} (h : inB c = true) : 0 ≤ c ∧ c ≤ 1114111 := letB_rng (by simpa [inB] using h)
theorem in32 : inB 32 = false := by decide
theorem fold_take {sg : List Int} {i : Nat} {c : Int} (h : sg[i]? = some c) (p : List Int × List (List UInt8)) : (sg.take (i + 1)).foldl takeF p = takeF ((sg.take i).foldl takeF p) c := by
 rw [List.take_add_one, h, Option.toList_some, List.foldl_append]; rfl
theorem WAt.skip {sg : List Int} {i : Nat} {ws : List (List UInt8)} {c : Int} (h : WAt sg i ws) (hc : sg[i]? = some c) (hi : inB c = false) : WAt sg (i + 1) ws := by
 have hlt := (List.getElem?_eq_some_iff.1 hc).1
 rcases h with ⟨_, h⟩ | ⟨h, _⟩
 ·exact .inl ⟨hlt, by rw [fold_take hc, h, takeF_out hi]; rfl⟩
 ·omega
theorem WAt.word {sg : List Int} {j : Nat} {own : List Int} {ws : List (List UInt8)} (h : (sg.take j).foldl takeF ([], []) = (own, ws)) (ho : 0 < own.length) (hj : j ≤ sg.length) (hn : ∀ c, sg[j]? = some c → inB c = false) : WAt sg (j + 1) (ws ++ [textB own]) := by
 rcases Nat.eq_or_lt_of_le hj with e | hlt
 ·refine .inr ⟨by omega, ?_⟩
  rw [e, List.take_length] at h
  rw [List.foldl_append, h]
  show (takeF (own, ws) 32).2 = _
  rw [takeF_out in32, if_pos ho]
 ·have hc : sg[j]? = some sg[j] := List.getElem?_eq_getElem hlt
  exact .inl ⟨hlt, by rw [fold_take hc, h, takeF_out (hn _ hc), if_pos ho]⟩
theorem WAt.done {sg : List Int} {i : Nat} {ws : List (List UInt8)} (h : WAt sg i ws) (hi : sg.length ≤ i) : ((sg ++ [32]).foldl takeF ([], [])).2 = ws := by
 rcases h with ⟨h1, h⟩ | ⟨_, h⟩
 ·rw [List.take_of_length_le (by omega)] at h
  rw [List.foldl_append, h]
  show (takeF ([], ws) 32).2 = _
  rw [takeF_out in32]; rfl
 ·exact h
theorem WAt.len {sg : List Int} {i : Nat} {ws : List (List UInt8)} (h : WAt sg i ws) : ws.length ≤ sg.length + 1 := by
 rcases h with ⟨_, h⟩ | ⟨_, h⟩
 ·have := (take_len (sg.take i) ([], [])).2
  rw [h, List.length_take] at this
  simp only [List.length_nil] at this
  have e : (([] : List Int), ([] : List (List UInt8))).2.length = 0 := rfl
  omega
 ·have := (take_len (sg ++ [32]) ([], [])).2
  rw [h, List.length_append] at this
  have e : (([] : List Int), ([] : List (List UInt8))).2.length = 0 := rfl
  have e2 : [(32 : Int)].length = 1 := rfl
  omega
theorem fold_len2 {sg : List Int} {j : Nat} {own : List Int} {ws : List (List UInt8)} (h : (sg.take j).foldl takeF ([], []) = (own, ws)) : own.length ≤ sg.length ∧ ws.length ≤ sg.length := by
 have := take_len (sg.take j) ([], [])
 rw [h, List.length_take] at this
 simp only [List.length_nil] at this
 have e : (([] : List Int), ([] : List (List UInt8))).1.length = 0 := rfl
 have e2 : (([] : List Int), ([] : List (List UInt8))).2.length = 0 := rfl
 omega
theorem rwords_spec {M : PSet} {l : List UInt8} (w0 : World) (hM : Lt M w0) (hl : l.length ≤ 900000) :
  Spec Tryz.prog 191 #[.string ⟨l.toArray⟩] w0 (fun v w => (RT.str.sl).V M w (words l) v ∧ Step M w0 M w none') := by
 have hM0 := hM
 have hsl := signs_len l
 refine spec_of (args := [_]) (fn := Tryz.f191) Tryz.func191 rfl (n := 50) Tryz.ntmps191 ?_
 have S : Step M w0 M w0 none' := (Step.refl _ _).widen (fun _ h => h.elim) (fun _ h => h.elim)
 refine T.seq ?_
 refine T.region ?_
 refine Rg.assign rfl rfl ?_
 refine Rg.nil ?_
 refine T.seq ?_
 refine T.region ?_
 refine Rg.move rfl rfl ?_
 refine Rg.call rfl rfl E216 (rsigns_spec _ hM (by omega)) (fun v1 w1 hc => ?_)
 obtain ⟨hv, s1⟩ := hc --@step s1
 --@vf hv
 replace hM := s1.lt hM
 have := S.size
 replace S := S.trans0 s1
 refine Rg.assign rfl rfl ?_
 refine Rg.nil ?_
 refine T.seq ?_
 refine T.region ?_
 refine Rg.assign rfl rfl ?_
 refine Rg.nil ?_
 refine T.seq ?_
 refine T.seq ?_
 refine T.region ?_
 refine Rg.assign rfl rfl ?_
 refine Rg.nil ?_
 refine T.block ?_
 refine T.loop (σ := Nat × Value) (fun q => [(3, v1), (4, q.2), (5, .int .i64 (q.1 : Int))]) (fun q w => ∃ M' ws, Lt M' w ∧ Step M w0 M' w none' ∧ Own RT.str 9 M' w w0.heap.size q.2 ws ∧ ((RT.int .i64).sl).V M' w (signs l) v1 ∧ WAt (signs l) q.1 ws) (fun q => (signs l).length + 1 - q.1) (0, .slice none 0 0) (.cons rfl (.cons rfl (.cons rfl .nil))) ?_ ?_
 ·exact ⟨M, [], hM, S, Own.nil _ _ _ _ _, hv, .inl ⟨Nat.zero_le _, rfl⟩⟩
 ·rintro ⟨i, u4⟩ w ⟨M1, ws, hM, S, ho4, hv, hwa⟩
  dsimp only at ho4 hwa ⊢
  refine T.seq ?_
  refine T.seq ?_
  refine T.region ?_
  refine Rg.move rfl rfl ?_
  refine Rg.move rfl rfl ?_
  refine Rg.lensl Tryz.underlying32 rfl hv rfl ?_
  refine Rg.ilt rfl rfl rfl ?_
  refine Rg.nil ?_
  refine T.ifp rfl (fun c4 => ?_) (fun c4 => ?_)
  ·refine T.skip ?_
   refine T.seq ?_
   refine T.block ?_
   refine T.seq ?_
   refine T.region ?_
   refine Rg.move rfl rfl ?_
   refine Rg.move rfl rfl ?_
   refine Rg.idx (M := M1) Tryz.underlying32 I3 rfl rfl rfl hv (Le.refl _ _) (by omega) (fun u6_2 c hgc huc => ?_) --@ptr RT.int .i64 ;; c
   refine Rg.loadi64 (M := M1) Tryz.underlying3 rfl rfl huc (Le.refl _ _) (fun inc => ?_)
   rw [Int.toNat_natCast] at hgc
   refine Rg.call rfl rfl E217 (rin_spec c _) (fun r wc hc => ?_)
   obtain ⟨rfl, rfl⟩ := hc
   refine Rg.eqv (v' := .bool (decide (inB c = true))) (by cases inB c <;> rfl) ?_
   refine Rg.assign rfl rfl ?_
   refine Rg.nil ?_
   refine T.seq ?_
   refine T.seq ?_
   refine T.region ?_
   refine Rg.move rfl rfl ?_
   refine Rg.not rfl rfl ?_
   refine Rg.eqv (v' := .bool (decide (inB c = false))) (by cases inB c <;> rfl) ?_
   refine Rg.nil ?_
   refine T.ifp rfl (fun c7 => ?_) (fun c7 => ?_)
   ·refine T.exit ?_
    refine T.region ?_
    refine Rg.move rfl rfl ?_
    refine Rg.iadd rfl rfl rfl (by omega) ?_
    refine Rg.assign rfl rfl ?_
    refine Rg.nil ?_
    refine ⟨rfl, (i + 1, u4), (.cons rfl (.cons rfl (.cons rfl .nil))), ?_, ?_⟩
    ·exact ⟨M1, ws, hM, S, ho4, hv, hwa.skip hgc (by assumption)⟩
    ·dsimp only; omega
   ·refine T.skip ?_
    refine T.seq ?_
    refine T.region ?_
    refine Rg.assign rfl rfl ?_
    refine Rg.nil ?_
    refine T.seq ?_
    refine T.block ?_
    refine T.loop (σ := Nat × List Int × Value) (fun q => [(3, v1), (4, u4), (5, .int .i64 (q.1 : Int)), (7, q.2.2)]) (fun q w => ∃ M', Lt M' w ∧ Step M w0 M' w none' ∧ Own RT.str 9 M' w w0.heap.size u4 ws ∧ Own (RT.int .i64) 3 M' w w0.heap.size q.2.2 q.2.1 ∧ ((RT.int .i64).sl).V M' w (signs l) v1 ∧ ((signs l).take q.1).foldl takeF ([], []) = (q.2.1, ws) ∧ i ≤ q.1 ∧ q.1 ≤ (signs l).length ∧ (i < q.1 → 0 < q.2.1.length)) (fun q => (signs l).length - q.1) (i, [], .slice none 0 0) (.cons rfl (.cons rfl (.cons rfl (.cons rfl .nil)))) ?_ ?_
    ·have hwa2 : ((signs l).take i).foldl takeF ([], []) = ([], ws) := by
      rcases hwa with ⟨_, h⟩ | ⟨h, _⟩
      ·exact h
      ·omega
     exact ⟨M1, hM, S, ho4, Own.nil _ _ _ _ _, hv, hwa2, Nat.le_refl _, by dsimp only; omega, fun h => absurd h (Nat.lt_irrefl _)⟩
    ·rintro ⟨j, own, u7⟩ w ⟨M2, hM, S, ho4, ho7, hv, hf, hj1, hj2, hown⟩
     dsimp only at ho7 hf hj1 hj2 hown ⊢
     refine T.seq ?_
     refine T.seq ?_
     refine T.region ?_
     refine Rg.move rfl rfl ?_
     refine Rg.move rfl rfl ?_
     refine Rg.lensl Tryz.underlying32 rfl hv rfl ?_
     refine Rg.ilt rfl rfl rfl ?_
     refine Rg.move rfl rfl ?_
     refine Rg.gsplitp (g := 27) rfl (fun g9_4 => ?_) (fun g9_4 => ?_)
     ·refine Rg.gyes rfl rfl ?_
      refine Rg.move rfl rfl ?_
      refine Rg.gyes rfl rfl ?_
      refine Rg.move rfl rfl ?_
      refine Rg.gyes rfl rfl ?_
      refine Rg.idx (M := M2) Tryz.underlying32 I3 rfl rfl rfl hv (Le.refl _ _) (by omega) (fun u9_7 d hgd hud => ?_) --@ptr RT.int .i64 ;; d
      refine Rg.gyes rfl rfl ?_
      refine Rg.loadi64 (M := M2) Tryz.underlying3 rfl rfl hud (Le.refl _ _) (fun ind => ?_)
      rw [Int.toNat_natCast] at hgd
      refine Rg.gyes rfl rfl ?_
      refine Rg.call rfl rfl E217 (rin_spec d _) (fun r wc hc => ?_)
      obtain ⟨rfl, rfl⟩ := hc
      refine Rg.eqv (v' := .bool (decide (inB d = true))) (by cases inB d <;> rfl) ?_
      refine Rg.pickt rfl rfl rfl ?_
      refine Rg.nil ?_
      refine T.ifp rfl (fun c9 => ?_) (fun c9 => ?_)
      ·refine T.skip ?_
       refine T.block ?_
       refine T.seq ?_
       refine T.region ?_
       refine Rg.move rfl rfl ?_
       refine Rg.move rfl rfl ?_
       refine Rg.move rfl rfl ?_
       refine Rg.idx (M := M2) Tryz.underlying32 I3 rfl rfl rfl hv (Le.refl _ _) (by omega) (fun u10_3 e hge hue => ?_) --@ptr RT.int .i64 ;; e
       refine Rg.loadi64 (M := M2) Tryz.underlying3 rfl rfl hue (Le.refl _ _) (fun ine => ?_)
       rw [Int.toNat_natCast] at hge
       have hine : inB e = true := by rw [hgd] at hge; cases hge; assumption
       refine Rg.call rfl rfl E218 (rfold_spec e _ (in_rng hine)) (fun r wc hc => ?_)
       obtain ⟨rfl, rfl⟩ := hc
       refine Rg.sl1 (A := RT.int .i64) (hn := by decide) (M := M2) Tryz.underlying32 I3 (by decide) rfl rfl hM (V_i64 (by have := in_rng hine; unfold foldZ; split <;> omega)) (.inr ⟨rfl, rfl⟩) (fun u10_6 w10_6 hu10_6 s10_6 => ?_)
       replace hv := hv.le s10_6.le
       replace ho4 := ho4.step0 s10_6
       replace ho7 := ho7.step0 s10_6
       replace hM := s10_6.lt hM
       have := S.size
       replace S := S.trans0 s10_6
       refine Rg.append (M := M2) (base := w0.heap.size) Tryz.underlying32 I3 rfl rfl rfl rfl ho7 hu10_6 (Le.refl _ _) (by have := fold_len2 hf; simp; omega) (by have := fold_len2 hf; simp; omega) (S.size) (fun u10_7 M10_7 w10_7 ho10_7 s10_7 => ?_)
       replace hv := hv.le s10_7.le
       replace hu10_6 := hu10_6.le s10_7.le
       replace ho4 := ho4.step s10_7 (fun b h1 h2 => ho4.apartT ho7 (by decide) h1 h2)
       replace hM := s10_7.lt hM
       have := S.size
       replace S := S.transBlk s10_7 ho7 (Nat.le_refl _)
       replace ho7 := ho10_7
       refine Rg.assign rfl rfl ?_
       refine Rg.nil ?_
       refine T.region ?_
       refine Rg.move rfl rfl ?_
       refine Rg.iadd rfl rfl rfl (by omega) ?_
       refine Rg.assign rfl rfl ?_
       refine Rg.nil ?_
       refine ⟨rfl, (j + 1, own ++ [foldZ e], u10_7), (.cons rfl (.cons rfl (.cons rfl (.cons rfl .nil)))), ?_, ?_⟩
       ·exact ⟨M10_7, hM, S, ho4, ho7, hv, by rw [fold_take hge, hf, takeF_in hine], by dsimp only; omega, by dsimp only; omega, fun _ => by simp⟩
       ·dsimp only; omega
      ·refine T.exit ?_
       refine T.region ?_
       refine Rg.move rfl rfl ?_
       refine Rg.move rfl rfl ?_
       refine Rg.call rfl rfl E219 (rtext_spec (M := rm M2 u7) _ (fun b hb => hM b hb.1) (ho7.view (by have := fold_len2 hf; omega)) (by have := fold_len2 hf; omega)) (fun r12 w12 hc12 => ?_)
       obtain ⟨rfl, s12⟩ := hc12
       replace s12 := s12.any M2 --@step s12
       replace hv := hv.le s12.le
       replace ho4 := ho4.step0 s12
       replace ho7 := ho7.step0 s12
       replace hM := s12.lt hM
       have := S.size
       replace S := S.trans0 s12
       refine Rg.sl1 (A := RT.str) (hn := by decide) (M := M2) Tryz.underlying55 I9 (by decide) rfl rfl hM (V_str.2 ⟨rfl, by have := textB_len own; have := fold_len2 hf; omega⟩) (.inr ⟨rfl, rfl⟩) (fun u12_3 w12_3 hu12_3 s12_3 => ?_)
       replace hv := hv.le s12_3.le
       replace ho4 := ho4.step0 s12_3
       replace ho7 := ho7.step0 s12_3
       replace hM := s12_3.lt hM
       have := S.size
       replace S := S.trans0 s12_3
       refine Rg.append (M := M2) (base := w0.heap.size) Tryz.underlying55 I9 rfl rfl rfl rfl ho4 hu12_3 (Le.refl _ _) (by have := fold_len2 hf; simp; omega) (by have := fold_len2 hf; simp; omega) (S.size) (fun u12_4 M12_4 w12_4 ho12_4 s12_4 => ?_)
       replace hv := hv.le s12_4.le
       replace hu12_3 := hu12_3.le s12_4.le
       replace ho7 := ho7.step s12_4 (fun b h1 h2 => ho7.apartT ho4 (by decide) h1 h2)
       replace hM := s12_4.lt hM
       have := S.size
       replace S := S.transBlk s12_4 ho4 (Nat.le_refl _)
       replace ho4 := ho12_4
       refine Rg.assign rfl rfl ?_
       refine Rg.nil ?_
       refine T.region ?_
       refine Rg.move rfl rfl ?_
       refine Rg.iadd rfl rfl rfl (by omega) ?_
       refine Rg.assign rfl rfl ?_
       refine Rg.nil ?_
       have hown : 0 < own.length := by
        rcases Nat.eq_or_lt_of_le hj1 with e | h
        ·exfalso
         subst e
         first | omega | (rw [hgc] at hgd; cases hgd; exact c9 (by cases hq : inB c with | true => rfl | false => exact absurd hq (by assumption)))
        ·exact hown h
       have hnx : ∀ c, (signs l)[j]? = some c → inB c = false := fun c hc => by
        first | (rw [List.getElem?_eq_none (by omega)] at hc; cases hc) | (rw [hgd] at hc; cases hc; exact Bool.eq_false_iff.2 c9)
       refine ⟨rfl, (j + 1, u12_4), (.cons rfl (.cons rfl (.cons rfl .nil))), ?_, ?_⟩
       ·exact ⟨M12_4, _, hM, S, ho4, hv, WAt.word hf hown hj2 hnx⟩
       ·dsimp only; omega
     ·refine Rg.gno rfl rfl rfl rfl ?_
      refine Rg.gno rfl rfl rfl rfl ?_
      refine Rg.gno rfl rfl rfl rfl ?_
      refine Rg.gno rfl rfl rfl rfl ?_
      refine Rg.gno rfl rfl rfl rfl ?_
      refine Rg.pickf rfl rfl rfl ?_
      refine Rg.nil ?_
      refine T.iff rfl ?_
      refine T.exit ?_
      refine T.region ?_
      refine Rg.move rfl rfl ?_
      refine Rg.move rfl rfl ?_
      refine Rg.call rfl rfl E219 (rtext_spec (M := rm M2 u7) _ (fun b hb => hM b hb.1) (ho7.view (by have := fold_len2 hf; omega)) (by have := fold_len2 hf; omega)) (fun r12 w12 hc12 => ?_)
      obtain ⟨rfl, s12⟩ := hc12
      replace s12 := s12.any M2 --@step s12
      replace hv := hv.le s12.le
      replace ho4 := ho4.step0 s12
      replace ho7 := ho7.step0 s12
      replace hM := s12.lt hM
      have := S.size
      replace S := S.trans0 s12
      refine Rg.sl1 (A := RT.str) (hn := by decide) (M := M2) Tryz.underlying55 I9 (by decide) rfl rfl hM (V_str.2 ⟨rfl, by have := textB_len own; have := fold_len2 hf; omega⟩) (.inr ⟨rfl, rfl⟩) (fun u12_3 w12_3 hu12_3 s12_3 => ?_)
      replace hv := hv.le s12_3.le
      replace ho4 := ho4.step0 s12_3
      replace ho7 := ho7.step0 s12_3
      replace hM := s12_3.lt hM
      have := S.size
      replace S := S.trans0 s12_3
      refine Rg.append (M := M2) (base := w0.heap.size) Tryz.underlying55 I9 rfl rfl rfl rfl ho4 hu12_3 (Le.refl _ _) (by have := fold_len2 hf; simp; omega) (by have := fold_len2 hf; simp; omega) (S.size) (fun u12_4 M12_4 w12_4 ho12_4 s12_4 => ?_)
      replace hv := hv.le s12_4.le
      replace hu12_3 := hu12_3.le s12_4.le
      replace ho7 := ho7.step s12_4 (fun b h1 h2 => ho7.apartT ho4 (by decide) h1 h2)
      replace hM := s12_4.lt hM
      have := S.size
      replace S := S.transBlk s12_4 ho4 (Nat.le_refl _)
      replace ho4 := ho12_4
      refine Rg.assign rfl rfl ?_
      refine Rg.nil ?_
      refine T.region ?_
      refine Rg.move rfl rfl ?_
      refine Rg.iadd rfl rfl rfl (by omega) ?_
      refine Rg.assign rfl rfl ?_
      refine Rg.nil ?_
      have hown : 0 < own.length := by
       rcases Nat.eq_or_lt_of_le hj1 with e | h
       ·exfalso
        subst e
        first | omega | (rw [hgc] at hgd; cases hgd; exact c9 (by cases hq : inB c with | true => rfl | false => exact absurd hq (by assumption)))
       ·exact hown h
      have hnx : ∀ c, (signs l)[j]? = some c → inB c = false := fun c hc => by
       first | (rw [List.getElem?_eq_none (by omega)] at hc; cases hc) | (rw [hgd] at hc; cases hc; exact Bool.eq_false_iff.2 c9)
      refine ⟨rfl, (j + 1, u12_4), (.cons rfl (.cons rfl (.cons rfl .nil))), ?_, ?_⟩
      ·exact ⟨M12_4, _, hM, S, ho4, hv, WAt.word hf hown hj2 hnx⟩
      ·dsimp only; omega
  ·refine T.exit ?_
   refine T.seq ?_
   refine T.region ?_
   refine Rg.move rfl rfl ?_
   refine Rg.assign rfl rfl ?_
   refine Rg.nil ?_
   refine T.ret ?_
   have e := hwa.done (by omega)
   have e2 : words l = ws := e
   rw [e2]
   exact Kret1 rfl rfl ⟨ho4.close hM0 S (by have := hwa.len; omega), S.back⟩
end Go.K

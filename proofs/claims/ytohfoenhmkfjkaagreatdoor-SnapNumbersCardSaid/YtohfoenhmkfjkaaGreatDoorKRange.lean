/- The statement 'for x := range f', and calls of yield. No program is named here. -/
import Derived.Test.YtohfoenhmkfjkaaGreatDoorKHeap
import Derived.RangeFuncLeaves
namespace Go.K
set_option linter.unusedVariables false
set_option linter.unusedSimpArgs false

/-- a call of yield, from whatever walk -/
def Yield (P : Program) (l : Nat) (args : Array Value) (w : World) (Q : Value → World → Prop) : Prop := YieldAt (FW none) 0 P l args w (fun e w' => ∃ v, e = .returned v ∧ Q v w')

theorem Yield.mono {P : Program} {l : Nat} {args : Array Value} {w : World} {Q Q' : Value → World → Prop} (h : Yield P l args w Q) (hq : ∀ v w', Q v w' → Q' v w') : Yield P l args w Q' := by
  obtain ⟨fn, tmps, asn, body, h1, h2⟩ := h
  exact ⟨fn, tmps, asn, body, h1, h2.mono fun e w' ⟨v, he, hv⟩ => ⟨v, he, hq _ _ hv⟩⟩

section
variable {P : Program} {r : Option Nat} {n : Nat} {L : Sl} {ds : List Deferred} {w : World} {K : Kt} {ops : Array Oper} {rest : List Oper} {d : Nat} {ty : TypeId} {pos : String} {af : Array Edge}

theorem Rg.yield {x : Operand} {l : Nat} {xs : List Operand} {vs : List Value} {ats : Array TypeId} {Q : Value → World → Prop} (hx : ev L x = some (.func (.yield l) #[] #[]))
    (hvs : evs L xs = some vs) (hd : Nat.blt d n = true) (hs : Yield P l vs.toArray w Q) (k : ∀ v w', Q v w' → Rg P r n ops rest ((d, v) :: L) ds w' K) :
    Rg P r n ops ({ dst := some d, op := .call { callee := .value x, args := xs.toArray, argTypes := ats }, type := ty, pos, after := af, guard := none } :: rest) L ds w K := by
  refine ⟨fun a ha => wpListIn_plain rfl fun K' hK' => op_wp (fun _ h => by cases h) ?_⟩
  obtain ⟨fn, tmps, asn, body, hy, hr⟩ := hs
  have hrun : (execOp a.eval { dst := some d, op := .call { callee := .value x, args := xs.toArray, argTypes := ats }, type := ty, pos, after := af, guard := none }).run P w = .ok (.round l fn tmps asn body) w := by
    have h1 := evs_map (ρ := a.eval) (fun x u hx => ha.eval hx) hvs
    simp only [execOp, resolve, List.map_toArray, h1, ha.eval hx]
    simpa [Deferred.ofValue, invoke] using hy
  rw [hrun, Oper.uponIn_round]
  refine ⟨fun h => by simp [FW, Fence.wide] at h, ?_⟩
  have hr' : RoundIn (FW r) (0 - 1) P l fn tmps asn body w (fun e w' => ∃ v, e = .returned v ∧ Q v w') := hr
  refine hr'.mono ?_
  rintro e w' ⟨v, rfl, hv⟩
  exact hK' _ _ ((k v w' hv).run _ (ha.put (by simpa [Nat.blt_eq] using hd) v))
end

/-! ### The record of a loop -/
def lrec (fn : FuncId) (tm : Array Value) (ps : Array Tmp) (asn body : Code) (D : Nat) (st : LoopState) (pe : Option Code) : Loop := { state := st, pending := pe, fn := fn, tmps := tm, params := ps, assign := asn, body := body, defers := D }

/-- what is known of the slots that a round starts with -/
structure Tm (n : Nat) (tm : Array Value) (L : Sl) : Prop where
  size : n ≤ tm.size
  at_ : ∀ t v, lk L t = some v → tm[t]? = some v

def setL : List Tmp → List Value → Sl → Sl
  | p :: ps, v :: vs, L => setL ps vs ((p, v) :: L)
  | _, _, L => L

theorem agree_set {n : Nat} : ∀ (ps : List Tmp) (vs : List Value) (tm : Array Value) (L : Sl), Tm n tm L → (∀ p ∈ ps, p < n) → Agree n { tmps := (ps.zip vs).foldl (fun tmps (t, a) => tmps.setIfInBounds t a) tm, defers := [] } (setL ps vs L) []
  | [], vs, tm, L, h, _ => ⟨by simpa using h.size, rfl, by simpa [setL] using h.at_⟩
  | p :: ps, [], tm, L, h, _ => ⟨by simpa using h.size, rfl, by simpa [setL] using h.at_⟩
  | p :: ps, v :: vs, tm, L, h, hp => by
    have h0 : Agree n { tmps := tm, defers := [] } L [] := ⟨h.size, rfl, h.at_⟩
    have h1 := h0.put (hp p (List.mem_cons_self ..)) v
    exact agree_set ps vs (tm.setIfInBounds p v) ((p, v) :: L) ⟨by simpa using h.size, h1.at_⟩ (fun q hq => hp q (List.mem_cons_of_mem _ hq))

/-- how a round is left: Q: what yield's caller is told -/
def Kround (l : Nat) (rec : LoopState → Option Code → Loop) (Q : Value → World → Prop) : Kt
  | .normal, _, _, w => w.heap[l]? = some (.loop (rec .busy none)) ∧ Q (.bool true) (w.putObj l (.loop (rec .ready none)))
  | .ret, _, _, w => w.heap[l]? = some (.loop (rec .busy none)) ∧ Q (.bool false) (w.putObj l (.loop (rec .done (some .ret))))
  | .exit id, _, _, w => w.heap[l]? = some (.loop (rec .busy none)) ∧ Q (.bool false) (w.putObj l (.loop (rec .done (some (.exit id)))))
  | .goto id, _, _, w => w.heap[l]? = some (.loop (rec .busy none)) ∧ Q (.bool false) (w.putObj l (.loop (rec .done (some (.goto id)))))
  | _, _, _, _ => False

@[reducible] def Kasn (P : Program) (l n : Nat) (rec : LoopState → Option Code → Loop) (body : Code) (Q : Value → World → Prop) : Kt := fun e L ds w =>
  e = .normal ∧ w.heap[l]? = some (.loop (rec .ready none)) ∧ T P (some l) n body L ds (w.putObj l (.loop (rec .busy none))) (Kround l rec Q)

theorem yield_of {P : Program} {n l D : Nat} {fn : FuncId} {tm : Array Value} {ps : List Tmp} {asn body : Code} {vs : List Value} {L : Sl} {w : World} {Q : Value → World → Prop}
    (hl : w.heap[l]? = some (.loop (lrec fn tm ps.toArray asn body D .ready none))) (htm : Tm n tm L) (hlen : vs.length = ps.length) (hps : ∀ p ∈ ps, p < n)
    (h : T P (some l) n asn (setL ps vs L) [] w (Kasn P l n (lrec fn tm ps.toArray asn body D) body Q)) : Yield P l vs.toArray w Q := by
  have hy := run_yield (P := P) (args := vs.toArray) hl (by simp [lrec, hlen])
  refine ⟨_, _, _, _, hy, roundIn_of_wpIn trivial ?_⟩
  have hz : ((lrec fn tm ps.toArray asn body D .ready none).params.zip vs.toArray).foldl (fun tmps (t, a) => tmps.setIfInBounds t a) (lrec fn tm ps.toArray asn body D .ready none).tmps = (ps.zip vs).foldl (fun tmps (t, a) => tmps.setIfInBounds t a) tm := by
    simp [lrec, ← Array.foldl_toList]
  rw [hz]
  refine wpIn_mono (h.run _ (agree_set ps vs tm L htm hps)) ?_
  rintro e a w1 ⟨L1, ds1, ha1, rfl, hl1, hb⟩
  refine ⟨_, run_beginRound hl1 rfl, wpIn_mono (hb.run a ha1) ?_⟩
  rintro e a2 w2 ⟨L2, ds2, ha2, hK⟩
  cases e with
  | normal => exact ⟨_, _, run_endRound none hK.1, _, rfl, hK.2⟩
  | ret => exact ⟨_, _, run_endRound (some .ret) hK.1, _, rfl, hK.2⟩
  | exit id => exact ⟨_, _, run_endRound (some (.exit id)) hK.1, _, rfl, hK.2⟩
  | goto id => exact ⟨_, _, run_endRound (some (.goto id)) hK.1, _, rfl, hK.2⟩
  | panic c => exact hK.elim
  | outgrown => exact hK.elim

/-- what a loop's record is -/
def IsRec (n D : Nat) (ps : Array Tmp) (asn body : Code) (L : Sl) (rec : LoopState → Option Code → Loop) : Prop := ∃ fn tm, Tm n tm L ∧ rec = lrec fn tm ps asn body D
theorem yield_rec {P : Program} {n l D : Nat} {ps : List Tmp} {asn body : Code} {vs : List Value} {L : Sl} {w : World} {Q : Value → World → Prop} {rec : LoopState → Option Code → Loop} (hrec : IsRec n D ps.toArray asn body L rec)
    (hl : w.heap[l]? = some (.loop (rec .ready none))) (hlen : vs.length = ps.length) (hps : ∀ p ∈ ps, p < n)
    (h : T P (some l) n asn (setL ps vs L) [] w (Kasn P l n rec body Q)) : Yield P l vs.toArray w Q := by
  obtain ⟨fn, tm, htm, rfl⟩ := hrec
  exact yield_of hl htm hlen hps h

/-- the mark of an outermost loop -/
def mark (D : Nat) : Deferred := { target := .collected D, args := #[] }

/-- The statement, outermost. -/
theorem T.range0 {P : Program} {n : Nat} {L : Sl} {ds : List Deferred} {w : World} {K : Kt} {g : Operand} {ps : Array Tmp} {asn body : Code} {gf : FuncId} {lb : Array Value} (hg : ev L g = some (.func (.func gf) #[] lb)) (he : Enters P gf)
    (h : ∀ fn tm, Tm n tm L → Spec P gf (#[.func (.yield (w.heap.size + 1)) #[] #[]] ++ lb)
      ((w.alloc (.deferred (some []))).alloc (.loop (lrec fn tm ps asn body w.heap.size .ready none))) (fun _ w3 =>
        (w3.heap[w.heap.size + 1]? = some (.loop (lrec fn tm ps asn body w.heap.size .ready none)) ∧ K .normal L (mark w.heap.size :: ds) (w3.putObj (w.heap.size + 1) (.loop (lrec fn tm ps asn body w.heap.size .exhausted none)))) ∨
        ∃ c, w3.heap[w.heap.size + 1]? = some (.loop (lrec fn tm ps asn body w.heap.size .done (some c))) ∧ T P none n c L (mark w.heap.size :: ds) (w3.putObj (w.heap.size + 1) (.loop (lrec fn tm ps asn body w.heap.size .exhausted (some c)))) K)) :
    T P none n (.rangeFunc g ps asn body) L ds w K := by
  refine ⟨fun a ha => wpIn_rangeFunc fun fn hfn => ?_⟩
  have hs := h fn a.tmps ⟨ha.size, ha.at_⟩
  have ha' : Agree n { a with defers := [mark w.heap.size] ++ a.defers } L (mark w.heap.size :: ds) := ⟨ha.size, by simp [ha.defers], ha.at_⟩
  let W1 : World := (w.alloc (.deferred (some []))).alloc (.loop (lrec fn a.tmps ps asn body w.heap.size .ready none))
  refine ⟨w.heap.size + 1, [mark w.heap.size], W1, { target := .fn (.func gf) lb, args := #[.func (.yield (w.heap.size + 1)) #[] #[]] }, W1, gf, #[.func (.yield (w.heap.size + 1)) #[] #[]] ++ lb, W1, run_enterLoop_outer _ _ _ _ _, ?_, ?_, ?_, ?_, ?_⟩
  · simp only [resolve, ha.eval hg]
    simp [go_sem]
  · exact fun _ _ => trivial
  · simpa [invoke, go_sem] using he (#[.func (.yield (w.heap.size + 1)) #[] #[]] ++ lb) _
  · exact fun h => by simp [FW, Fence.wide] at h
  · refine (callsIn_wide.2 hs).mono ?_
    rintro e w3 ⟨v, rfl, ⟨hl, hk⟩ | ⟨c, hl, hk⟩⟩
    · exact ⟨none, _, run_endLoop hl (by simp [lrec]), _, _, ha', hk⟩
    · exact ⟨some c, _, run_endLoop hl (by simp [lrec]), hk.run _ ha'⟩

theorem T.range {P : Program} {n : Nat} {L : Sl} {ds : List Deferred} {w : World} {K : Kt} {g : Operand} {ps : Array Tmp} {asn body : Code} {gf : FuncId} {lb : Array Value} (hg : ev L g = some (.func (.func gf) #[] lb)) (he : Enters P gf)
    (h : ∀ rec, IsRec n w.heap.size ps asn body L rec → Spec P gf (#[.func (.yield (w.heap.size + 1)) #[] #[]] ++ lb)
      ((w.alloc (.deferred (some []))).alloc (.loop (rec .ready none))) (fun _ w3 =>
        (w3.heap[w.heap.size + 1]? = some (.loop (rec .ready none)) ∧ K .normal L (mark w.heap.size :: ds) (w3.putObj (w.heap.size + 1) (.loop (rec .exhausted none)))) ∨
        ∃ c, w3.heap[w.heap.size + 1]? = some (.loop (rec .done (some c))) ∧ T P none n c L (mark w.heap.size :: ds) (w3.putObj (w.heap.size + 1) (.loop (rec .exhausted (some c)))) K)) :
    T P none n (.rangeFunc g ps asn body) L ds w K := .range0 hg he fun fn tm htm => h _ ⟨fn, tm, htm, rfl⟩

/-! ### A function that holds such a loop -/
def Marks (P : Program) : List Deferred → World → World → Prop
  | [], w, w' => w' = w
  | d :: ds, w, w' => ∃ r w1, d.target = .collected r ∧ (Instr.takeDeferred r).run P w = .ok [] w1 ∧ Marks P ds w1 w'

def KretM (P : Program) (fn : Func) (Q : Value → World → Prop) : Kt
  | .normal, L, ds, w | .ret, L, ds, w => ∃ w', Marks P ds w w' ∧ ∀ a : Act, (∀ t v, lk L t = some v → a.tmps[t]? = some v) → ∃ v, (results fn a.tmps).run P w' = .ok v w' ∧ Q v w'
  | _, _, _, _ => False

theorem leaves_marks {P : Program} {fn : Func} {tmps : Array Value} {R : Ending → World → Prop} {w' : World} : ∀ (ds : List Deferred) (w : World), Marks P ds w w' → (∃ v, (results fn tmps).run P w' = .ok v w' ∧ R (.returned v) w') → LeavesInM (FW none) 0 P fn tmps R ds .returning w
  | [], w, h, hr => by cases h; exact hr
  | d :: ds, w, ⟨r, w1, h1, h2, h3⟩, hr => ⟨by simp, .inl ⟨r, w1, h1, h2, leaves_marks ds w1 h3 hr⟩⟩

theorem spec_ofM {P : Program} {f : FuncId} {fn : Func} {c : Code} {args : List Value} {w : World} {Q : Value → World → Prop} (hf : P.funcs[f]? = some fn) (hb : fn.body = some c) {n : Nat} (hn : fn.ntmps = n)
    (h : T P none n c (enterL 0 args) [] w (KretM P fn Q)) : Spec P f args.toArray w Q := by
  refine (callsIn_wide (n := 0)).1 (callsIn_of_wp_marks (F := FW none) hf hb trivial ?_)
  refine wpIn_mono (h.run _ ⟨?_, rfl, ?_⟩) ?_
  · simp [hn]; omega
  · intro t v ht
    obtain ⟨_, h2⟩ := lk_enterL args 0 t v ht
    simp only [Nat.sub_zero] at h2
    have hlt : t < args.length := (List.getElem?_eq_some_iff.1 h2).1
    simp only
    rw [Array.getElem?_append_left (by simpa using hlt)]
    simpa using h2
  · rintro e a w' ⟨L, ds, ha, hK⟩
    have go : (∃ w'', Marks P ds w' w'' ∧ ∀ a : Act, (∀ t v, lk L t = some v → a.tmps[t]? = some v) → ∃ v, (results fn a.tmps).run P w'' = .ok v w'' ∧ Q v w'') → LeavesInM (FW none) 0 P fn a.tmps (fun e w' => ∃ v, e = .returned v ∧ Q v w') a.defers .returning w' := by
      rintro ⟨w'', h1, h2⟩
      obtain ⟨v, h3, h4⟩ := h2 a ha.at_
      rw [ha.defers]
      exact leaves_marks ds w' h1 ⟨v, h3, v, rfl, h4⟩
    cases e with
    | normal => exact go hK
    | ret => exact go hK
    | exit id => exact hK.elim
    | goto id => exact hK.elim
    | panic c => exact hK.elim
    | outgrown => exact hK.elim

theorem marks_one {P : Program} {D : Nat} {w : World} (h : w.heap[D]? = some (.deferred (some []))) : Marks P [mark D] w (w.putObj D (.deferred none)) := ⟨D, _, rfl, run_takeDeferred h, rfl⟩

section
variable {P : Program} {fn : Func} {L : Sl} {w : World} {Q : Value → World → Prop}
theorem Kret0n (hr : fn.results = #[]) (h : Q (.tuple #[]) w) : Kret P fn Q .normal L [] w := ⟨rfl, fun a ha => ⟨_, by simp [results, hr], h⟩⟩
theorem KretM1 {t D : Nat} {v : Value} (hr : fn.results = #[.tmp t]) (hv : lk L t = some v) (hD : w.heap[D]? = some (.deferred (some []))) (h : Q v (w.putObj D (.deferred none))) :
    KretM P fn Q .ret L [mark D] w := ⟨_, marks_one hD, fun a ha => ⟨v, by simp [results, hr, ha t v hv], h⟩⟩
theorem KretM1' {t : Nat} {v : Value} (hr : fn.results = #[.tmp t]) (hv : lk L t = some v) (h : Q v w) : KretM P fn Q .ret L [] w := ⟨w, rfl, fun a ha => ⟨v, by simp [results, hr, ha t v hv], h⟩⟩
theorem KretM2 {t u D : Nat} {x y : Value} (hr : fn.results = #[.tmp t, .tmp u]) (hx : lk L t = some x) (hy : lk L u = some y) (hD : w.heap[D]? = some (.deferred (some []))) (h : Q (.tuple #[x, y]) (w.putObj D (.deferred none))) :
    KretM P fn Q .ret L [mark D] w := ⟨_, marks_one hD, fun a ha => ⟨_, by simp [results, hr, ha _ _ hx, ha _ _ hy], h⟩⟩
theorem KretM2' {t u : Nat} {x y : Value} (hr : fn.results = #[.tmp t, .tmp u]) (hx : lk L t = some x) (hy : lk L u = some y) (h : Q (.tuple #[x, y]) w) :
    KretM P fn Q .ret L [] w := ⟨w, rfl, fun a ha => ⟨_, by simp [results, hr, ha _ _ hx, ha _ _ hy], h⟩⟩
end

theorem step_putObj {M : PSet} {w : World} {b : Nat} {o : Obj} (hM : M b) : Step M w M (w.putObj b o) (fun k => k = b) :=
  ⟨fun h k hk => by simpa [World.putObj] using h k hk, rfl, rfl, rfl, by simp [World.putObj], fun _ _ => Iff.rfl, fun k _ hn => World.putObj_heap_other (fun e => hn e), fun k hk => by subst hk; exact hM⟩
end Go.K

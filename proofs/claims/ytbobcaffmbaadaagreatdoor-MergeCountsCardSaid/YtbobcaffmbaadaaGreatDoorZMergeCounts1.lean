/- What the law 'MergeCounts' needs of walks and plain Lean, part 1: nothing is assumed beyond the texts that it imports. -/
import Derived.ArgAppend
import Derived.Below
import Derived.ChangeOld
import Derived.Deep.MidRow
import Derived.IntWalk
import Derived.LaidByTextLater
import Derived.LaidHandle
import Derived.LaidLaws
import Derived.LaidMore
import Derived.Laws.AppendOwn
import Derived.Laws.BytesString
import Derived.Laws.Cover3
import Derived.Laws.NewBlocks
import Derived.Laws.Pointers
import Derived.Laws.Slices
import Derived.Laws.Small
import Derived.MakeChecks
import Derived.OpenShut
import Derived.Orders
import Derived.ProofKit
import Derived.RangeFuncLeaves
import Derived.RangeFuncNested
import Derived.SevenTiedAt
import Derived.ShutString
import Derived.SizedLaws
import Derived.Stop.Joined
import Derived.TacticsIn
import Derived.WalkKit
set_option linter.unusedVariables false
set_option linter.unusedSimpArgs false
theorem aO {α:Type} {c:α} {P:α→Prop} (h:P c):∀x,x=c→P x:=fun x hx=>hx▸h
namespace Go.K
abbrev Sl:=List (Nat×Value)
def lk:Sl→Nat→Option Value
 |[],_=>none
 |(k,v)::l,t=>bif Nat.beq k t then some v else lk l t
structure iM (n:Nat) (a:Act) (L:Sl) (ds:List Deferred):Prop where
 size:n≤a.tmps.size
 defers:a.defers=ds
 at_:∀t v,lk L t=some v→a.tmps[t]? =some v
def ev (L:Sl):Operand→Option Value
 |.tmp t=>lk L t
 |.const v=>some v
 |.global g=>some (.pointer (some ⟨g,0,none⟩))
 |.func f=>some (.func (.func f) #[] #[])
theorem iM.eval {n a L ds} (h:iM n a L ds) {x:Operand} {v:Value} (hx:ev L x=some v):a.eval x=v:=by
 cases x with
 |tmp t=>simp only[ev]at hx;simp[Act.eval,h.at_ t v hx]
 |const u=>simp only[ev]at hx;cases hx;rfl
 |global g=>simp only[ev]at hx;cases hx;rfl
 |func f=>simp only[ev]at hx;cases hx;rfl
theorem iM.put {n a L ds} (h:iM n a L ds) {d:Nat} (hd:d<n) (v:Value):iM n (a.put (some d) v) ((d,v)::L) ds:=by
 refine⟨?_,h.defers,?_⟩
 ·simp only[Act.put,Array.size_setIfInBounds];exact h.size
 ·intro t u ht;simp only[lk]at ht;have hs:=h.size;by_cases e:d=t
  ·subst e;simp only[Nat.beq_refl,cond_true]at ht
   cases ht;simp only[Act.put];rw[Array.getElem?_setIfInBounds];simp;omega
  ·have e':Nat.beq d t=false:=by
    cases hb:Nat.beq d t with
    |false=>rfl
    |true=>exact absurd (Nat.eq_of_beq_eq_true hb) e
   rw[e']at ht;simp only[cond_false]at ht;simp only[Act.put];rw[Array.getElem?_setIfInBounds,if_neg e];exact h.at_ t u ht
def Sub:Sl→Sl→Prop
 |[],_=>True
 |(t,v)::A,B=>lk B t=some v∧Sub A B
theorem Sub.nil {B:Sl}:Sub [] B:=trivial
theorem Sub.cons {t:Nat} {v:Value} {A B:Sl} (h:lk B t=some v) (h':Sub A B):Sub ((t,v)::A) B:=⟨h,h'⟩
theorem Sub.lk {A B:Sl} (h:Sub A B) {t:Nat} {v:Value} (ht:lk A t=some v):lk B t=some v:=by
 induction A with
 |nil=>simp[K.lk]at ht
 |cons p A ih=>
  obtain⟨k,u⟩:=p;obtain⟨h1,h2⟩:=h;simp only[K.lk]at ht
  cases hb:Nat.beq k t with
  |true=>
   rw[hb]at ht;simp only[cond_true]at ht;cases ht;rw[←Nat.eq_of_beq_eq_true hb];exact h1
  |false=>rw[hb]at ht;exact ih h2 ht
theorem iM.sub {n a A B ds} (h:iM n a B ds) (hs:Sub A B):iM n a A ds:=⟨h.size,h.defers,fun t v ht=>h.at_ t v (hs.lk ht)⟩
abbrev FW (r:Option Nat):Fence:={Fence.wide with round:=r}
abbrev Kt:=Exit→Sl→List Deferred→World→Prop
def up (n:Nat) (K:Kt):Exit→Act→World→Prop:=fun e a w=>∃L ds,iM n a L ds∧K e L ds w
structure T (P:Program) (r:Option Nat) (n:Nat) (c:Code) (L:Sl) (ds:List Deferred) (w:World) (K:Kt):Prop where
 run:∀a,iM n a L ds→c.wpIn (FW r) 0 P (up n K) a w
structure Rg (P:Program) (r:Option Nat) (n:Nat) (ops:Array Oper) (rest:List Oper) (L:Sl) (ds:List Deferred) (w:World) (K:Kt):Prop where
 run:∀a,iM n a L ds→wpListIn (FW r) 0 P ops (up n K) rest a w
@[reducible] def rf (k:Sl→List Deferred→World→Prop) (K:Kt):Kt
 |.normal,L,ds,w=>k L ds w
 |e,L,ds,w=>K e L ds w
@[reducible] def jC (id:Nat) (K:Kt):Kt
 |.exit id',L,ds,w=>if id'=id then K .normal L ds w else K (.exit id') L ds w
 |e,L,ds,w=>K e L ds w
section
variable {P:Program} {r:Option Nat} {n:Nat} {L:Sl} {ds:List Deferred} {w:World} {K:Kt}
theorem T.mono {c:Code} {K':Kt} (h:T P r n c L ds w K) (hK:∀e L ds w,K e L ds w→K' e L ds w):T P r n c L ds w K':=
 ⟨fun a ha=>wpIn_mono (h.run a ha) fun _ _ _ ⟨L,ds,h1,h2⟩=>⟨L,ds,h1,hK _ _ _ _ h2⟩⟩
theorem T.weaken {c:Code} (L':Sl) (hs:Sub L' L) (h:T P r n c L' ds w K):T P r n c L ds w K:=⟨fun a ha=>h.run a (ha.sub hs)⟩
theorem T.skip (h:K .normal L ds w):T P r n .skip L ds w K:=⟨fun a ha=>wpIn_skip ⟨L,ds,ha,h⟩⟩
theorem T.exit {id:Nat} (h:K (.exit id) L ds w):T P r n (.exit id) L ds w K:=⟨fun a ha=>wpIn_exit ⟨L,ds,ha,h⟩⟩
theorem T.ret (h:K .ret L ds w):T P r n .ret L ds w K:=⟨fun a ha=>wpIn_ret ⟨L,ds,ha,h⟩⟩
theorem T.seq {x y:Code} (h:T P r n x L ds w (rf (fun L ds w=>T P r n y L ds w K) K)):T P r n (.seq x y) L ds w K:=by
 refine⟨fun a ha=>wpIn_seq (wpIn_mono (h.run a ha) ?_)⟩;rintro e a' w' ⟨L',qh,rh,hK⟩
 cases e with
 |normal=>exact hK.run a' rh
 |exit id=>exact⟨L',qh,rh,hK⟩
 |goto id=>exact⟨L',qh,rh,hK⟩
 |ret=>exact⟨L',qh,rh,hK⟩
 |panic c=>exact⟨L',qh,rh,hK⟩
 |outgrown=>exact⟨L',qh,rh,hK⟩
theorem T.block {id:Nat} {c:Code} (h:T P r n c L ds w (jC id K)):T P r n (.block id c) L ds w K:=by
 refine⟨fun a ha=>wpIn_block (wpIn_mono (h.run a ha) ?_)⟩;rintro e a' w' ⟨L',qh,rh,hK⟩
 cases e with
 |normal=>exact⟨L',qh,rh,hK⟩
 |exit id'=>
  simp only[Exit.inBlock];simp only[jC]at hK
  split
  ·rename_i e';rw[if_pos e']at hK;exact⟨L',qh,rh,hK⟩
  ·rename_i e';rw[if_neg e']at hK;exact⟨L',qh,rh,hK⟩
 |goto id=>exact⟨L',qh,rh,hK⟩
 |ret=>exact⟨L',qh,rh,hK⟩
 |panic c=>exact⟨L',qh,rh,hK⟩
 |outgrown=>exact⟨L',qh,rh,hK⟩
theorem T.cond {c:Operand} {x y:Code} {b:Bool} (hc:ev L c=some (.bool b)) (ht:b=true→T P r n x L ds w K) (hf:b=false→T P r n y L ds w K):
  T P r n (.cond c x y) L ds w K:=by
 refine⟨fun a ha=>?_⟩;have:=ha.eval hc
 cases b with
 |true=>exact wpIn_cond_true this ((ht rfl).run a ha)
 |false=>exact wpIn_cond_false this ((hf rfl).run a ha)
theorem T.dU {c:Operand} {x y:Code} {p:Prop} [Decidable p] (hc:ev L c=some (.bool (decide p))) (ht:p→T P r n x L ds w K) (hf: ¬p→T P r n y L ds w K):
  T P r n (.cond c x y) L ds w K:= .cond hc (fun h=>ht (of_decide_eq_true h)) (fun h=>hf (of_decide_eq_false h))
theorem T.tn {c:Operand} {x y:Code} (hc:ev L c=some (.bool true)) (ht:T P r n x L ds w K):T P r n (.cond c x y) L ds w K:= .cond hc (fun _=>ht) (fun h=>by cases h)
theorem T.iff {c:Operand} {x y:Code} (hc:ev L c=some (.bool false)) (hf:T P r n y L ds w K):T P r n (.cond c x y) L ds w K:= .cond hc (fun h=>by cases h) (fun _=>hf)
theorem least {σ:Type} (m:σ→Nat) (p:σ→Prop):(∃s,p s)→∃s,p s∧∀s',p s'→m s≤m s':=by
 have key:∀k s,m s=k→p s→∃s,p s∧∀s',p s'→m s≤m s':=by
  intro k
  induction k using Nat.strongRecOn with
  |_ k ih=>
   intro s hs hp;by_cases h:∃s',p s'∧m s'<k
   ·obtain⟨s',Ot,dV⟩:=h;exact ih (m s') dV s' rfl Ot
   ·exact⟨s,hp,fun s' Ot=>by
     rcases Nat.lt_or_ge (m s') (m s)with h'|h'
     ·exact absurd ⟨s',Ot,hs▸h'⟩ h
     ·exact h'⟩
 rintro⟨s,hp⟩;exact key _ s rfl hp
theorem T.loop {σ:Type} {c:Code} (Lf:σ→Sl) (I:σ→World→Prop) (m:σ→Nat) (s0:σ) (hL:Sub (Lf s0) L) (h0:I s0 w)
  (round:∀s w,I s w→T P r n c (Lf s) ds w (rf (fun L' qh w'=>qh=ds∧∃s',Sub (Lf s') L'∧I s' w'∧m s'<m s) K)):T P r n (.loop c) L ds w K:=by
 classical
 refine⟨fun a ha=>?_⟩
 let J:σ→Act→World→Prop:=fun s a w=>iM n a (Lf s) ds∧I s w
 let μ:Act→World→Nat:=fun a w=>if h:∃s,J s a w then m (Classical.choose (least m (J · a w) h))else 0
 refine wpIn_loop (fun a w=>∃s,J s a w) μ ⟨s0,ha.sub hL,h0⟩ ?_;rintro a w hJ;have hc:=Classical.choose_spec (least m (J · a w) hJ);have hμ:μ a w=m (Classical.choose (least m (J · a w) hJ)):=by simp only[μ];rw[dif_pos hJ]
 rw[hμ];generalize Classical.choose (least m (J · a w) hJ)=s at hc;obtain⟨⟨hs,hi⟩,_⟩:=hc;refine wpIn_mono ((round s w hi).run a hs) ?_;rintro e a' w' ⟨L',qh,rh,hK⟩
 cases e with
 |normal=>
  obtain⟨rfl,s',OK,ik,dV⟩:=hK;have SG:∃s,J s a' w':=⟨s',rh.sub OK,ik⟩;refine⟨SG,?_⟩;have h2:=(Classical.choose_spec (least m (J · a' w') SG)).2 s' ⟨rh.sub OK,ik⟩;simp only[μ];rw[dif_pos SG];omega
 |exit id=>exact⟨L',qh,rh,hK⟩
 |goto id=>exact⟨L',qh,rh,hK⟩
 |ret=>exact⟨L',qh,rh,hK⟩
 |panic c=>exact⟨L',qh,rh,hK⟩
 |outgrown=>exact⟨L',qh,rh,hK⟩
theorem T.region {id:Nat} {l:List Oper} (h:Rg P r n l.toArray l L ds w K):T P r n (.region id l.toArray false) L ds w K:=
 ⟨fun a ha=>wpIn_region_lit (h.run a ha)⟩
variable {ops:Array Oper} {rest:List Oper} {o:Oper}
theorem Rg.nil (h:K .normal L ds w):Rg P r n ops [] L ds w K:=⟨fun _ ha=>wpListIn_nil ⟨L,ds,ha,h⟩⟩
theorem Cu (oD:∀c,o.op≠ .defer c) {a:Act} {next:Act→World→Prop} {Q:Exit→Act→World→Prop}
  (h:o.uponIn (FW r) 0 P a next Q ((execOp a.eval o).run P w)):o.wpIn (FW r) 0 P a w next Q:=
 ⟨fun _ _=>trivial,by rw[Oper.semAt_eq _ _ _ oD];exact h⟩
theorem Rg.op (oD:∀c,o.op≠ .defer c) (hg:o.guard=none) {d:Nat} (hd:o.dst=some d) (Kb:Nat.blt d n=true) (v:Value) (w':World)
  (gN:∀ρ:Operand→Value,(∀x u,ev L x=some u→ρ x=u)→(execOp ρ o).run P w= .ok (.value v) w')
  (h:Rg P r n ops rest ((d,v)::L) ds w' K):Rg P r n ops (o::rest) L ds w K:=by
 refine⟨fun a ha=>wpListIn_plain hg fun K' OL=>Cu oD ?_⟩;rw[gN a.eval (fun x u hx=>ha.eval hx),Oper.uponIn_value,hd];exact OL _ _ (h.run _ (ha.put (by simpa[Nat.blt_eq]using Kb) v))
theorem Rg.QU (oD:∀c,o.op≠ .defer c) (hg:o.guard=none) (hd:o.dst=none) (w':World)
  (gN:∀ρ:Operand→Value,(∀x u,ev L x=some u→ρ x=u)→(execOp ρ o).run P w= .ok .skip w')
  (h:Rg P r n ops rest L ds w' K):Rg P r n ops (o::rest) L ds w K:=by
 refine⟨fun a ha=>wpListIn_plain hg fun K' OL=>Cu oD ?_⟩;rw[gN a.eval (fun x u hx=>ha.eval hx),Oper.uponIn_skip,hd];exact OL _ _ (h.run _ ha)
def Spec (P:Program) (f:FuncId) (args:Array Value) (w:World) (Q:Value→World→Prop):Prop:=
 Calls P f args w fun e w'=>∃v,e= .returned v∧Q v w'
theorem Spec.mono {f:FuncId} {args:Array Value} {Q Q':Value→World→Prop} (h:Spec P f args w Q) (hq:∀v w',Q v w'→Q' v w'):Spec P f args w Q':=
 Calls.mono h fun _ _ ⟨v,he,hv⟩=>⟨v,he,hq _ _ hv⟩
theorem Rg.E0 (oD:∀c,o.op≠ .defer c) (hg:o.guard=none) {d:Nat} (hd:o.dst=some d) (Kb:Nat.blt d n=true) {f:FuncId} {args:Array Value} {w1:World} {Q:Value→World→Prop}
  (gN:∀ρ:Operand→Value,(∀x u,ev L x=some u→ρ x=u)→(execOp ρ o).run P w= .ok (.enter f args) w1)
  (hs:Spec P f args w1 Q) (h:∀v w',Q v w'→Rg P r n ops rest ((d,v)::L) ds w' K):Rg P r n ops (o::rest) L ds w K:=by
 refine⟨fun a ha=>wpListIn_plain hg fun K' OL=>Cu oD ?_⟩;rw[gN a.eval (fun x u hx=>ha.eval hx),Oper.uponIn_enter,hd];refine⟨fun h=>by simp[FW,Fence.wide]at h,?_⟩
 have hc:CallsIn (FW r) (0-1) P f args w1 fun e w'=>∃v,e= .returned v∧Q v w':=by
  cases r with
  |none=>exact callsIn_wide.2 hs
  |some l=>exact CallsIn.inRound l (callsIn_wide.2 hs)
 refine hc.mono ?_;rintro e w' ⟨v,rfl,hv⟩;exact OL _ _ ((h v w' hv).run _ (ha.put (by simpa[Nat.blt_eq]using Kb) v))
def xx (ops:Array Oper) (j:Nat):Option Nat:=(ops[j]?).bind (·.dst)
theorem xy {a:Act} (ha:iM n a L ds) {j g:Nat} {b:Bool} (hj:xx ops j=some g) (hb:lk L g=some (.bool b)):yielded ops a.tmps j=some b:=by
 unfold yielded;unfold xx at hj;rw[hj];simp[ha.at_ g _ hb]
theorem Rg.SH {g:Nat} {b:Bool} (hb:lk L g=some (.bool b)) (ht:b=true→Rg P r n ops rest ((g,.bool true)::L) ds w K) (hf:b=false→Rg P r n ops rest ((g,.bool false)::L) ds w K):
  Rg P r n ops rest L ds w K:=by
 have key:∀c,b=c→∀t v,lk ((g,.bool c)::L) t=some v→lk L t=some v:=by
  rintro c rfl t v h;simp only[lk]at h
  cases WY:Nat.beq g t with
  |true=>rw[WY]at h;simp only[cond_true]at h;rw[←Nat.eq_of_beq_eq_true WY,hb];exact h
  |false=>rw[WY]at h;exact h
 refine⟨fun a ha=>?_⟩
 cases b with
 |true=>exact(ht rfl).run a ⟨ha.size,ha.defers,fun t v h=>ha.at_ t v (key true rfl t v h)⟩
 |false=>exact(hf rfl).run a ⟨ha.size,ha.defers,fun t v h=>ha.at_ t v (key false rfl t v h)⟩
theorem Rg.bF {g:Nat} {p:Prop} [Decidable p] (hb:lk L g=some (.bool (decide p))) (ht:p→Rg P r n ops rest ((g,.bool true)::L) ds w K) (hf: ¬p→Rg P r n ops rest ((g,.bool false)::L) ds w K):
  Rg P r n ops rest L ds w K:= .SH hb (fun h=>ht (of_decide_eq_true h)) (fun h=>hf (of_decide_eq_false h))
theorem Rg.Hb {g:Nat} {p:Prop} [Decidable p] (hb:lk L g=some (.bool (decide p))) (hp:p) (k:Rg P r n ops rest ((g,.bool true)::L) ds w K):Rg P r n ops rest L ds w K:=
 .bF hb (fun _=>k) (fun h=>absurd hp h)
theorem Rg.E1 {g:Nat} {p:Prop} [Decidable p] (hb:lk L g=some (.bool (decide p))) (hp: ¬p) (k:Rg P r n ops rest ((g,.bool false)::L) ds w K):Rg P r n ops rest L ds w K:=
 .bF hb (fun h=>absurd h hp) (fun _=>k)
theorem T.wO {c:Operand} {x y:Code} {p:Prop} [Decidable p] (hc:ev L c=some (.bool (decide p))) (hp: ¬p) (h:T P r n y L ds w K):T P r n (.cond c x y) L ds w K:= .dU hc (fun h=>absurd h hp) (fun _=>h)
theorem Rg.aI {dst:Option Nat} {op:Op} {ty:TypeId} {pos:String} {af:Array Edge} {j g:Nat} {b:Bool} (hj:xx ops j=some g) (hb:lk L g=some (.bool b))
  (h:Rg P r n ops ({dst,op,type:=ty,pos,after:=af,guard:=none}::rest) L ds w K):Rg P r n ops ({dst,op,type:=ty,pos,after:=af,guard:=some (j,b)}::rest) L ds w K:=by
 refine⟨fun a ha=>?_⟩;have h1:=h.run a ha;have hy:=xy ha hj hb;simp only[wpListIn,Region.wanted,if_true]at h1;simp only[wpListIn,Region.wanted,hy,beq_self_eq_true,if_true];exact h1
theorem Rg.bM {d:Nat} {op:Op} {ty:TypeId} {pos:String} {af:Array Edge} {j g:Nat} {b c:Bool} (hj:xx ops j=some g) (hb:lk L g=some (.bool b)) (eQ:(b==c)=false)
  (Kb:Nat.blt d n=true) (h:Rg P r n ops rest ((d,undef)::L) ds w K):Rg P r n ops ({dst:=some d,op,type:=ty,pos,after:=af,guard:=some (j,c)}::rest) L ds w K:=by
 refine⟨fun a ha=>?_⟩;have hy:=xy ha hj hb;have OM:b≠c:=by simpa using eQ
 simp only[wpListIn,Region.wanted,hy];rw[if_neg (by simpa using OM)];exact⟨fun _ _=>trivial,h.run _ (ha.put (by simpa[Nat.blt_eq]using Kb) undef)⟩
end
section
variable {P:Program} {r:Option Nat} {n:Nat} {L:Sl} {ds:List Deferred} {w:World} {K:Kt} {ops:Array Oper} {rest:List Oper}
theorem zt {a:Act} (ha:iM n a L ds) {j g:Nat} (hj:xx ops j=some g) (hb:lk L g=some undef):yielded ops a.tmps j=none:=by
 unfold yielded;unfold xx at hj;rw[hj];simp[ha.at_ g _ hb,undef]
theorem Rg.eu {d:Nat} {op:Op} {ty:TypeId} {pos:String} {af:Array Edge} {j g:Nat} {c:Bool} (hj:xx ops j=some g) (hb:lk L g=some undef)
  (Kb:Nat.blt d n=true) (h:Rg P r n ops rest ((d,undef)::L) ds w K):Rg P r n ops ({dst:=some d,op,type:=ty,pos,after:=af,guard:=some (j,c)}::rest) L ds w K:=by
 refine⟨fun a ha=>?_⟩;have hy:=zt ha hj hb;simp only[wpListIn,Region.wanted,hy];rw[if_neg (by simp)];exact⟨fun _ _=>trivial,h.run _ (ha.put (by simpa[Nat.blt_eq]using Kb) undef)⟩
end
def uJ:Nat→List Value→Sl
 |_,[]=>[]
 |i,v::l=>(i,v)::uJ (i+1) l
theorem zZ (l:List Value):∀(i t:Nat) (v:Value),lk (uJ i l) t=some v→i≤t∧l[t-i]? =some v:=by
 induction l with
 |nil=>intro i t v h;simp[uJ,lk]at h
 |cons u l ih=>
  intro i t v h;simp only[uJ,lk]at h
  cases hb:Nat.beq i t with
  |true=>
   rw[hb]at h;simp only[cond_true]at h;cases h;have:=Nat.eq_of_beq_eq_true hb;subst this;exact⟨Nat.le_refl _,by simp⟩
  |false=>
   rw[hb]at h;obtain⟨h1,h2⟩:=ih (i+1) t v h;refine⟨by omega,?_⟩;rw[show t-i=(t-(i+1))+1 from by omega];simpa using h2
def wR (P:Program) (fn:Func) (Q:Value→World→Prop):Kt
 |.normal,L,ds,w| .ret,L,ds,w=>ds=[]∧∀a:Act,(∀t v,lk L t=some v→a.tmps[t]? =some v)→∃v,(results fn a.tmps).run P w= .ok v w∧Q v w
 |_,_,_,_=>False
theorem bm {P:Program} {f:FuncId} {fn:Func} {c:Code} {args:List Value} {w:World} {Q:Value→World→Prop} (hf:P.funcs[f]? =some fn) (hb:fn.body=some c) {n:Nat} (hn:fn.ntmps=n)
  (h:T P none n c (uJ 0 args) [] w (wR P fn Q)):Spec P f args.toArray w Q:=by
 refine(callsIn_wide (n:=0)).1 (callsIn_of_wp hf hb trivial ?_);refine wpIn_mono (h.run _ ⟨?_,rfl,?_⟩) ?_
 ·simp[hn];omega
 ·intro t v ht;obtain⟨_,h2⟩:=zZ args 0 t v ht;simp only[Nat.sub_zero]at h2;have dV:t<args.length:=(List.getElem?_eq_some_iff.1 h2).1;simp only;rw[Array.getElem?_append_left (by simpa using dV)];simpa using h2
 ·rintro e a w' ⟨L,ds,ha,hK⟩
  cases e with
  |normal=>obtain⟨h1,h2⟩:=hK;obtain⟨v,h3,h4⟩:=h2 a ha.at_;exact⟨ha.defers.trans h1,v,h3,v,rfl,h4⟩
  |ret=>obtain⟨h1,h2⟩:=hK;obtain⟨v,h3,h4⟩:=h2 a ha.at_;exact⟨ha.defers.trans h1,v,h3,v,rfl,h4⟩
  |exit id=>exact hK.elim
  |goto id=>exact hK.elim
  |panic c=>exact hK.elim
  |outgrown=>exact hK.elim
section
variable {P:Program} {fn:Func} {L:Sl} {w:World} {Q:Value→World→Prop}
theorem aV {t:Nat} {v:Value} (hr:fn.results= #[.tmp t]) (hv:lk L t=some v) (h:Q v w):
  wR P fn Q .ret L [] w:=
 ⟨rfl,fun a ha=>⟨v,by simp[results,hr,ha t v hv],h⟩⟩
theorem Cv (hr:fn.results= #[]) (h:Q (.tuple #[]) w):
  wR P fn Q .ret L [] w:=
 ⟨rfl,fun a ha=>⟨_,by simp[results,hr],h⟩⟩
theorem fm {t u:Nat} {x y:Value} (hr:fn.results= #[.tmp t,.tmp u]) (hx:lk L t=some x) (hy:lk L u=some y) (h:Q (.tuple #[x,y]) w):
  wR P fn Q .ret L [] w:=
 ⟨rfl,fun a ha=>⟨_,by simp[results,hr,ha _ _ hx,ha _ _ hy],h⟩⟩
theorem rC {t u s:Nat} {x y z:Value} (hr:fn.results= #[.tmp t,.tmp u,.tmp s]) (hx:lk L t=some x) (hy:lk L u=some y) (hz:lk L s=some z) (h:Q (.tuple #[x,y,z]) w):
  wR P fn Q .ret L [] w:=
 ⟨rfl,fun a ha=>⟨_,by simp[results,hr,ha _ _ hx,ha _ _ hy,ha _ _ hz],h⟩⟩
end
end Go.K
namespace Go.K
open Go.RowKit (Below)
abbrev aD:=Nat→Prop
def aC:aD:=fun _=>False
def ins (M:aD) (b:Nat):aD:=fun k=>k=b∨M k
def Le (M:aD) (w:World) (M':aD) (w':World):Prop:=∀b,b<w.heap.size→¬M b→¬M' b∧w'.heap[b]? =w.heap[b]?
theorem ak {w:World} {b:Nat} {o:Obj} (h:w.heap[b]? =some o):b<w.heap.size:=(Array.getElem?_eq_some_iff.1 h).1
theorem Le.refl (M:aD) (w:World):Le M w M w:=fun _ _ h=>⟨h,rfl⟩
theorem Le.trans {M1 M2 M3:aD} {w1 w2 w3:World} (h:Le M1 w1 M2 w2) (h':Le M2 w2 M3 w3):Le M1 w1 M3 w3:=fun b hb hm=>by
 obtain⟨h1,h2⟩:=h b hb hm
 have Aa:b<w2.heap.size:=by
  have:w1.heap[b]? =some w1.heap[b]:=Array.getElem?_eq_getElem hb;exact ak (h2.trans this)
 obtain⟨h3,h4⟩:=h' b Aa h1;exact⟨h3,h4.trans h2⟩
def Lt (M:aD) (w:World):Prop:=∀b,M b→b<w.heap.size
theorem Lt.none (w:World):Lt aC w:=fun _ h=>h.elim
structure Step (M:aD) (w:World) (M':aD) (w':World) (N:aD):Prop where
 lt:Lt M w→Lt M' w'
 os:w'.os=w.os
 tape:w'.tape=w.tape
 output:w'.output=w.output
 size:w.heap.size≤w'.heap.size
 mem:∀b,b<w.heap.size→(M' b↔M b)
 same:∀b,b<w.heap.size→¬N b→w'.heap[b]? =w.heap[b]?
 sub:∀b,N b→M b
theorem Step.refl (M:aD) (w:World):Step M w M w aC:=⟨id,rfl,rfl,rfl,Nat.le_refl _,fun _ _=>Iff.rfl,fun _ _ _=>rfl,fun _ h=>h.elim⟩
theorem Step.le {M M' N:aD} {w w':World} (h:Step M w M' w' N):Le M w M' w':=fun b hb hm=>⟨fun zk=>hm ((h.mem b hb).1 zk),h.same b hb fun hn=>hm (h.sub b hn)⟩
theorem Step.trans {M1 M2 M3 N N':aD} {w1 w2 w3:World} (h:Step M1 w1 M2 w2 N) (h':Step M2 w2 M3 w3 N') (hN:∀b,b<w1.heap.size→N' b→N b):Step M1 w1 M3 w3 N:=
 ⟨fun h0=>h'.lt (h.lt h0),h'.os.trans h.os,h'.tape.trans h.tape,h'.output.trans h.output,Nat.le_trans h.size h'.size,
  fun b hb=>(h'.mem b (Nat.lt_of_lt_of_le hb h.size)).trans (h.mem b hb),
  fun b hb hn=>(h'.same b (Nat.lt_of_lt_of_le hb h.size) (fun h2=>hn (hN b hb h2))).trans (h.same b hb hn),h.sub⟩
theorem Step.aB {M1 M2 M3 N:aD} {w1 w2 w3:World} (h:Step M1 w1 M2 w2 N) (h':Step M2 w2 M3 w3 aC):Step M1 w1 M3 w3 N:=h.trans h' fun _ _ h=>h.elim
theorem Step.cH {M M' N N':aD} {w w':World} (h:Step M w M' w' N) (hN:∀b,N b→N' b) (hs:∀b,N' b→M b):Step M w M' w' N':=
 ⟨h.lt,h.os,h.tape,h.output,h.size,h.mem,fun b hb hn=>h.same b hb fun h2=>hn (hN b h2),hs⟩
theorem Step.any {M M':aD} {w w':World} (h:Step M w M' w' aC) (M1:aD):Step M1 w M1 w' aC:=
 ⟨fun h0 b hb=>Nat.lt_of_lt_of_le (h0 b hb) h.size,h.os,h.tape,h.output,h.size,fun _ _=>Iff.rfl,h.same,fun _ h=>h.elim⟩
theorem Step.back {M M' N:aD} {w w':World} (h:Step M w M' w' N):Step M w M w' N:=⟨fun h0 b hb=>Nat.lt_of_lt_of_le (h0 b hb) h.size,h.os,h.tape,h.output,h.size,fun _ _=>Iff.rfl,h.same,h.sub⟩
theorem Step.below {M:aD} {M':aD} {w w':World} (h:Step M w M' w' aC):Below w.heap.size w w':=⟨h.os,h.tape,h.output,h.size,fun k hk=>h.same k hk fun h=>h.elim⟩
theorem Step.aM {M M':aD} {w w':World} (h:Step M w M' w' aC) {b:Nat} {o:Obj} (hb:w.heap[b]? =some o):w'.heap[b]? =some o:=(h.same b (ak hb) fun h=>h.elim).trans hb
theorem Step.keep {M M' N:aD} {w w':World} (h:Step M w M' w' N) {b:Nat} {o:Obj} (hb:w.heap[b]? =some o) (hn: ¬N b):w'.heap[b]? =some o:=(h.same b (ak hb) hn).trans hb
theorem Le.close {M0 M N:aD} {w0 w:World} (hl:Lt M0 w0) (s:Step M0 w0 M w N):Le M w M0 w:=fun b _ hm=>
 ⟨fun h0=>hm ((s.mem b (hl b h0)).2 h0),rfl⟩
theorem dm (M:aD) (w:World) (o:Obj):Step M w M (w.alloc o) aC:=
 ⟨fun h b hb=>Nat.lt_of_lt_of_le (h b hb) (by simp),rfl,rfl,rfl,by simp,fun _ _=>Iff.rfl,fun k hk _=>Below.heap_alloc w o k hk,fun _ h=>h.elim⟩
theorem lY (M:aD) (w:World):Step M w M w.drew aC:=⟨fun h=>h,rfl,rfl,rfl,Nat.le_refl _,fun _ _=>Iff.rfl,fun _ _ _=>rfl,fun _ h=>h.elim⟩
theorem Step.own {M M' N:aD} {w w':World} (s:Step M w M' w' N) {b:Nat} (hb:w.heap.size≤b) (Ou:b<w'.heap.size):Step M w (ins M' b) w' N:=
 ⟨fun h k hk=>by
  rcases hk with rfl|hk
  ·exact Ou
  ·exact s.lt h k hk,s.os,s.tape,s.output,s.size,fun k hk=>⟨fun h=>by
  rcases h with rfl|h
  ·omega
  ·exact(s.mem k hk).1 h,fun h=> .inr ((s.mem k hk).2 h)⟩,s.same,s.sub⟩
structure RT (α:Type) where
 n:Nat
 agg:Bool
 R:aD→World→α→List Value→Prop
 len:∀{M w x vs},R M w x vs→vs.length=n
 one:∀{M w x vs},R M w x vs→∀v∈vs,v.oneCell'=true
 le:∀{M w M' w' x vs},Le M w M' w'→R M w x vs→R M' w' x vs
def RT.val {α:Type} (A:RT α) (vs:List Value):Value:=if A.agg then .agg vs.toArray else vs.headD undef
def RT.V {α:Type} (A:RT α) (M:aD) (w:World) (x:α) (v:Value):Prop:=∃vs,A.R M w x vs∧v=A.val vs
theorem RT.V.le {α:Type} {A:RT α} {M M':aD} {w w':World} {x:α} {v:Value} (hl:Le M w M' w') (h:A.V M w x v):A.V M' w' x v:=by
 obtain⟨vs,h1,h2⟩:=h;exact⟨vs,A.le hl h1,h2⟩
def RT.int (k:IntKind):RT Int where
 n:=1
 agg:=false
 R:=fun _ _ x vs=>vs=[.int k x]∧k.min≤x∧x≤k.max
 len:=by rintro _ _ x vs ⟨rfl,_⟩;rfl
 one:=by rintro _ _ x vs ⟨rfl,_⟩ v hv;simp at hv;subst hv;rfl
 le:=fun _ h=>h
def RT.u8:RT UInt8 where
 n:=1
 agg:=false
 R:=fun _ _ x vs=>vs=[.int .u8 x.toNat]
 len:=by rintro _ _ x vs rfl;rfl
 one:=by rintro _ _ x vs rfl v hv;simp at hv;subst hv;rfl
 le:=fun _ h=>h
def RT.str:RT (List UInt8) where
 n:=1
 agg:=false
 R:=fun _ _ x vs=>vs=[.string ⟨x.toArray⟩]∧x.length≤140737488355328
 len:=by rintro _ _ x vs ⟨rfl,_⟩;rfl
 one:=by rintro _ _ x vs ⟨rfl,_⟩ v hv;simp at hv;subst hv;rfl
 le:=fun _ h=>h
theorem sr {M M':aD} {w w':World} (hl:Le M w M' w') {b o:Nat} {vs:List Value} (hm: ¬M b) (h:w.rangeAt b o vs):w'.rangeAt b o vs:=by
 intro j v hv;have hc:=h j v hv;have hb:b<w.heap.size:=World.block_lt_of_cell? w ⟨b,o+j,none⟩ hc;rw[World.cell?_of_block (w:=w) (hl b hb hm).2];exact hc
def uK {α:Type} (A:RT α) (M:aD) (w:World) (a:Option Addr) (xs:List α):Prop:=
 xs=[]∨∃b o,a=some ⟨b,o,none⟩∧¬M b∧∀i x,xs[i]? =some x→∃vs,A.R M w x vs∧w.rangeAt b (o+i*A.n) vs
theorem uK.le {α:Type} {A:RT α} {M M':aD} {w w':World} {a:Option Addr} {xs:List α} (hn:0<A.n) (hl:Le M w M' w') (h:uK A M w a xs):uK A M' w' a xs:=by
 rcases h with h|⟨b,o,h1,h2,h3⟩
 ·exact .inl h
 ·cases xs with
  |nil=>exact .inl rfl
  |cons x xs=>
   obtain⟨vs,hv,hr⟩:=h3 0 x rfl;have tp:0<vs.length:=by rw[A.len hv];exact hn
   have hc:=hr 0 vs[0] (List.getElem?_eq_getElem tp);have hb:b<w.heap.size:=World.block_lt_of_cell? w _ hc;refine .inr ⟨b,o,h1,(hl b hb h2).1,fun i x hi=>?_⟩;obtain⟨vs,hv,hr⟩:=h3 i x hi;exact⟨vs,A.le hl hv,sr hl h2 hr⟩
def RT.sl {α:Type} (A:RT α) (hn:0<A.n:=by decide):RT (List α) where
 n:=1
 agg:=false
 R:=fun M w xs vs=>∃a cap,vs=[.slice a xs.length cap]∧xs.length≤cap∧xs.length≤140737488355328∧uK A M w a xs
 len:=by rintro _ _ x vs ⟨a,cap,rfl,_⟩;rfl
 one:=by rintro _ _ x vs ⟨a,cap,rfl,_⟩ v hv;simp at hv;subst hv;rfl
 le:=by
  rintro M w M' w' xs vs hl ⟨a,cap,h1,h2,h3,h4⟩;exact⟨a,cap,h1,h2,h3,h4.le hn hl⟩
def RT.pair {α β:Type} (A:RT α) (B:RT β):RT (α×β) where
 n:=A.n+B.n
 agg:=true
 R:=fun M w x vs=>∃va vb,vs=va++vb∧A.R M w x.1 va∧B.R M w x.2 vb
 len:=by rintro _ _ x vs ⟨va,vb,rfl,h1,h2⟩;rw[List.length_append,A.len h1,B.len h2]
 one:=by
  rintro _ _ x vs ⟨va,vb,rfl,h1,h2⟩ v hv;rcases List.mem_append.1 hv with hv|hv
  ·exact A.one h1 v hv
  ·exact B.one h2 v hv
 le:=by rintro M w M' w' x vs hl ⟨va,vb,h0,h1,h2⟩;exact⟨va,vb,h0,A.le hl h1,B.le hl h2⟩
theorem xz {k:IntKind} {M:aD} {w:World} {x:Int} {v:Value}:(RT.int k).V M w x v↔v= .int k x∧k.min≤x∧x≤k.max:=
 ⟨fun⟨_,⟨h1,h2⟩,h3⟩=>by subst h1;exact⟨h3,h2⟩,fun⟨h1,h2⟩=>⟨_,⟨rfl,h2⟩,h1⟩⟩
theorem SI {M:aD} {w:World} {x:UInt8} {v:Value}:RT.u8.V M w x v↔v= .int .u8 x.toNat:=⟨fun⟨_,h1,h2⟩=>by cases h1;exact h2,fun h=>⟨_,rfl,h⟩⟩
theorem kI {M:aD} {w:World} {x:List UInt8} {v:Value}:RT.str.V M w x v↔v= .string ⟨x.toArray⟩∧x.length≤140737488355328:=
 ⟨fun⟨_,⟨h1,h2⟩,h3⟩=>by subst h1;exact⟨h3,h2⟩,fun⟨h1,h2⟩=>⟨_,⟨rfl,h2⟩,h1⟩⟩
theorem iB {α:Type} {A:RT α} {hn:0<A.n} {M:aD} {w:World} {xs:List α} {v:Value}:
  (A.sl hn).V M w xs v↔∃a cap,v= .slice a xs.length cap∧xs.length≤cap∧xs.length≤140737488355328∧uK A M w a xs:=
 ⟨fun⟨_,⟨a,cap,h1,h2⟩,h3⟩=>by subst h1;exact⟨a,cap,h3,h2⟩,fun⟨a,cap,h1,h2⟩=>⟨_,⟨a,cap,rfl,h2⟩,h1⟩⟩
theorem pB {α:Type} {A:RT α} {hn:0<A.n} {M:aD} {w:World}:(A.sl hn).V M w [] (.slice none 0 0):=iB.2 ⟨none,0,rfl,Nat.zero_le _,Nat.zero_le _,.inl rfl⟩
theorem ej {α:Type} {A:RT α} {hn:0<A.n} {M:aD} {w:World} {xs:List α} {v:Value} (h:(A.sl hn).V M w xs v):xs.length≤140737488355328:=by
 obtain⟨_,_,_,_,h,_⟩:=iB.1 h;exact h
def dZ {α:Type} (A:RT α) (M:aD) (w:World):List α→List Value→Prop
 |[],C=>C=[]
 |x::xs,C=>∃vs rest,C=vs++rest∧A.R M w x vs∧dZ A M w xs rest
theorem dZ.le {α:Type} {A:RT α} {M M':aD} {w w':World} (hl:Le M w M' w'):∀{xs:List α} {C:List Value},dZ A M w xs C→dZ A M' w' xs C
 |[],_,h=>h
 |_::_,_,⟨vs,rest,h1,h2,h3⟩=>⟨vs,rest,h1,A.le hl h2,dZ.le hl h3⟩
theorem dZ.length {α:Type} {A:RT α} {M:aD} {w:World}:∀{xs:List α} {C:List Value},dZ A M w xs C→C.length=xs.length*A.n
 |[],_,h=>by cases h;simp
 |x::xs,_,⟨vs,rest,h1,h2,h3⟩=>by subst h1;rw[List.length_append,A.len h2,dZ.length h3,List.length_cons,Nat.add_mul];omega
theorem dZ.one {α:Type} {A:RT α} {M:aD} {w:World}:∀{xs:List α} {C:List Value},dZ A M w xs C→∀u∈C,u.oneCell'=true
 |[],_,h,u,hu=>by cases h;cases hu
 |x::xs,_,⟨vs,rest,h1,h2,h3⟩,u,hu=>by
  subst h1;rcases List.mem_append.1 hu with hu|hu
  ·exact A.one h2 u hu
  ·exact dZ.one h3 u hu
theorem dZ.append {α:Type} {A:RT α} {M:aD} {w:World} {ys:List α} {D:List Value} (hd:dZ A M w ys D):∀{xs:List α} {C:List Value},dZ A M w xs C→dZ A M w (xs++ys) (C++D)
 |[],_,h=>by cases h;simpa using hd
 |_::_,_,⟨vs,rest,h1,h2,h3⟩=>⟨vs,rest++D,by subst h1;simp,h2,dZ.append hd h3⟩
theorem dZ.at_ {α:Type} {A:RT α} {M:aD} {w:World}:∀{xs:List α} {C:List Value},dZ A M w xs C→∀i x,xs[i]? =some x→∃vs,A.R M w x vs∧∀j v,vs[j]? =some v→C[i*A.n+j]? =some v
 |[],_,_,i,x,hi=>by simp at hi
 |y::xs,_,⟨vs,rest,h1,h2,h3⟩,0,x,hi=>by
  simp at hi;subst hi;subst h1;refine⟨vs,h2,fun j v hv=>?_⟩;have hj:j<vs.length:=(List.getElem?_eq_some_iff.1 hv).1;rw[Nat.zero_mul,Nat.zero_add,List.getElem?_append_left hj];exact hv
 |y::xs,_,⟨vs,rest,h1,h2,h3⟩,i+1,x,hi=>by
  subst h1;obtain⟨us,hu,hr⟩:=dZ.at_ h3 i x (by simpa using hi);refine⟨us,hu,fun j v hv=>?_⟩;have:=hr j v hv;have hl:=A.len h2;rw[List.getElem?_append_right (by rw[hl,Nat.add_mul];omega),hl,Nat.add_mul];rw[show i*A.n+1*A.n+j-A.n=i*A.n+j from by omega];exact this
theorem uK.all {α:Type} {A:RT α} {M:aD} {w:World} {b o:Nat}:∀{xs:List α},(∀i x,xs[i]? =some x→∃vs,A.R M w x vs∧w.rangeAt b (o+i*A.n) vs)→
  ∃C,dZ A M w xs C∧w.rangeAt b o C:=by
 intro xs
 induction xs generalizing o with
 |nil=>intro _;exact⟨[],rfl,fun j v hv=>by simp at hv⟩
 |cons x xs ih=>
  intro h;obtain⟨vs,hv,hr⟩:=h 0 x rfl
  obtain⟨C,hC,hD⟩:=ih (o:=o+A.n) (fun i y hi=>by
   obtain⟨us,hu,hs⟩:=h (i+1) y (by simpa using hi);refine⟨us,hu,?_⟩;rw[show o+A.n+i*A.n=o+(i+1)*A.n from by rw[Nat.add_mul];omega];exact hs)
  refine⟨vs++C,⟨vs,C,rfl,hv,hC⟩,fun j v hj=>?_⟩;have hl:=A.len hv;rcases Nat.lt_or_ge j vs.length with dV|Kc
  ·rw[List.getElem?_append_left dV]at hj;have:=hr j v hj;simpa using this
  ·rw[List.getElem?_append_right Kc]at hj;have:=hD (j-vs.length) v hj;rw[show o+A.n+(j-vs.length)=o+j from by omega]at this;exact this
structure Own {α:Type} (A:RT α) (e:TypeId) (M:aD) (w:World) (base:Nat) (v:Value) (xs:List α):Prop where
 row:∃C,w.ownsRow base e A.n v xs.length C∧dZ A M w xs C
 mut_:∀b,v.ownBlock=some b→M b
theorem Own.nil {α:Type} (A:RT α) (e:TypeId) (M:aD) (w:World) (base:Nat):Own A e M w base (.slice none 0 0) []:=
 ⟨⟨[],World.ownsRow_nil w base e A.n,rfl⟩,fun b h=>by simp[Value.ownBlock]at h⟩
theorem Own.isSlice {α:Type} {A:RT α} {e:TypeId} {M:aD} {w:World} {base:Nat} {v:Value} {xs:List α} (h:Own A e M w base v xs):∃a cap,v= .slice a xs.length cap∧xs.length≤cap:=by
 obtain⟨⟨C,hr,_⟩,_⟩:=h;rcases hr.2 with⟨h1,h2⟩|⟨g,cap,cur,h1,_,_,h4,_⟩
 ·exact⟨none,0,by rw[h1,h2],by omega⟩
 ·exact⟨_,cap,h1,h4⟩
theorem Own.base {α:Type} {A:RT α} {e:TypeId} {M:aD} {w:World} {base:Nat} {v:Value} {xs:List α} (h:Own A e M w base v xs):∀b,v.ownBlock=some b→base≤b∧b<w.heap.size:=by
 obtain⟨⟨C,hr,_⟩,_⟩:=h;exact hr.lt
theorem Own.step {α:Type} {A:RT α} {e:TypeId} {M M' N:aD} {w w':World} {base:Nat} {v:Value} {xs:List α} (h:Own A e M w base v xs) (s:Step M w M' w' N)
  (hn:∀b,v.ownBlock=some b→¬N b):Own A e M' w' base v xs:=by
 obtain⟨⟨C,hr,ha⟩,hm⟩:=h;refine⟨⟨C,⟨hr.1,?_⟩,ha.le s.le⟩,fun b hb=>(s.mem b (hr.lt b hb).2).2 (hm b hb)⟩;rcases hr.2 with h1|⟨g,cap,cur,h1,h2,h3,h4⟩
 ·exact .inl h1
 ·exact .inr ⟨g,cap,cur,h1,h2,s.keep h3 (hn g (by rw[h1];rfl)),h4⟩
theorem Own.aL {α:Type} {A:RT α} {e:TypeId} {M M':aD} {w w':World} {base:Nat} {v:Value} {xs:List α} (h:Own A e M w base v xs) (s:Step M w M' w' aC):Own A e M' w' base v xs:=h.step s fun _ _ h=>h
theorem Own.sl {α:Type} {A:RT α} {hn:0<A.n} {e:TypeId} {M:aD} {w:World} {base:Nat} {v:Value} {xs:List α} (h:Own A e M w base v xs) {M0:aD} (hle:Le M w M0 w)
  (hb:∀b,v.ownBlock=some b→¬M0 b) (hlen:xs.length≤140737488355328):(A.sl hn).V M0 w xs v:=by
 obtain⟨⟨C,hr,ha⟩,hm⟩:=h;rcases hr.2 with⟨h1,h2⟩|⟨g,cap,cur,h1,h2,h3,h4,h5,h6,h7⟩
 ·have:xs=[]:=List.eq_nil_of_length_eq_zero h2;subst this;subst h1;exact pB
 ·subst h1;refine iB.2 ⟨_,cap,rfl,h4,hlen,.inr ⟨g,0,rfl,hb g rfl,fun i x hi=>?_⟩⟩;obtain⟨vs,hv,hj⟩:=ha.at_ i x hi;refine⟨vs,A.le hle hv,fun j u hu=>?_⟩;have h8:=hj j u hu;rw[←h7,List.getElem?_take]at h8
  split at h8
  ·simp only[World.cell?,h3];simpa using h8
  ·cases h8
theorem Own.close {α:Type} {A:RT α} {hn:0<A.n} {e:TypeId} {M0 M N:aD} {w0 w:World} {v:Value} {xs:List α} (hl:Lt M0 w0) (s:Step M0 w0 M w N) (h:Own A e M w w0.heap.size v xs)
  (hlen:xs.length≤140737488355328):(A.sl hn).V M0 w xs v:=
 h.sl (Le.close hl s) (fun b hb h0=>by have:=(h.base b hb).1;have:=hl b h0;omega) hlen
def TI (P:Program) (t:TypeId) (z:Value) (size bytes:Nat):Prop:=(P.info? t).map (fun i=>(i.zero,i.size,i.bytes))=some (some z,size,bytes)
theorem TI.get {P:Program} {t:TypeId} {z:Value} {size bytes:Nat} (h:TI P t z size bytes):∃i,P.info? t=some i∧i.zero=some z∧i.size=size∧i.bytes=bytes:=by
 unfold TI at h
 cases hi:P.info? t with
 |none=>simp[hi]at h
 |some i=>simp[hi]at h;exact⟨i,rfl,h.1,h.2.1,h.2.2⟩
theorem TI.sizeOf {P:Program} {t:TypeId} {z:Value} {size bytes:Nat} (h:TI P t z size bytes) (w:World):(Go.sizeOf t).run P w= .ok size w:=by
 obtain⟨i,h1,h2,h3,h4⟩:=h.get;simp[Go.sizeOf,typeInfo,h1,h3]
end Go.K
namespace Go.K
section
variable {P:Program} {r:Option Nat} {n:Nat} {L:Sl} {ds:List Deferred} {w:World} {K:Kt} {ops:Array Oper} {rest:List Oper}
variable {d:Nat} {ty:TypeId} {pos:String} {af:Array Edge} {x y z:Operand}
theorem Rg.eqv {d:Nat} {v v':Value} (h:v=v') (k:Rg P r n ops rest ((d,v')::L) ds w K):Rg P r n ops rest ((d,v)::L) ds w K:=by subst h;exact k
theorem Rg.move {v:Value} (hx:ev L x=some v) (hd:Nat.blt d n=true) (k:Rg P r n ops rest ((d,v)::L) ds w K):
  Rg P r n ops ({dst:=some d,op:= .move x,type:=ty,pos,after:=af,guard:=none}::rest) L ds w K:=
 .op (fun _ h=>by cases h) rfl rfl hd v w (fun ρ h=>by simp only[execOp];rw[h x v hx];simp) k
theorem Rg.assign {v:Value} (hx:ev L x=some v) (hd:Nat.blt d n=true) (k:Rg P r n ops rest ((d,v)::L) ds w K):
  Rg P r n ops ({dst:=some d,op:= .assign x,type:=ty,pos,after:=af,guard:=none}::rest) L ds w K:=
 .op (fun _ h=>by cases h) rfl rfl hd v w (fun ρ h=>by simp only[execOp];rw[h x v hx];simp) k
theorem Rg.b9 {v:Value} (hx:ev L x=some (.bool true)) (hy:ev L y=some v) (hd:Nat.blt d n=true) (k:Rg P r n ops rest ((d,v)::L) ds w K):
  Rg P r n ops ({dst:=some d,op:= .pick x y z,type:=ty,pos,after:=af,guard:=none}::rest) L ds w K:=
 .op (fun _ h=>by cases h) rfl rfl hd v w (fun ρ h=>by simp only[execOp];rw[h x _ hx,h y v hy];simp[asBool]) k
theorem Rg.bE {v:Value} (hx:ev L x=some (.bool false)) (hz:ev L z=some v) (hd:Nat.blt d n=true) (k:Rg P r n ops rest ((d,v)::L) ds w K):
  Rg P r n ops ({dst:=some d,op:= .pick x y z,type:=ty,pos,after:=af,guard:=none}::rest) L ds w K:=
 .op (fun _ h=>by cases h) rfl rfl hd v w (fun ρ h=>by simp only[execOp];rw[h x _ hx,h z v hz];simp[asBool]) k
theorem Rg.not {b:Bool} {xt:TypeId} (hx:ev L x=some (.bool b)) (hd:Nat.blt d n=true) (k:Rg P r n ops rest ((d,.bool (!b))::L) ds w K):
  Rg P r n ops ({dst:=some d,op:= .unOp .not xt x,type:=ty,pos,after:=af,guard:=none}::rest) L ds w K:=
 .op (fun _ h=>by cases h) rfl rfl hd _ w (fun ρ h=>by simp only[execOp];rw[h x _ hx];simp[Op.unary]) k
theorem ON {op:BinOp} {k:IntKind} {p q:Int} {t:TypeId} {x y:Operand} {v:Value} {s:Sem Value} (hs:binOp op t (.int k p) (.int k q)=s) (hr:s.run P w= .ok v w):
  Sem.run P (do eqGuard op t x y (.int k p) (.int k q);binOp op t (.int k p) (.int k q)) w= .ok v w:=by
 rw[hs];have:(eqGuard op t x y (.int k p) (.int k q)).run P w= .ok () w:=by unfold eqGuard;cases op<;>simp
 simp[Sem.run_bind,this,hr]
theorem Rg.bin {op:BinOp} {t t':TypeId} {k:IntKind} {p q:Int} {v:Value} (hx:ev L x=some (.int k p)) (hy:ev L y=some (.int k q)) (hd:Nat.blt d n=true)
  (hr:(binOp op t (.int k p) (.int k q)).run P w= .ok v w) (kk:Rg P r n ops rest ((d,v)::L) ds w K):
  Rg P r n ops ({dst:=some d,op:= .binOp op t x y t',type:=ty,pos,after:=af,guard:=none}::rest) L ds w K:=
 .op (fun _ h=>by cases h) rfl rfl hd v w (fun ρ h=>by
  simp only[execOp];rw[h x _ hx,h y _ hy,Sem.run_bind,ON rfl hr];simp) kk
theorem Rg.cZ {t t':TypeId} {p q:Int} (hx:ev L x=some (.int .i64 p)) (hy:ev L y=some (.int .i64 q)) (hd:Nat.blt d n=true)
  (hb: -9223372036854775808≤p+q∧p+q≤9223372036854775807) (k:Rg P r n ops rest ((d,.int .i64 (p+q))::L) ds w K):
  Rg P r n ops ({dst:=some d,op:= .binOp .add t x y t',type:=ty,pos,after:=af,guard:=none}::rest) L ds w K:=
 .bin hx hy hd (by simp[binOp,Op.intArith,IntWalk.i64_in _ hb]) k
theorem Rg.ju {t t':TypeId} {p q:Int} (hx:ev L x=some (.int .i64 p)) (hy:ev L y=some (.int .i64 q)) (hd:Nat.blt d n=true)
  (hb: -9223372036854775808≤p-q∧p-q≤9223372036854775807) (k:Rg P r n ops rest ((d,.int .i64 (p-q))::L) ds w K):
  Rg P r n ops ({dst:=some d,op:= .binOp .sub t x y t',type:=ty,pos,after:=af,guard:=none}::rest) L ds w K:=
 .bin hx hy hd (by simp[binOp,Op.intArith,IntWalk.i64_in _ hb]) k
theorem Rg.OO {t t':TypeId} {p q:Int} (hx:ev L x=some (.int .i64 p)) (hy:ev L y=some (.int .i64 q)) (hd:Nat.blt d n=true)
  (hb: -9223372036854775808≤p*q∧p*q≤9223372036854775807) (k:Rg P r n ops rest ((d,.int .i64 (p*q))::L) ds w K):
  Rg P r n ops ({dst:=some d,op:= .binOp .mul t x y t',type:=ty,pos,after:=af,guard:=none}::rest) L ds w K:=
 .bin hx hy hd (by simp[binOp,Op.intArith,IntWalk.i64_in _ hb]) k
theorem Rg.wT {t t':TypeId} {κ:IntKind} {p q:Int} (hx:ev L x=some (.int κ p)) (hy:ev L y=some (.int κ q)) (hd:Nat.blt d n=true)
  (k:Rg P r n ops rest ((d,.int κ (κ.wrap (p+q)))::L) ds w K):
  Rg P r n ops ({dst:=some d,op:= .binOp .add t x y t',type:=ty,pos,after:=af,guard:=none}::rest) L ds w K:= .bin hx hy hd (by simp[binOp,Op.intArith]) k
theorem Rg.SJ {t t':TypeId} {κ:IntKind} {p q:Int} (hx:ev L x=some (.int κ p)) (hy:ev L y=some (.int κ q)) (hd:Nat.blt d n=true)
  (k:Rg P r n ops rest ((d,.int κ (κ.wrap (p-q)))::L) ds w K):
  Rg P r n ops ({dst:=some d,op:= .binOp .sub t x y t',type:=ty,pos,after:=af,guard:=none}::rest) L ds w K:= .bin hx hy hd (by simp[binOp,Op.intArith]) k
theorem Rg.Ij {t t':TypeId} {κ:IntKind} {p q:Int} (hx:ev L x=some (.int κ p)) (hy:ev L y=some (.int κ q)) (hd:Nat.blt d n=true)
  (k:Rg P r n ops rest ((d,.int κ (κ.wrap (p*q)))::L) ds w K):
  Rg P r n ops ({dst:=some d,op:= .binOp .mul t x y t',type:=ty,pos,after:=af,guard:=none}::rest) L ds w K:= .bin hx hy hd (by simp[binOp,Op.intArith]) k
theorem Rg.zu {t t':TypeId} {p q:Int} (hx:ev L x=some (.int .i64 p)) (hy:ev L y=some (.int .i64 q)) (hd:Nat.blt d n=true)
  (hb:0≤p∧p≤9223372036854775807∧1≤q) (k:Rg P r n ops rest ((d,.int .i64 (p/q))::L) ds w K):
  Rg P r n ops ({dst:=some d,op:= .binOp .quo t x y t',type:=ty,pos,after:=af,guard:=none}::rest) L ds w K:=
 .bin hx hy hd (by simp[binOp,Op.intDiv,show q≠0 from by omega,IntWalk.i64_quo p q hb]) k
theorem Rg.zw {t t':TypeId} {κ:IntKind} {p q:Int} (hx:ev L x=some (.int κ p)) (hy:ev L y=some (.int κ q)) (hd:Nat.blt d n=true)
  (hb:0≤p∧1≤q) (k:Rg P r n ops rest ((d,.int κ (p%q))::L) ds w K):
  Rg P r n ops ({dst:=some d,op:= .binOp .rem t x y t',type:=ty,pos,after:=af,guard:=none}::rest) L ds w K:=
 .bin hx hy hd (by simp[binOp,Op.intDiv,show q≠0 from by omega,IntWalk.rem_in p q hb.1]) k
theorem Rg.neg {xt:TypeId} {p:Int} (hx:ev L x=some (.int .i64 p)) (hd:Nat.blt d n=true) (hb: -9223372036854775808≤ -p∧ -p≤9223372036854775807)
  (k:Rg P r n ops rest ((d,.int .i64 (-p))::L) ds w K):
  Rg P r n ops ({dst:=some d,op:= .unOp .neg xt x,type:=ty,pos,after:=af,guard:=none}::rest) L ds w K:=
 .op (fun _ h=>by cases h) rfl rfl hd _ w (fun ρ h=>by simp only[execOp];rw[h x _ hx];simp[Op.unary,Op.intArith,IntWalk.i64_in _ hb]) k
theorem Rg.shr {t t':TypeId} {κ κ':IntKind} {p q:Int} (hx:ev L x=some (.int κ p)) (hy:ev L y=some (.int κ' q)) (hd:Nat.blt d n=true) (hq:0≤q)
  (k:Rg P r n ops rest ((d,.int κ (p.fdiv (2^min q.toNat κ.bits)))::L) ds w K):
  Rg P r n ops ({dst:=some d,op:= .binOp .shr t x y t',type:=ty,pos,after:=af,guard:=none}::rest) L ds w K:=
 .op (fun _ h=>by cases h) rfl rfl hd _ w (fun ρ h=>by
  simp only[execOp];rw[h x _ hx,h y _ hy];simp[eqGuard,binOp,Op.shift,show¬q<0 from by omega]) k
theorem Rg.shl {t t':TypeId} {κ κ':IntKind} {p q:Int} (hx:ev L x=some (.int κ p)) (hy:ev L y=some (.int κ' q)) (hd:Nat.blt d n=true) (hq:0≤q)
  (k:Rg P r n ops rest ((d,.int κ (κ.wrap (p*2^min q.toNat κ.bits)))::L) ds w K):
  Rg P r n ops ({dst:=some d,op:= .binOp .shl t x y t',type:=ty,pos,after:=af,guard:=none}::rest) L ds w K:=
 .op (fun _ h=>by cases h) rfl rfl hd _ w (fun ρ h=>by
  simp only[execOp];rw[h x _ hx,h y _ hy];simp[eqGuard,binOp,Op.shift,show¬q<0 from by omega]) k
theorem Rg.and {t t':TypeId} {κ:IntKind} {p q:Int} (hx:ev L x=some (.int κ p)) (hy:ev L y=some (.int κ q)) (hd:Nat.blt d n=true)
  (k:Rg P r n ops rest ((d,.int κ (κ.wrap (BitVec.ofInt κ.bits p&&&BitVec.ofInt κ.bits q).toNat))::L) ds w K):
  Rg P r n ops ({dst:=some d,op:= .binOp .and t x y t',type:=ty,pos,after:=af,guard:=none}::rest) L ds w K:= .bin hx hy hd (by simp[binOp,Op.intBits]) k
theorem Rg.or {t t':TypeId} {κ:IntKind} {p q:Int} (hx:ev L x=some (.int κ p)) (hy:ev L y=some (.int κ q)) (hd:Nat.blt d n=true)
  (k:Rg P r n ops rest ((d,.int κ (κ.wrap (BitVec.ofInt κ.bits p|||BitVec.ofInt κ.bits q).toNat))::L) ds w K):
  Rg P r n ops ({dst:=some d,op:= .binOp .or t x y t',type:=ty,pos,after:=af,guard:=none}::rest) L ds w K:= .bin hx hy hd (by simp[binOp,Op.intBits]) k
theorem Rg.andNot {t t':TypeId} {κ:IntKind} {p q:Int} (hx:ev L x=some (.int κ p)) (hy:ev L y=some (.int κ q)) (hd:Nat.blt d n=true)
  (k:Rg P r n ops rest ((d,.int κ (κ.wrap (BitVec.ofInt κ.bits p&&& ~~~ BitVec.ofInt κ.bits q).toNat))::L) ds w K):
  Rg P r n ops ({dst:=some d,op:= .binOp .andNot t x y t',type:=ty,pos,after:=af,guard:=none}::rest) L ds w K:= .bin hx hy hd (by simp[binOp,Op.intBits]) k
theorem Rg.Ab {t t':TypeId} {κ:IntKind} {p q:Int} (hx:ev L x=some (.int κ p)) (hy:ev L y=some (.int κ q)) (hd:Nat.blt d n=true)
  (k:Rg P r n ops rest ((d,.bool (decide (p=q)))::L) ds w K):
  Rg P r n ops ({dst:=some d,op:= .binOp .eql t x y t',type:=ty,pos,after:=af,guard:=none}::rest) L ds w K:=
 .bin hx hy hd (by simp[binOp,Op.intCmp];rfl) k
theorem Rg.oE {t t':TypeId} {κ:IntKind} {p q:Int} (hx:ev L x=some (.int κ p)) (hy:ev L y=some (.int κ q)) (hd:Nat.blt d n=true)
  (k:Rg P r n ops rest ((d,.bool (decide (p≠q)))::L) ds w K):
  Rg P r n ops ({dst:=some d,op:= .binOp .neq t x y t',type:=ty,pos,after:=af,guard:=none}::rest) L ds w K:=
 .bin hx hy hd (by simp[binOp,Op.intCmp];by_cases h:p=q<;>simp[h]) k
theorem Rg.fX {t t':TypeId} {κ:IntKind} {p q:Int} (hx:ev L x=some (.int κ p)) (hy:ev L y=some (.int κ q)) (hd:Nat.blt d n=true)
  (k:Rg P r n ops rest ((d,.bool (decide (p<q)))::L) ds w K):
  Rg P r n ops ({dst:=some d,op:= .binOp .lss t x y t',type:=ty,pos,after:=af,guard:=none}::rest) L ds w K:= .bin hx hy hd (by simp[binOp,Op.intCmp]) k
theorem Rg.qi {t t':TypeId} {κ:IntKind} {p q:Int} (hx:ev L x=some (.int κ p)) (hy:ev L y=some (.int κ q)) (hd:Nat.blt d n=true)
  (k:Rg P r n ops rest ((d,.bool (decide (p≤q)))::L) ds w K):
  Rg P r n ops ({dst:=some d,op:= .binOp .leq t x y t',type:=ty,pos,after:=af,guard:=none}::rest) L ds w K:= .bin hx hy hd (by simp[binOp,Op.intCmp]) k
theorem Rg.ti {t t':TypeId} {κ:IntKind} {p q:Int} (hx:ev L x=some (.int κ p)) (hy:ev L y=some (.int κ q)) (hd:Nat.blt d n=true)
  (k:Rg P r n ops rest ((d,.bool (decide (q<p)))::L) ds w K):
  Rg P r n ops ({dst:=some d,op:= .binOp .gtr t x y t',type:=ty,pos,after:=af,guard:=none}::rest) L ds w K:= .bin hx hy hd (by simp[binOp,Op.intCmp]) k
theorem Rg.lx {t t':TypeId} {κ:IntKind} {p q:Int} (hx:ev L x=some (.int κ p)) (hy:ev L y=some (.int κ q)) (hd:Nat.blt d n=true)
  (k:Rg P r n ops rest ((d,.bool (decide (q≤p)))::L) ds w K):
  Rg P r n ops ({dst:=some d,op:= .binOp .geq t x y t',type:=ty,pos,after:=af,guard:=none}::rest) L ds w K:= .bin hx hy hd (by simp[binOp,Op.intCmp]) k
theorem Rg.conv {s t:TypeId} {κ κ':IntKind} {p:Int} {u:TypeDesc} (hs:P.underlying s=some u) (ht:P.underlying t=some (.int κ')) (hx:ev L x=some (.int κ p)) (hd:Nat.blt d n=true)
  (k:Rg P r n ops rest ((d,.int κ' (κ'.wrap p))::L) ds w K):
  Rg P r n ops ({dst:=some d,op:= .convert s t x,type:=ty,pos,after:=af,guard:=none}::rest) L ds w K:=
 .op (fun _ h=>by cases h) rfl rfl hd _ w (fun ρ h=>by
  simp only[execOp];rw[h x _ hx];simp[convert,run_underlying hs,run_underlying ht,Conv.intToInt]) k
theorem Rg.uL {s t:TypeId} {κ:IntKind} {p:Int} {u:TypeDesc} (hs:P.underlying s=some u) (ht:P.underlying t=some (.int .i64)) (hx:ev L x=some (.int κ p)) (hd:Nat.blt d n=true)
  (hb: -9223372036854775808≤p∧p≤9223372036854775807) (k:Rg P r n ops rest ((d,.int .i64 p)::L) ds w K):
  Rg P r n ops ({dst:=some d,op:= .convert s t x,type:=ty,pos,after:=af,guard:=none}::rest) L ds w K:=
 .conv hs ht hx hd (by rw[IntWalk.i64_in _ hb];exact k)
theorem Rg.min2 {Cw:Array TypeId} {κ κ':IntKind} {p q:Int} (hx:ev L x=some (.int κ p)) (hy:ev L y=some (.int κ' q)) (hd:Nat.blt d n=true)
  (k:Rg P r n ops rest ((d,.int κ (min p q))::L) ds w K):
  Rg P r n ops ({dst:=some d,op:= .call {callee:= .builtin .min,args:= #[x,y],argTypes:=Cw},type:=ty,pos,after:=af,guard:=none}::rest) L ds w K:=
 .op (fun _ h=>by cases h) rfl rfl hd _ w (fun ρ h=>by
  simp only[execOp,resolve,List.map_toArray,List.map_cons,List.map_nil,h x _ hx,h y _ hy];simp[invoke,builtin,Builtin.min_,Builtin.min2];rw[Int.min_def];split<;>split<;>omega) k
theorem Rg.max2 {Cw:Array TypeId} {κ κ':IntKind} {p q:Int} (hx:ev L x=some (.int κ p)) (hy:ev L y=some (.int κ' q)) (hd:Nat.blt d n=true)
  (k:Rg P r n ops rest ((d,.int κ (max p q))::L) ds w K):
  Rg P r n ops ({dst:=some d,op:= .call {callee:= .builtin .max,args:= #[x,y],argTypes:=Cw},type:=ty,pos,after:=af,guard:=none}::rest) L ds w K:=
 .op (fun _ h=>by cases h) rfl rfl hd _ w (fun ρ h=>by
  simp only[execOp,resolve,List.map_toArray,List.map_cons,List.map_nil,h x _ hx,h y _ hy];simp[invoke,builtin,Builtin.max_,Builtin.max2];rw[Int.max_def];split<;>split<;>omega) k
theorem Rg.extract {vs:Array Value} {i:Nat} {v:Value} (hx:ev L x=some (.tuple vs)) (hv:vs[i]? =some v) (hd:Nat.blt d n=true) (k:Rg P r n ops rest ((d,v)::L) ds w K):
  Rg P r n ops ({dst:=some d,op:= .extract x i,type:=ty,pos,after:=af,guard:=none}::rest) L ds w K:=
 .op (fun _ h=>by cases h) rfl rfl hd v w (fun ρ h=>by simp only[execOp];rw[h x _ hx];simp[Instr.extract,hv]) k
theorem Rg.cV {t e:TypeId} {α:Type} {A:RT α} {hn:0<A.n} {M:aD} {w1:World} {xs:List α} {v:Value} (ht:P.underlying t=some (.slice e)) (hx:ev L x=some v) (hv:(A.sl hn).V M w1 xs v) (hd:Nat.blt d n=true)
  (k:Rg P r n ops rest ((d,.int .i64 xs.length)::L) ds w K):
  Rg P r n ops ({dst:=some d,op:= .call {callee:= .builtin .len,args:= #[x],argTypes:= #[t]},type:=ty,pos,after:=af,guard:=none}::rest) L ds w K:=by
 obtain⟨a,cap,rfl,_⟩:=iB.1 hv
 exact .op (fun _ h=>by cases h) rfl rfl hd _ w (fun ρ h=>by
  simp only[execOp,resolve,List.map_toArray,List.map_cons,List.map_nil,h x _ hx];simp[invoke,builtin,Builtin.len_,run_underlying ht,goInt]) k
theorem Rg.gz {t e e':TypeId} {α:Type} {A:RT α} {M:aD} {w1:World} {base:Nat} {xs:List α} {v:Value} (ht:P.underlying t=some (.slice e)) (hx:ev L x=some v) (hv:Own A e' M w1 base v xs) (hd:Nat.blt d n=true)
  (k:Rg P r n ops rest ((d,.int .i64 xs.length)::L) ds w K):
  Rg P r n ops ({dst:=some d,op:= .call {callee:= .builtin .len,args:= #[x],argTypes:= #[t]},type:=ty,pos,after:=af,guard:=none}::rest) L ds w K:=by
 obtain⟨a,cap,rfl,_⟩:=hv.isSlice
 exact .op (fun _ h=>by cases h) rfl rfl hd _ w (fun ρ h=>by
  simp only[execOp,resolve,List.map_toArray,List.map_cons,List.map_nil,h x _ hx];simp[invoke,builtin,Builtin.len_,run_underlying ht,goInt]) k
theorem Rg.nq {t:TypeId} {s:ByteArray} (ht:P.underlying t=some .string) (hx:ev L x=some (.string s)) (hd:Nat.blt d n=true)
  (k:Rg P r n ops rest ((d,.int .i64 s.size)::L) ds w K):
  Rg P r n ops ({dst:=some d,op:= .call {callee:= .builtin .len,args:= #[x],argTypes:= #[t]},type:=ty,pos,after:=af,guard:=none}::rest) L ds w K:=
 .op (fun _ h=>by cases h) rfl rfl hd _ w (fun ρ h=>by
  simp only[execOp,resolve,List.map_toArray,List.map_cons,List.map_nil,h x _ hx];simp[invoke,builtin,Builtin.len_,run_underlying ht,goInt]) k
theorem kj (l:List UInt8):(⟨l.toArray⟩:ByteArray).toList=l:=by
 have key:∀(k i:Nat) (acc:List UInt8),i≤l.length→l.length-i=k→ByteArray.toList.loop ⟨l.toArray⟩ i acc=acc.reverse++l.drop i:=by
  intro k
  induction k with
  |zero=>
   intro i acc hi hk;unfold ByteArray.toList.loop;rw[if_neg (by simp[ByteArray.size];omega),List.drop_eq_nil_of_le (by omega)];simp
  |succ k ih=>
   intro i acc hi hk;unfold ByteArray.toList.loop;rw[if_pos (by simp[ByteArray.size];omega),ih (i+1) _ (by omega) (by omega)];have dV:i<l.length:=by omega
   rw[List.drop_eq_getElem_cons dV];simp[ByteArray.get!,getElem!_pos,dV]
 have:=key l.length 0 [] (Nat.zero_le _) (by omega);simpa[ByteArray.toList]using this
theorem Rg.cat {t t':TypeId} {p q:List UInt8} (hx:ev L x=some (.string ⟨p.toArray⟩)) (hy:ev L y=some (.string ⟨q.toArray⟩)) (hd:Nat.blt d n=true) (hb:p.length+q.length≤9223372036854775807)
  (k:Rg P r n ops rest ((d,.string ⟨(p++q).toArray⟩)::L) ds w K):
  Rg P r n ops ({dst:=some d,op:= .binOp .add t x y t',type:=ty,pos,after:=af,guard:=none}::rest) L ds w K:=by
 have e:(⟨p.toArray⟩:ByteArray)++⟨q.toArray⟩=⟨(p++q).toArray⟩:=by apply ByteArray.ext;simp
 refine .op (fun _ h=>by cases h) rfl rfl hd _ w (fun ρ h=>?_) k;simp only[execOp];rw[h x _ hx,h y _ hy];have: ¬(IntKind.max .i64<((ByteArray.size ⟨p.toArray⟩+ByteArray.size ⟨q.toArray⟩:Nat):Int)):=by simp[ByteArray.size,IntKind.max,IntKind.signed,IntKind.bits];omega
 simp[eqGuard,binOp,Op.stringOp,this,e];simp[ByteArray.size];omega
theorem Rg.Hc {t t':TypeId} {p q:List UInt8} (hx:ev L x=some (.string ⟨p.toArray⟩)) (hy:ev L y=some (.string ⟨q.toArray⟩)) (hd:Nat.blt d n=true)
  (k:Rg P r n ops rest ((d,.bool (decide (p=q)))::L) ds w K):
  Rg P r n ops ({dst:=some d,op:= .binOp .eql t x y t',type:=ty,pos,after:=af,guard:=none}::rest) L ds w K:=
 .op (fun _ h=>by cases h) rfl rfl hd _ w (fun ρ h=>by
  simp only[execOp];rw[h x _ hx,h y _ hy];simp[eqGuard,binOp,Op.stringOp,kj];by_cases h:p=q<;>simp[h]) k
theorem Rg.WZ {t t':TypeId} {p q:List UInt8} (hx:ev L x=some (.string ⟨p.toArray⟩)) (hy:ev L y=some (.string ⟨q.toArray⟩)) (hd:Nat.blt d n=true)
  (k:Rg P r n ops rest ((d,.bool (decide (p≠q)))::L) ds w K):
  Rg P r n ops ({dst:=some d,op:= .binOp .neq t x y t',type:=ty,pos,after:=af,guard:=none}::rest) L ds w K:=
 .op (fun _ h=>by cases h) rfl rfl hd _ w (fun ρ h=>by
  simp only[execOp];rw[h x _ hx,h y _ hy];simp[eqGuard,binOp,Op.stringOp,kj];by_cases h:p=q<;>simp[h]) k
def Ov (L:Sl):List Operand→Option (List Value)
 |[]=>some []
 |x::xs=>match ev L x,Ov L xs with
  |some v,some vs=>some (v::vs)
  |_,_=>none
theorem oJ {L:Sl} {ρ:Operand→Value} (h:∀x u,ev L x=some u→ρ x=u):∀{xs:List Operand} {vs:List Value},Ov L xs=some vs→xs.map ρ=vs
 |[],vs,he=>by simp only[Ov]at he;cases he;rfl
 |x::xs,vs,he=>by
  simp only[Ov]at he
  split at he
  ·rename_i v us h1 h2
   cases he;simp[h x v h1,oJ h h2]
  ·cases he
def Enters (P:Program) (f:FuncId):Prop:=∀args w,(callFunc f args).run P w= .ok (.enter f args) w
theorem enters {f:FuncId} {fn:Func} (hf:P.funcs[f]? =some fn) (hb:fn.body.isNone=false) (hn:(fn.name== "runtime.NumGoroutine")=false):Enters P f:=fun args w=>by
 unfold callFunc;simp only[Sem.run_bind,program,Sem.run,Result.andThen,hf,hn];simp[hb]
theorem Rg.call {f:FuncId} {xs:List Operand} {vs:List Value} {Cw:Array TypeId} {Q:Value→World→Prop} (jS:Ov L xs=some vs) (hd:Nat.blt d n=true) (he:Enters P f)
  (hs:Spec P f vs.toArray w Q) (k:∀v w',Q v w'→Rg P r n ops rest ((d,v)::L) ds w' K):
  Rg P r n ops ({dst:=some d,op:= .call {callee:= .value (.func f),args:=xs.toArray,argTypes:=Cw},type:=ty,pos,after:=af,guard:=none}::rest) L ds w K:=
 .E0 (w1:=w) (fun _ h=>by cases h) rfl rfl hd (fun ρ h=>by
  have h1:=oJ h jS;have h2:ρ (.func f)= .func (.func f) #[] #[]:=h _ _ rfl;simp only[execOp,resolve,List.map_toArray,h1,h2];simpa[Deferred.ofValue,invoke]using he _ _) hs k
theorem Rg.pC {f:FuncId} {first captured:List Value} {xs:List Operand} {vs:List Value} {Cw:Array TypeId} {Q:Value→World→Prop} (hx:ev L x=some (.func (.func f) first.toArray captured.toArray))
  (jS:Ov L xs=some vs) (hd:Nat.blt d n=true) (he:Enters P f)
  (hs:Spec P f (first++vs++captured).toArray w Q) (k:∀v w',Q v w'→Rg P r n ops rest ((d,v)::L) ds w' K):
  Rg P r n ops ({dst:=some d,op:= .call {callee:= .value x,args:=xs.toArray,argTypes:=Cw},type:=ty,pos,after:=af,guard:=none}::rest) L ds w K:=
 .E0 (w1:=w) (fun _ h=>by cases h) rfl rfl hd (fun ρ h=>by
  have h1:=oJ h jS;simp only[execOp,resolve,List.map_toArray,h1,h x _ hx];simpa[Deferred.ofValue,invoke]using he _ _) hs k
theorem Rg.makeFunc {f:FuncId} {xs ys:List Operand} {vs us:List Value} (jS:Ov L xs=some vs) (zx:Ov L ys=some us) (hd:Nat.blt d n=true)
  (k:Rg P r n ops rest ((d,.func (.func f) vs.toArray us.toArray)::L) ds w K):
  Rg P r n ops ({dst:=some d,op:= .makeFunc (.func f) xs.toArray ys.toArray,type:=ty,pos,after:=af,guard:=none}::rest) L ds w K:=
 .op (fun _ h=>by cases h) rfl rfl hd _ w (fun ρ h=>by
  simp only[execOp,List.map_toArray,oJ h jS,oJ h zx];simp[Instr.makeFunc]) k
end
end Go.K
namespace Go.K
def cQ {α:Type} (A:RT α) (M:aD) (w:World) (v:Value) (x:α):Prop:=∃b o vs,v= .pointer (some ⟨b,o,none⟩)∧¬M b∧A.R M w x vs∧w.rangeAt b o vs
theorem cQ.le {α:Type} {A:RT α} (hn:0<A.n) {M M':aD} {w w':World} {v:Value} {x:α} (hl:Le M w M' w') (h:cQ A M w v x):cQ A M' w' v x:=by
 obtain⟨b,o,vs,h1,h2,h3,h4⟩:=h;have hp:0<vs.length:=by rw[A.len h3];exact hn
 have hc:=h4 0 (vs[0]'hp) (List.getElem?_eq_getElem hp);exact⟨b,o,vs,h1,(hl b (World.block_lt_of_cell? w _ hc) h2).1,A.le hl h3,sr hl h2 h4⟩
structure Part {α β:Type} (A:RT α) (B:RT β) (f:α→β) (off:Nat):Prop where
 get:∀{M w x vs},A.R M w x vs→∃a b c,vs=a++b++c∧a.length=off∧B.R M w (f x) b
theorem Part.fst {α β:Type} (A:RT α) (B:RT β):Part (A.pair B) A Prod.fst 0:=⟨fun {_ _ _ _} ⟨va,vb,h0,h1,_⟩=>⟨[],va,vb,by simpa using h0,rfl,h1⟩⟩
theorem Part.snd {α β:Type} (A:RT α) (B:RT β):Part (A.pair B) B Prod.snd A.n:=⟨fun {_ _ _ _} ⟨va,vb,h0,h1,h2⟩=>⟨va,vb,[],by simpa using h0,A.len h1,h2⟩⟩
theorem Part.trans {α β γ:Type} {A:RT α} {B:RT β} {C:RT γ} {f:α→β} {g:β→γ} {i j:Nat} (h:Part A B f i) (h':Part B C g j):Part A C (g∘f) (i+j):=
 ⟨fun {_ _ _ _} hx=>by
  obtain⟨a,b,c,h1,h2,h3⟩:=h.get hx;obtain⟨a',b',c',h4,h5,h6⟩:=h'.get h3;exact⟨a++a',b',c'++c,by rw[h1,h4];simp,by rw[List.length_append,h2,h5],h6⟩⟩
theorem cQ.part {α β:Type} {A:RT α} {B:RT β} {f:α→β} {off:Nat} (hp:Part A B f off) {M:aD} {w:World} {b o:Nat} {x:α} {vs:List Value} (hm: ¬M b) (hx:A.R M w x vs) (hr:w.rangeAt b o vs):
  cQ B M w (.pointer (some ⟨b,o+off,none⟩)) (f x):=by
 obtain⟨a,c,e,h1,h2,h3⟩:=hp.get hx;refine⟨b,o+off,c,rfl,hm,h3,fun j v hv=>?_⟩;have hj:j<c.length:=(List.getElem?_eq_some_iff.1 hv).1
 have:=hr (off+j) v (by
  rw[h1,List.append_assoc,List.getElem?_append_right (by omega),h2,List.getElem?_append_left (by omega)];rw[show off+j-off=j from by omega];exact hv)
 rwa [show o+(off+j)=o+off+j from by omega]at this
def flat:TypeDesc→Bool
 |.struct _| .array _ _=>false
 |_=>true
theorem tq {P:Program} {w:World} {t:TypeId} {u:TypeDesc} (hu:P.underlying t=some u) (hf:flat u=true) {b o:Nat} {v:Value} (hc:w.cell? ⟨b,o,none⟩=some v):
  (Instr.loadAt t (.pointer (some ⟨b,o,none⟩))).run P w= .ok v w:=by
 have E2:(isAgg t).run P w= .ok false w:=by
  unfold isAgg;rw[Sem.run_bind,run_underlying hu w]
  cases u<;>simp_all [flat,Result.andThen]
 simp[Instr.loadAt,Instr.sureAddr,loadVar,E2,load,Sem.run,hc]
theorem nr {P:Program} {w:World} {t:TypeId} {z:Value} {bytes:Nat} (ht:TI P t z 1 bytes) {b o:Nat} {v:Value} (h1:v.oneCell'=true) (hc:(w.cell? ⟨b,o,none⟩).isSome=true) (hf:w.frozen? ⟨b,o,none⟩=false):
  (Instr.storeAt t (.pointer (some ⟨b,o,none⟩)) v).run P w= .ok () (w.setCell ⟨b,o,none⟩ v):=by
 obtain⟨u,hu⟩:=Option.isSome_iff_exists.1 hc;have hv:v.cells= #[v]:=by cases v<;>simp_all [Value.oneCell',Value.cells]
 simp only[Instr.storeAt,Instr.sureAddr,storeVar,Sem.run_bind,Sem.run_pure,Result.andThen_ok,ht.sizeOf,hv];simp only[List.size_toArray,List.length_cons,List.length_nil,ne_eq,not_true_eq_false,if_false,storeCells,Addr.add_mid]
 cases v<;>simp_all [store,Sem.run,Value.oneCell']
section
variable {P:Program} {r:Option Nat} {n:Nat} {L:Sl} {ds:List Deferred} {w:World} {K:Kt} {ops:Array Oper} {rest:List Oper}
variable {d:Nat} {ty:TypeId} {pos:String} {af:Array Edge} {x y z:Operand} {α:Type} {A:RT α}
theorem Rg.idx {t e:TypeId} {i:Operand} {κ:IntKind} {j:Int} {hn:0<A.n} {M M1:aD} {w1:World} {xs:List α} {v zv:Value} {bytes:Nat} (ht:P.underlying t=some (.slice e)) (hi:TI P e zv A.n bytes)
  (hx:ev L x=some v) (E3:ev L i=some (.int κ j)) (hd:Nat.blt d n=true) (hv:(A.sl hn).V M1 w1 xs v) (hle:Le M1 w1 M w) (hj:0≤j∧j<xs.length)
  (k:∀u a,xs[j.toNat]? =some a→cQ A M w u a→Rg P r n ops rest ((d,u)::L) ds w K):
  Rg P r n ops ({dst:=some d,op:= .indexAddr t x i,type:=ty,pos,after:=af,guard:=none}::rest) L ds w K:=by
 obtain⟨a,cap,rfl,hc,hl,hs⟩:=iB.1 (hv.le hle);have dV:j.toNat<xs.length:=by omega
 rcases hs with rfl|⟨b,o,rfl,hm,Cx⟩
 ·simp at dV
 ·obtain⟨vs,h1,h2⟩:=Cx _ _ (List.getElem?_eq_getElem dV);refine .op (fun _ h=>by cases h) rfl rfl hd (.pointer (some ⟨b,o+j.toNat*A.n,none⟩)) w (fun ρ h=>?_) (k _ xs[j.toNat] (List.getElem?_eq_getElem dV) ⟨b,_,vs,rfl,hm,h1,h2⟩);simp only[execOp,h x _ hx,h i _ E3];simp[Instr.indexAt,run_underlying ht,asIntOf,hj,hi.sizeOf,Addr.add_mid]
theorem Rg.load {t:TypeId} {u:TypeDesc} {M M1:aD} {w1:World} {p:Value} {a:α} (hu:P.underlying t=some u) (hf:flat u=true) (hA:A.n=1) (hg:A.agg=false)
  (hx:ev L x=some p) (hd:Nat.blt d n=true) (hp:cQ A M1 w1 p a) (hle:Le M1 w1 M w) (k:∀v,A.V M w a v→Rg P r n ops rest ((d,v)::L) ds w K):
  Rg P r n ops ({dst:=some d,op:= .load t x,type:=ty,pos,after:=af,guard:=none}::rest) L ds w K:=by
 obtain⟨b,o,vs,rfl,hm,h1,h2⟩:=hp.le (by omega) hle;have hl:=A.len h1
 match vs,hl with
 |[v],_=>
  refine .op (fun _ h=>by cases h) rfl rfl hd v w (fun ρ h=>?_) (k v ⟨[v],h1,by simp[RT.val,hg]⟩);simp only[execOp,h x _ hx];have:=tq (P:=P) hu hf (h2 0 v rfl);simp only[Nat.add_zero]at this;rw[Sem.run_bind,this];simp
 |[],hl=>simp at hl;omega
 |_::_::_,hl=>simp at hl;omega
theorem Rg.OP {t:TypeId} {κ:IntKind} {M1:aD} {w1:World} {p:Value} {a:Int} (hu:P.underlying t=some (.int κ)) (hx:ev L x=some p) (hd:Nat.blt d n=true) {M:aD} (hp:cQ (RT.int κ) M1 w1 p a)
  (hle:Le M1 w1 M w) (k:κ.min≤a→a≤κ.max→Rg P r n ops rest ((d,.int κ a)::L) ds w K):
  Rg P r n ops ({dst:=some d,op:= .load t x,type:=ty,pos,after:=af,guard:=none}::rest) L ds w K:=
 .load hu rfl rfl rfl hx hd hp hle fun v hv=>by obtain⟨rfl,h1,h2⟩:=xz.1 hv;exact k h1 h2
theorem k8 {hn:0<A.n} {M:aD} {w:World} {xs:List α} {v:Value} (h:(A.sl hn).V M w xs v):v.cells= #[v]:=by
 obtain⟨a,cap,rfl,_⟩:=iB.1 h;rfl
theorem fY {M:aD} {w:World} {x:Int} (h: -9223372036854775808≤x∧x≤9223372036854775807):(RT.int .i64).V M w x (.int .i64 x):=xz.2 ⟨rfl,h.1,h.2⟩
theorem Rg.cO {t:TypeId} {M1:aD} {w1:World} {p:Value} {a:Int} (hu:P.underlying t=some (.int .i64)) (hx:ev L x=some p) (hd:Nat.blt d n=true) {M:aD} (hp:cQ (RT.int .i64) M1 w1 p a)
  (hle:Le M1 w1 M w) (k: -9223372036854775808≤a∧a≤9223372036854775807→Rg P r n ops rest ((d,.int .i64 a)::L) ds w K):
  Rg P r n ops ({dst:=some d,op:= .load t x,type:=ty,pos,after:=af,guard:=none}::rest) L ds w K:=
 .OP hu hx hd hp hle fun h1 h2=>k ⟨h1,h2⟩
theorem A5 {hn:0<(RT.int .i64).n} {M:aD} {w:World} {xs:List Int} {v:Value} (h:((RT.int .i64).sl hn).V M w xs v) {i:Nat} {x:Int} (hx:xs[i]? =some x): -9223372036854775808≤x∧x≤9223372036854775807:=by
 obtain⟨a,cap,_,_,_,hs⟩:=iB.1 h;rcases hs with rfl|⟨b,o,_,_,Cx⟩
 ·simp at hx
 ·obtain⟨vs,h1,_⟩:=Cx i x hx;exact⟨h1.2.1,h1.2.2⟩
theorem Rg.SK {t:TypeId} {M1:aD} {w1:World} {p:Value} {a:UInt8} (hu:P.underlying t=some (.int .u8)) (hx:ev L x=some p) (hd:Nat.blt d n=true) {M:aD} (hp:cQ RT.u8 M1 w1 p a)
  (hle:Le M1 w1 M w) (k:Rg P r n ops rest ((d,.int .u8 a.toNat)::L) ds w K):
  Rg P r n ops ({dst:=some d,op:= .load t x,type:=ty,pos,after:=af,guard:=none}::rest) L ds w K:=
 .load hu rfl rfl rfl hx hd hp hle fun v hv=>by rw[SI.1 hv];exact k
theorem Rg.dF {t:TypeId} {fs:TypeDesc} {zv:Value} {bytes:Nat} {M M1:aD} {w1:World} {p:Value} {a:α} (hu:P.underlying t=some fs) (hf:fs.isRow=true) (hi:TI P t zv A.n bytes) (hA:0<A.n) (hg:A.agg=true)
  (hx:ev L x=some p) (hd:Nat.blt d n=true) (hp:cQ A M1 w1 p a) (hle:Le M1 w1 M w) (k:∀v,A.V M w a v→Rg P r n ops rest ((d,v)::L) ds w K):
  Rg P r n ops ({dst:=some d,op:= .load t x,type:=ty,pos,after:=af,guard:=none}::rest) L ds w K:=by
 obtain⟨b,o,vs,rfl,hm,h1,h2⟩:=hp.le hA hle;refine .op (fun _ h=>by cases h) rfl rfl hd (.agg vs.toArray) w (fun ρ h=>?_) (k _ ⟨vs,h1,by simp[RT.val,hg]⟩);simp only[execOp,h x _ hx];obtain⟨i,zm,_,Ac,_⟩:=hi.get;have:=run_loadAt_mid (P:=P) w b o t vs fs h2 hu hf (by simp[zm,Ac,A.len h1]);simp[this]
theorem Rg.fieldAddr {β:Type} {B:RT β} {f:α→β} {off:Nat} {s:TypeId} {fs:Array Field} {fd:Field} {j:Nat} {zv:Value} {bytes:Nat} {M M1:aD} {w1:World} {p:Value} {a:α}
  (hu:P.underlying s=some (.struct fs)) (QV:fs[j]? =some fd) (ho:fd.offset=off) (hi:TI P fd.type zv B.n bytes) (hB:0<B.n) (hp:Part A B f off)
  (hx:ev L x=some p) (hd:Nat.blt d n=true) (hA:0<A.n) (SL:cQ A M1 w1 p a) (hle:Le M1 w1 M w) (k:∀u,cQ B M w u (f a)→Rg P r n ops rest ((d,u)::L) ds w K):
  Rg P r n ops ({dst:=some d,op:= .fieldAddr s x j,type:=ty,pos,after:=af,guard:=none}::rest) L ds w K:=by
 obtain⟨b,o,vs,rfl,hm,h1,h2⟩:=SL.le hA hle;refine .op (fun _ h=>by cases h) rfl rfl hd _ w (fun ρ h=>?_) (k _ (cQ.part hp hm h1 h2));simp only[execOp,h x _ hx];simp[Instr.fieldAt,run_underlying hu,QV,Instr.sureAddr,fieldPlace,hi.sizeOf,show B.n≠0 from by omega,ho,Addr.add_mid]
theorem uK.slice {M:aD} {w:World} {a:Option Addr} {xs:List α} (lo hi cap m:Nat) (h1:lo≤hi) (h2:hi≤xs.length) (hm:hi≤m) (hs:uK A M w a xs):
  uK A M w (if m=lo then a else a.map (·.add (lo*A.n))) ((xs.take hi).drop lo):=by
 by_cases qj:m=lo
 ·left;apply List.drop_eq_nil_of_le;rw[List.length_take];omega
 ·rw[if_neg qj];rcases hs with rfl|⟨b,o,rfl,h3,h4⟩
  ·left;simp
  ·right;refine⟨b,o+lo*A.n,by simp[Addr.add_mid],h3,fun i x hx=>?_⟩;rw[List.getElem?_drop,List.getElem?_take]at hx
   split at hx
   ·obtain⟨vs,h5,h6⟩:=h4 _ _ hx;refine⟨vs,h5,?_⟩;rw[show o+lo*A.n+i*A.n=o+(lo+i)*A.n from by rw[Nat.add_mul];omega];exact h6
   ·cases hx
theorem iV {t e:TypeId} (ht:P.underlying t=some (.slice e)):P.underlying t=some (.slice (P.elem t)):=by simp[Program.elem,ht]
theorem oK {t e:TypeId} (ht:P.underlying t=some (.slice e)):P.elem t=e:=by simp[Program.elem,ht]
theorem Rg.Kd {t e:TypeId} {l h:Operand} {κ κ':IntKind} {lo hi:Int} {hn:0<A.n} {M:aD} {w1:World} {xs:List α} {v zv:Value} {bytes:Nat} (ht:P.underlying t=some (.slice e)) (A6:TI P e zv A.n bytes)
  (hx:ev L x=some v) (hl:ev L l=some (.int κ lo)) (hh:ev L h=some (.int κ' hi)) (hd:Nat.blt d n=true) (hv:(A.sl hn).V M w1 xs v) (hb:0≤lo∧lo≤hi∧hi≤xs.length)
  (k:∀u,(A.sl hn).V M w1 ((xs.take hi.toNat).drop lo.toNat) u→Rg P r n ops rest ((d,u)::L) ds w K):
  Rg P r n ops ({dst:=some d,op:= .slice t x (some l) (some h) none,type:=ty,pos,after:=af,guard:=none}::rest) L ds w K:=by
 obtain⟨a,cap,rfl,hc,hlen,hs⟩:=iB.1 hv;have xA:((xs.take hi.toNat).drop lo.toNat).length=hi.toNat-lo.toNat:=by rw[List.length_drop,List.length_take];omega
 refine .op (fun _ h=>by cases h) rfl rfl hd (sliced a lo.toNat hi.toNat cap A.n) w (fun ρ hρ=>?_) (k _ (iB.2 ⟨_,cap-lo.toNat,?_,by omega,by omega,hs.slice lo.toNat hi.toNat cap cap (by omega) (by omega) (by omega)⟩))
 ·simp only[execOp,hρ x _ hx,Option.map_some,Option.map_none,hρ l _ hl,hρ h _ hh];rw[Sem.run_bind,run_sliceAt_slice _ _ _ _ _ _ (iV ht),run_slice_lh _ _ _ _ _ (iV ht) _ _ _ _ hb.1 hb.2.1 (by omega),oK ht,A6.sizeOf];simp
 ·rw[xA];rfl
theorem Rg.OQ {t e:TypeId} {h:Operand} {κ':IntKind} {hi:Int} {hn:0<A.n} {M:aD} {w1:World} {xs:List α} {v zv:Value} {bytes:Nat} (ht:P.underlying t=some (.slice e)) (A6:TI P e zv A.n bytes)
  (hx:ev L x=some v) (hh:ev L h=some (.int κ' hi)) (hd:Nat.blt d n=true) (hv:(A.sl hn).V M w1 xs v) (hb:0≤hi∧hi≤xs.length)
  (k:∀u,(A.sl hn).V M w1 (xs.take hi.toNat) u→Rg P r n ops rest ((d,u)::L) ds w K):
  Rg P r n ops ({dst:=some d,op:= .slice t x none (some h) none,type:=ty,pos,after:=af,guard:=none}::rest) L ds w K:=by
 obtain⟨a,cap,rfl,hc,hlen,hs⟩:=iB.1 hv;have xA:(xs.take hi.toNat).length=hi.toNat:=by rw[List.length_take];omega
 have E4:=hs.slice (A:=A) 0 hi.toNat cap cap (by omega) (by omega) (by omega);rw[List.drop_zero]at E4;refine .op (fun _ h=>by cases h) rfl rfl hd (sliced a 0 hi.toNat cap A.n) w (fun ρ hρ=>?_) (k _ (iB.2 ⟨_,cap,?_,by omega,by omega,E4⟩))
 ·simp only[execOp,hρ x _ hx,Option.map_some,Option.map_none,hρ h _ hh];rw[Sem.run_bind,run_sliceAt_slice _ _ _ _ _ _ (iV ht),run_slice_h _ _ _ _ _ (iV ht) _ _ hb.1 (by omega),oK ht,A6.sizeOf];simp
 ·rw[xA];simp[sliced]
theorem Rg.OR {t e:TypeId} {l:Operand} {κ:IntKind} {lo:Int} {hn:0<A.n} {M:aD} {w1:World} {xs:List α} {v zv:Value} {bytes:Nat} (ht:P.underlying t=some (.slice e)) (A6:TI P e zv A.n bytes)
  (hx:ev L x=some v) (hl:ev L l=some (.int κ lo)) (hd:Nat.blt d n=true) (hv:(A.sl hn).V M w1 xs v) (hb:0≤lo∧lo≤xs.length)
  (k:∀u,(A.sl hn).V M w1 (xs.drop lo.toNat) u→Rg P r n ops rest ((d,u)::L) ds w K):
  Rg P r n ops ({dst:=some d,op:= .slice t x (some l) none none,type:=ty,pos,after:=af,guard:=none}::rest) L ds w K:=by
 obtain⟨a,cap,rfl,hc,hlen,hs⟩:=iB.1 hv;have xA:(xs.drop lo.toNat).length=xs.length-lo.toNat:=by rw[List.length_drop]
 have E4:=hs.slice (A:=A) lo.toNat xs.length cap cap (by omega) (by omega) (by omega);rw[List.take_length]at E4;refine .op (fun _ h=>by cases h) rfl rfl hd (sliced a lo.toNat xs.length cap A.n) w (fun ρ hρ=>?_) (k _ (iB.2 ⟨_,cap-lo.toNat,?_,by omega,by omega,E4⟩))
 ·simp only[execOp,hρ x _ hx,Option.map_some,Option.map_none,hρ l _ hl];rw[Sem.run_bind,run_sliceAt_slice _ _ _ _ _ _ (iV ht),run_slice_l _ _ _ _ _ (iV ht) _ _ hb.1 (by omega),oK ht,A6.sizeOf];simp
 ·rw[xA];rfl
theorem Rg.E5 {t e:TypeId} {h m:Operand} {κ κ':IntKind} {hi mx:Int} {hn:0<A.n} {M:aD} {w1:World} {xs:List α} {v zv:Value} {bytes:Nat} (ht:P.underlying t=some (.slice e)) (A6:TI P e zv A.n bytes)
  (hx:ev L x=some v) (hh:ev L h=some (.int κ hi)) (hm:ev L m=some (.int κ' mx)) (hd:Nat.blt d n=true) (hv:(A.sl hn).V M w1 xs v) (hb:hi=xs.length∧mx=xs.length)
  (k:∀a,(A.sl hn).V M w1 xs (.slice a xs.length xs.length)→(a=none→xs=[])→Rg P r n ops rest ((d,.slice a xs.length xs.length)::L) ds w K):
  Rg P r n ops ({dst:=some d,op:= .slice t x none (some h) (some m),type:=ty,pos,after:=af,guard:=none}::rest) L ds w K:=by
 obtain⟨a,cap,rfl,hc,hlen,hs⟩:=iB.1 hv;obtain⟨rfl,rfl⟩:=hb;refine .op (fun _ h=>by cases h) rfl rfl hd (.slice a xs.length xs.length) w (fun ρ hρ=>?_) (k a (iB.2 ⟨_,xs.length,rfl,Nat.le_refl _,hlen,hs⟩) ?_)
 ·simp only[execOp,hρ x _ hx,Option.map_some,Option.map_none,hρ h _ hh,hρ m _ hm];rw[Sem.run_bind,run_sliceAt_slice _ _ _ _ _ _ (iV ht),run_slice_hm _ _ _ _ _ (iV ht) _ _ _ _ (by omega) (by omega) (by omega),oK ht,A6.sizeOf];simp only[Result.andThen_ok,sliced,Int.toNat_natCast,Nat.zero_mul,Nat.sub_zero,Sem.run_pure];by_cases h0:xs.length=0
  ·simp[h0]
  ·rw[if_neg h0];rcases hs with rfl|⟨b,o,rfl,_⟩
   ·simp at h0
   ·simp[Addr.add_mid]
 ·rintro rfl;rcases hs with h|⟨b,o,h,_⟩
  ·exact h
  ·cases h
theorem cr (w:World) (o:Obj):(w.alloc o).heap[w.heap.size]? =some o:=heap_alloc_new w o
theorem Rg.box {e:TypeId} {v:Value} (M:aD) (hx:ev L x=some v) (hd:Nat.blt d n=true)
  (k:∀b w',w.heap.size≤b→b<w'.heap.size→w'.heap[b]? =some (.cells v.cells e (0,0))→Step M w (ins M b) w' aC→Rg P r n ops rest ((d,.pointer (some ⟨b,0,none⟩))::L) ds w' K):
  Rg P r n ops ({dst:=some d,op:= .box e x,type:=ty,pos,after:=af,guard:=none}::rest) L ds w K:=by
 refine .op (fun _ h=>by cases h) rfl rfl hd _ (w.alloc (.cells v.cells e)) (fun ρ hρ=>?_) (k w.heap.size _ (Nat.le_refl _) (by simp) (cr w _) ((dm M w _).own (Nat.le_refl _) (by simp)));simp only[execOp,hρ x _ hx];simp[Instr.box,newVar,newRow,newObj,Sem.run]
theorem Rg.alloc {e:TypeId} {zv:Value} {size bytes:Nat} (M:aD) (hi:TI P e zv size bytes) (hd:Nat.blt d n=true)
  (k:∀b w',w.heap.size≤b→b<w'.heap.size→w'.heap[b]? =some (.cells zv.cells e (0,0))→Step M w (ins M b) w' aC→Rg P r n ops rest ((d,.pointer (some ⟨b,0,none⟩))::L) ds w' K):
  Rg P r n ops ({dst:=some d,op:= .alloc e,type:=ty,pos,after:=af,guard:=none}::rest) L ds w K:=by
 obtain⟨i,h1,h2,h3,h4⟩:=hi.get;refine .op (fun _ h=>by cases h) rfl rfl hd _ (w.alloc (.cells zv.cells e)) (fun ρ hρ=>?_) (k w.heap.size _ (Nat.le_refl _) (by simp) (cr w _) ((dm M w _).own (Nat.le_refl _) (by simp)));simp only[execOp];simp[Instr.alloc,zeroValue,typeInfo,h1,h2,newVar,newRow,newObj,Sem.run]
theorem fM {b o:Nat} {cs:Array Value} {e:TypeId} {fr:Nat×Nat} {v:Value} (hb:w.heap[b]? =some (.cells cs e fr)) (hv:cs[o]? =some v):w.cell? ⟨b,o,none⟩=some v:=by
 simp[World.cell?,hb,hv]
theorem Rg.bO {t:TypeId} {u:TypeDesc} {b o:Nat} {cs:Array Value} {e:TypeId} {fr:Nat×Nat} {v:Value} (hu:P.underlying t=some u) (hf:flat u=true) (hx:ev L x=some (.pointer (some ⟨b,o,none⟩))) (hd:Nat.blt d n=true)
  (hb:w.heap[b]? =some (.cells cs e fr)) (hv:cs[o]? =some v) (k:Rg P r n ops rest ((d,v)::L) ds w K):
  Rg P r n ops ({dst:=some d,op:= .load t x,type:=ty,pos,after:=af,guard:=none}::rest) L ds w K:=
 .op (fun _ h=>by cases h) rfl rfl hd v w (fun ρ hρ=>by
  simp only[execOp,hρ x _ hx];rw[Sem.run_bind,tq (P:=P) hu hf (fM hb hv)];simp) k
theorem xB {b o:Nat} {cs:Array Value} {e:TypeId} {fr:Nat×Nat} {v:Value} (hb:w.heap[b]? =some (.cells cs e fr)):(w.setCell ⟨b,o,none⟩ v).heap[b]? =some (.cells (cs.setIfInBounds o v) e fr):=by
 simp[World.setCell,Array.getElem?_modify,hb]
theorem tu (M:aD) {b o:Nat} {v:Value} (hm:M b):Step M w M (w.setCell ⟨b,o,none⟩ v) (fun k=>k=b):=
 ⟨fun h b hb=>by simpa[World.setCell]using h b hb,rfl,rfl,rfl,by simp[World.setCell],fun _ _=>Iff.rfl,fun k _ hn=>Go.RowKit.Below.heap_setCell w _ v k hn,fun k hk=>by subst hk;exact hm⟩
theorem Rg.dA {t:TypeId} {zv:Value} {bytes:Nat} {b o:Nat} {cs:Array Value} {e:TypeId} {u v:Value} {M:aD} (hi:TI P t zv 1 bytes) (hx:ev L x=some (.pointer (some ⟨b,o,none⟩))) (hy:ev L y=some v)
  (hb:w.heap[b]? =some (.cells cs e (0,0))) (hv:cs[o]? =some u) (h1:v.oneCell'=true) (hm:M b)
  (k:∀w',w'.heap[b]? =some (.cells (cs.setIfInBounds o v) e (0,0))→Step M w M w' (fun k=>k=b)→Rg P r n ops rest L ds w' K):
  Rg P r n ops ({dst:=none,op:= .store t x y,type:=ty,pos,after:=af,guard:=none}::rest) L ds w K:=by
 refine .QU (fun _ h=>by cases h) rfl rfl (w.setCell ⟨b,o,none⟩ v) (fun ρ hρ=>?_) (k _ (xB hb) (tu M hm));simp only[execOp,hρ x _ hx,hρ y _ hy];have:=nr (P:=P) hi (w:=w) (b:=b) (o:=o) h1 (by rw[fM hb hv];rfl) (by simp[World.frozen?,hb]);simp[this]
theorem Cy (size:Nat) (zs vs:Array Value) (v:Value) (hz:zs.size=size) (hv:v.cells=vs) (hs:vs.size=size):Instr.fill (fun i=>some (i*size,size)) zs [(0,v)]=some vs:=by
 simp only[Instr.fill,hv,hs,Nat.zero_mul,Nat.zero_add,hz];simp only[ne_eq,not_true_eq_false,decide_false,Bool.false_or,Nat.lt_irrefl,decide_false,gt_iff_lt,if_false,Bool.false_eq_true];congr 1
 have key:∀(l:List Value) (k:Nat) (cs:Array Value),k+l.length=cs.size→∀j:Nat,((l.zipIdx k).foldl (fun(cs:Array Value) (x:Value×Nat)=>cs.setIfInBounds x.2 x.1) cs)[j]? =if j<k then cs[j]? else l[j-k]? :=by
  intro l
  induction l with
  |nil=>
   intro k cs hk j;simp at hk ⊢;intro h;omega
  |cons a l ih=>
   intro k cs hk j;simp only[List.zipIdx_cons,List.foldl_cons];rw[ih (k+1) _ (by simp at hk ⊢;omega) j];rw[Array.getElem?_setIfInBounds];simp at hk;by_cases h1:j<k
   ·rw[if_pos (by omega),if_pos h1,if_neg (by omega)]
   ·by_cases h2:j=k
    ·subst h2;rw[if_pos (by omega),if_pos rfl,if_neg h1];simp;omega
    ·rw[if_neg (by omega),if_neg h1,show j-k=(j-(k+1))+1 from by omega];simp
 apply Array.ext_getElem?;intro j;have:=key vs.toList 0 zs (by simp[hs,hz]) j;simp only[Nat.not_lt_zero,if_false,Nat.sub_zero,Array.getElem?_toList]at this;rw[←this];rw[←Array.foldl_toList];simp[Array.toList_zipIdx]
theorem Rg.lO {t e:TypeId} {zv v:Value} {bytes:Nat} {hn:0<A.n} {M:aD} {a:α} (ht:P.underlying t=some (.slice e)) (hi:TI P e zv A.n bytes) (A7:A.n≤1000) (hx:ev L x=some v) (hd:Nat.blt d n=true) (hm:Lt M w)
  (hv:A.V M w a v) (Cj:A.agg=true∨A.n=1∧A.agg=false) (k:∀u w',(A.sl hn).V M w' [a] u→Step M w M w' aC→Rg P r n ops rest ((d,u)::L) ds w' K):
  Rg P r n ops ({dst:=some d,op:= .buildSlice t 1 #[(0,x)],type:=ty,pos,after:=af,guard:=none}::rest) L ds w K:=by
 obtain⟨vs,h1,h2⟩:=hv;have hl:=A.len h1;have su:=A.one h1
 have hc:v.cells=vs.toArray:=by
  subst h2;rcases Cj with hg|⟨h3,hg⟩
  ·simp[RT.val,hg,Value.cells]
  ·match vs,hl,h3 with
   |[u],_,_=>
    have:=su u (by simp);simp only[RT.val,hg,List.headD_cons]
    cases u<;>simp_all [Value.cells,Value.oneCell']
   |[],hl,h3=>simp at hl;omega
   |_::_::_,hl,h3=>simp at hl;omega
 obtain⟨i,zm,Ac,hi3,W0⟩:=hi.get;have hs:=dm M w (.cells vs.toArray e)
 refine .op (fun _ h=>by cases h) rfl rfl hd (.slice (some ⟨w.heap.size,0,none⟩) 1 1) (w.alloc (.cells vs.toArray e)) (fun ρ hρ=>?_)
  (k _ _ (iB.2 ⟨_,1,rfl,Nat.le_refl _,by simp,.inr ⟨w.heap.size,0,rfl,fun h=>by have:=hm _ h;omega,fun i x hx=>?_⟩⟩) hs)
 ·simp only[execOp,List.map_toArray,List.map_cons,List.map_nil,hρ x _ hx];simp only[Instr.buildSlice,Sem.run_bind,run_underlying ht,Result.andThen_ok,hi.sizeOf,Nat.one_mul];rw[if_neg (by omega),if_neg (by omega)];simp only[Sem.run_bind,zeroValue,typeInfo,program,Sem.run,zm,Ac,Result.andThen_ok,Sem.run_pure];rw[Cy A.n _ vs.toArray v (by simp) hc (by simpa using hl)];simp[newRow,newObj,Sem.run]
 ·cases i with
  |zero=>
   simp at hx;subst hx;refine⟨vs,A.le hs.le h1,fun j u hu=>?_⟩;exact fM (cr w _) (by simpa using hu)
  |succ i=>simp at hx
theorem Ad (size:Nat) (zs:Array Value) (i:Nat) (v:Value) (vs:List Value) (rest:List (Nat×Value)) (hv:v.cells=vs.toArray) (hs:vs.length=size) (hz:i*size+size≤zs.size):
  ∃OS,Instr.fill (fun i=>some (i*size,size)) zs ((i,v)::rest)=Instr.fill (fun i=>some (i*size,size)) OS rest∧OS.size=zs.size∧
   ∀j,OS[j]? =if i*size≤j∧j<i*size+size then vs[j-i*size]? else zs[j]? :=by
 have key:∀(l:List Value) (k o:Nat) (cs:Array Value),o+k+l.length≤cs.size→((l.zipIdx k).foldl (fun(cs:Array Value) (x:Value×Nat)=>cs.setIfInBounds (o+x.2) x.1) cs).size=cs.size∧
   ∀j:Nat,((l.zipIdx k).foldl (fun(cs:Array Value) (x:Value×Nat)=>cs.setIfInBounds (o+x.2) x.1) cs)[j]? =if o+k≤j∧j<o+k+l.length then l[j-(o+k)]? else cs[j]? :=by
  intro l
  induction l with
  |nil=>
   intro k o cs hk;refine⟨rfl,fun j=>?_⟩;simp;intro h1 h2;omega
  |cons a l ih=>
   intro k o cs hk;simp only[List.zipIdx_cons,List.foldl_cons];simp only[List.length_cons]at hk;obtain⟨h1,h2⟩:=ih (k+1) o (cs.setIfInBounds (o+k) a) (by simp;omega);refine⟨by rw[h1];simp,fun j=>?_⟩;rw[h2 j,Array.getElem?_setIfInBounds,List.length_cons];by_cases h3:o+(k+1)≤j∧j<o+(k+1)+l.length
   ·rw[if_pos h3,if_pos (by omega),show j-(o+k)=(j-(o+(k+1)))+1 from by omega];simp
   ·rw[if_neg h3];by_cases h4:o+k=j
    ·subst h4;rw[if_pos rfl,if_pos (by omega),if_pos (by omega)];simp
    ·rw[if_neg h4,if_neg (by omega)]
 obtain⟨k1,k2⟩:=key vs 0 (i*size) zs (by omega);refine⟨_,?_,k1,fun j=>?_⟩
 ·conv=>lhs;rw[Instr.fill]
  simp only[hv,hs];simp[hs,show¬(zs.size<i*size+size) by omega]
 ·rw[k2 j,Nat.add_zero,hs]
def SM {α:Type} (A:RT α) (M:aD) (w:World) (L:List (Nat×Value)):Nat→List (Nat×Operand)→List α→Prop
 |_,[],xs=>xs=[]
 |i,p::ps,xs=>∃a aa v,xs=a::aa∧p.1=i∧ev L p.2=some v∧A.V M w a v∧SM A M w L (i+1) ps aa
theorem Ke {α:Type} {A:RT α} {M:aD} {w:World} {a:α} {vs:List Value} (h1:A.R M w a vs) (Cj:A.agg=true∨A.n=1∧A.agg=false):(A.val vs).cells=vs.toArray:=by
 have hl:=A.len h1;have su:=A.one h1;rcases Cj with hg|⟨h3,hg⟩
 ·simp[RT.val,hg,Value.cells]
 ·match vs,hl,h3 with
  |[u],_,_=>
   have:=su u (by simp);simp only[RT.val,hg,List.headD_cons]
   cases u<;>simp_all [Value.cells,Value.oneCell']
  |[],hl,h3=>simp at hl;omega
  |_::_::_,hl,h3=>simp at hl;omega
theorem Cz {α:Type} {A:RT α} {M:aD} {w:World} {L:List (Nat×Value)} (Cj:A.agg=true∨A.n=1∧A.agg=false):∀(ps:List (Nat×Operand)) (i:Nat) (xs:List α) (zs:Array Value),
  SM A M w L i ps xs→zs.size=(i+xs.length)*A.n→
  ∃(gO:List (Nat×Value)) (C:List Value) (OS:Array Value),(∀ρ:Operand→Value,(∀x v,ev L x=some v→ρ x=v)→ps.map (fun p=>(p.1,ρ p.2))=gO)∧dZ A M w xs C∧Instr.fill (fun i=>some (i*A.n,A.n)) zs gO=some OS∧OS.size=zs.size∧
   ∀j,OS[j]? =if i*A.n≤j then C[j-i*A.n]? else zs[j]?
 |[],i,xs,zs,hp,hz=>by
  cases hp;refine⟨[],[],zs,fun ρ _=>rfl,rfl,rfl,rfl,fun j=>?_⟩
  split
  ·simp at hz ⊢;omega
  ·rfl
 |p::ps,i,xs,zs,hp,hz=>by
  obtain⟨a,aa,v,rfl,hpi,JQ,hv,hr⟩:=hp;obtain⟨vs,h1,h2⟩:=hv;have hc:=Ke h1 Cj;rw[←h2]at hc;have hl:=A.len h1;have hmul:(i+(a::aa).length)*A.n=i*A.n+A.n+aa.length*A.n:=by rw[List.length_cons,Nat.add_mul,Nat.add_mul];omega
  obtain⟨z1,e1,e2,e3⟩:=Ad A.n zs i v vs (ps.map fun _=>(0,undef)) hc hl (by rw[hz,hmul];omega);obtain⟨gO,C,z2,f1,f2,f3,f4,f5⟩:=Cz Cj ps (i+1) aa z1 hr (by rw[e2,hz,List.length_cons,show i+1+aa.length=i+(aa.length+1)from by omega]);obtain⟨z1',e1',e2',e3'⟩:=Ad A.n zs i v vs gO hc hl (by rw[hz,hmul];omega);have hzz:z1=z1':=Array.ext_getElem? fun j=>by rw[e3 j,e3' j]
  subst hzz;refine⟨(i,v)::gO,vs++C,z2,fun ρ hρ=>by rw[List.map_cons,f1 ρ hρ,hpi,hρ _ _ JQ],⟨vs,C,rfl,h1,f2⟩,by rw[e1',f3],by rw[f4,e2],fun j=>?_⟩;rw[f5 j,e3 j,Nat.add_mul,Nat.one_mul];by_cases h3:i*A.n+A.n≤j
  ·rw[if_pos h3,if_pos (by omega),List.getElem?_append_right (by omega),hl,show j-i*A.n-A.n=j-(i*A.n+A.n)from by omega]
  ·rw[if_neg h3];by_cases h4:i*A.n≤j
   ·rw[if_pos (by omega),if_pos h4,List.getElem?_append_left (by omega)]
   ·rw[if_neg (by omega),if_neg h4]
theorem Rg.Wr {t e:TypeId} {zv:Value} {bytes nn:Nat} {ps:Array (Nat×Operand)} {hn:0<A.n} {M:aD} {xs:List α} (ht:P.underlying t=some (.slice e)) (hi:TI P e zv A.n bytes) (hz:zv.cells.size=A.n) (A7:nn*A.n≤16777216) (Ws:nn=xs.length) (jT:SM A M w L 0 ps.toList xs) (hd:Nat.blt d n=true) (hm:Lt M w)
  (Cj:A.agg=true∨A.n=1∧A.agg=false) (hnz:0<nn) (k:∀u w',(A.sl hn).V M w' xs u→Step M w M w' aC→Rg P r n ops rest ((d,u)::L) ds w' K):
  Rg P r n ops ({dst:=some d,op:= .buildSlice t nn ps,type:=ty,pos,after:=af,guard:=none}::rest) L ds w K:=by
 subst Ws;obtain⟨i,zm,Ac,hi3,W0⟩:=hi.get;obtain⟨gO,C,OS,f1,f2,f3,f4,f5⟩:=Cz Cj ps.toList 0 xs (Array.map (fun x=>zv.cells[x%zv.cells.size]!) (Array.range (xs.length*A.n))) jT (by simp);have hzC:OS=C.toArray:=Array.ext_getElem? fun j=>by rw[f5 j,Nat.zero_mul,if_pos (Nat.zero_le _),Nat.sub_zero];simp
 subst hzC;have hs:=dm M w (.cells C.toArray e);have tp:0<xs.length*A.n:=Nat.mul_pos hnz hn;have hlen:xs.length≤16777216:=Nat.le_trans (by have:=Nat.mul_le_mul_left xs.length hn;omega) A7
 refine .op (fun _ h=>by cases h) rfl rfl hd (.slice (some ⟨w.heap.size,0,none⟩) xs.length xs.length) (w.alloc (.cells C.toArray e)) (fun ρ hρ=>?_)
  (k _ _ (iB.2 ⟨_,_,rfl,Nat.le_refl _,by omega,.inr ⟨w.heap.size,0,rfl,fun h=>by have:=hm _ h;omega,fun i x hx=>?_⟩⟩) hs)
 ·have hmp:(ps.map fun(i,x)=>(i,ρ x)).toList=gO:=by rw[Array.toList_map];exact f1 ρ hρ
  simp only[execOp];simp only[Instr.buildSlice,Sem.run_bind,run_underlying ht,Result.andThen_ok,hi.sizeOf];rw[if_neg (by omega),if_neg (by omega)];simp only[Sem.run_bind,zeroValue,typeInfo,program,Sem.run,zm,Ac,Result.andThen_ok,Sem.run_pure];rw[hmp,f3];simp[newRow,newObj,Sem.run]
 ·obtain⟨us,h1,h2⟩:=(f2.le hs.le).at_ i x hx;exact⟨us,h1,fun j u hu=>by rw[Nat.zero_add];exact fM (cr w _) (by simpa using h2 j u hu)⟩
def jv (M:aD) (v:Value):aD:=fun k=>v.ownBlock=some k∨M k
def fK (v:Value):aD:=fun k=>v.ownBlock=some k
theorem xi {M:aD} {w':World} {v':Value} (hs:w.heap.size≤w'.heap.size) (hv:∀b,v'.ownBlock=some b→b<w'.heap.size) (h:Lt M w):Lt (jv M v') w':=fun b hb=>by
 rcases hb with hb|hb
 ·exact hv b hb
 ·exact Nat.lt_of_lt_of_le (h b hb) hs
theorem E6 {M:aD} {w':World} {v v':Value} (hg:w.grownBy w' v.ownBlock) (hm:∀b,v.ownBlock=some b→M b) (hv:∀b,v'.ownBlock=some b→w.heap.size≤b∨v.ownBlock=some b) (dV:∀b,v'.ownBlock=some b→b<w'.heap.size):
  Step M w (jv M v') w' (fK v):=
 ⟨xi hg.size dV,hg.os,hg.tape,hg.output,hg.size,fun b hb=>⟨fun h=>by
  rcases h with h|h
  ·rcases hv b h with h2|h2
   ·omega
   ·exact hm b h2
  ·exact h,fun h=> .inr h⟩,fun b hb hn=>hg.block b hb (fun h=>hn h.symm),fun b hb=>hm b hb⟩
theorem pD {t ty e:TypeId} {zv:Value} {size bytes:Nat} (ht:P.underlying t=some (.slice e)) (hi:TI P e zv size bytes) (a:Option Addr) (l cap c:Nat) (b:Option Addr) (hl:l≤cap):
  (Builtin.append_ #[t,t] ty #[.slice a l cap,.slice b 0 c]).run P w= .ok (.slice a l cap) w:=by
 obtain⟨i,h1,h2,h3,h4⟩:=hi.get
 cases a<;>cases b<;>simp[Builtin.append_,run_underlying ht,sizeOf,typeInfo,h1,Builtin.lenOf,hl,Builtin.firstCells,loadCells,loadCellsFrom,storeCells]
theorem Own.iq {t ty e:TypeId} {zv:Value} {bytes:Nat} {hn:0<A.n} {M M2:aD} {base:Nat} {v u:Value} {xs ys:List α} (ht:P.underlying t=some (.slice e)) (hi:TI P e zv A.n bytes) (hz:zv.cells.size=A.n)
  (h:Own A e M w base v xs) (hle:Le M2 w M w) (hu:(A.sl hn).V M2 w ys u) (hlen:xs.length+ys.length≤140737488355328) (hb:(xs.length+ys.length)*bytes≤140737488355328) (lf:base≤w.heap.size):
  ∃v' w',(Builtin.append_ #[t,t] ty #[v,u]).run P w= .ok v' w'∧Own A e (jv M v') w' base v' (xs++ys)∧Step M w (jv M v') w' (fK v)∧(∀b,v'.ownBlock=some b→w.heap.size≤b∨v.ownBlock=some b):=by
 obtain⟨a,c,rfl,hc,hl,hs⟩:=iB.1 hu;obtain⟨i,h1,h2,h3,h4⟩:=hi.get;have Kf:xs.length+ys.length≤maxLen:=by unfold maxLen;omega
 rcases hs with rfl|⟨b,o,rfl,hmb,Cx⟩
 ·obtain⟨a',cap,rfl,W2⟩:=h.isSlice;refine⟨_,w,pD ht hi a' xs.length cap c a W2,?_,?_,fun b hb=> .inr hb⟩
  ·rw[List.append_nil];obtain⟨⟨C,hr,ha⟩,hm⟩:=h;have hs:Step M w (jv M (.slice a' xs.length cap)) w aC:=⟨xi (Nat.le_refl _) (fun b hb=>(hr.lt b hb).2),rfl,rfl,rfl,Nat.le_refl _,fun b _=>⟨fun h=>h.elim (hm b) id,fun h=> .inr h⟩,fun _ _ _=>rfl,fun _ h=>h.elim⟩;exact⟨⟨C,hr,ha.le hs.le⟩,fun b hb=> .inl hb⟩
  ·exact⟨xi (Nat.le_refl _) (fun b hb=>(h.base b hb).2),rfl,rfl,rfl,Nat.le_refl _,fun b _=>⟨fun h'=>h'.elim (h.mut_ b) id,fun h=> .inr h⟩,fun _ _ _=>rfl,fun b hb=>h.mut_ b hb⟩
 ·obtain⟨D,hD,hDr⟩:=uK.all Cx;have QW:=hD.length;have Ae:∀j u,D[j]? =some u→w.cell? ((⟨b,o,none⟩:Addr).add j)=some u:=fun j u hj=>by rw[Addr.add_mid];exact hDr j u hj
  have hD1:=hD.one;obtain⟨⟨C,hr,ha⟩,hm⟩:=h;have hr':=hr;obtain⟨SN,nH⟩:=hr'
  have fin:∀v' w',w'.ownsRow base e A.n v' (xs.length+ys.length) (C++D)→w.grownBy w' v.ownBlock→(∀b,v'.ownBlock=some b→w.heap.size≤b∨v.ownBlock=some b)→
    Own A e (jv M v') w' base v' (xs++ys)∧Step M w (jv M v') w' (fK v):=by
   intro v' w' ho hg rD;have kF:=E6 (M:=M) hg hm rD (fun b hb=>(ho.lt b hb).2);refine⟨⟨⟨C++D,by rw[List.length_append];exact ho,?_⟩,fun b hb=> .inl hb⟩,kF⟩;exact dZ.append (hD.le (hle.trans kF.le)) (ha.le kF.le)
  rcases nH with⟨rfl,hx0⟩|⟨g,cap,cur,rfl,SO,hg,hnc,hcm,hcs,W3⟩
  ·have hx:xs=[]:=List.eq_nil_of_length_eq_zero hx0;subst hx;have hC:C=[]:=List.eq_nil_of_length_eq_zero (by simpa using SN);subst hC
   obtain⟨v',w',gN,ho,xC,_⟩:=run_append_own (P:=P) w w.heap.size t ty e i zv A.n bytes ht h1 h2 h3 h4 hz hn (.slice none 0 0) 0 [] (World.ownsRow_nil w _ e A.n) ⟨b,o,none⟩ ys.length c D QW Ae hD1
    (by simpa using Kf) (by simpa using hb) (Nat.le_refl _)
   obtain⟨q1,q2⟩:=fin v' w' (by
    obtain⟨p1,p2⟩:=ho;refine⟨by simpa using p1,p2.imp (fun h=>by simpa using h) ?_⟩;rintro⟨g,cap,cur,p3,p4,p5⟩;exact⟨g,cap,cur,by simpa using p3,Nat.le_trans lf p4,by simpa using p5⟩) xC (fun k hk=> .inl (ho.lt k hk).1)
   exact⟨v',w',gN,q1,q2,fun k hk=> .inl (ho.lt k hk).1⟩
  ·by_cases Kg:xs.length+ys.length≤cap
   ·have acp:xs.length*A.n+D.length≤cur.size:=by rw[QW,hcs,←Nat.add_mul];exact Nat.mul_le_mul_right _ Kg
    have gN:=run_append_room (P:=P) w t ty e i ht h1 g xs.length cap cur hg ⟨b,o,none⟩ ys.length c D (by rw[QW,←h3]) Ae hD1 Kg (by rw[h3];exact acp);rw[h3]at gN;have hCD:(C++D).length=(xs.length+ys.length)*A.n:=by rw[List.length_append,SN,QW,Nat.add_mul]
    obtain⟨OT,SP⟩:∃c,c=(cur.toList.take (xs.length*A.n)++D++cur.toList.drop (xs.length*A.n+D.length)).toArray:=⟨_,rfl⟩;rw[←SP]at gN
    have e1:OT.size=cap*A.n:=by
     rw[SP];simp only[List.size_toArray,List.length_append,List.length_take,List.length_drop,Array.length_toList];omega
    have e2:OT.toList.take ((xs.length+ys.length)*A.n)=C++D:=by
     rw[SP];simp only[W3];rw[←hCD];exact List.take_left
    obtain⟨q1,q2⟩:=fin (.slice (some ⟨g,0,none⟩) (xs.length+ys.length) cap) (w.setRow g OT)
     ⟨hCD,.inr ⟨g,cap,OT,rfl,SO,setRow_heap w g cur _ e _ hg,Kg,hcm,e1,e2⟩⟩
     ⟨rfl,rfl,rfl,by simp,fun k _ hk=>setRow_other w g k _ (fun e=>hk (by simp[Value.ownBlock,e]))⟩ (fun k hk=> .inr hk)
    exact⟨_,_,gN,q1,q2,fun k hk=> .inr hk⟩
   ·have holds:∀j u,C[j]? =some u→w.cell? ((⟨g,0,none⟩:Addr).add j)=some u:=hr.cells (g:=g) rfl;obtain⟨v',w',gN,ho,xC⟩:=run_append_arg_grows (P:=P) w t ty e i zv A.n bytes ht h1 h2 h3 h4 hz hn ⟨g,0,none⟩ xs.length cap C SN holds ⟨b,o,none⟩ ys.length c D QW Ae (by omega) Kf hb
    obtain⟨q1,q2⟩:=fin v' w' ⟨ho.1,ho.2.imp id (fun⟨g',xD,W4,p3,p4,p5⟩=>⟨g',xD,W4,p3,Nat.le_trans lf p4,p5⟩)⟩
     ⟨xC.os,xC.tape,xC.output,xC.size,fun k hk _=>xC.block k hk (by simp)⟩ (fun k hk=> .inl (ho.lt k hk).1)
    exact⟨v',w',gN,q1,q2,fun k hk=> .inl (ho.lt k hk).1⟩
theorem Own.append {t ty e:TypeId} {zv:Value} {bytes:Nat} {hn:0<A.n} {M M2:aD} {base:Nat} {v u:Value} {xs ys:List α} (ht:P.underlying t=some (.slice e)) (hi:TI P e zv A.n bytes) (hz:zv.cells.size=A.n)
  (h:Own A e M w base v xs) (hle:Le M2 w M w) (hu:(A.sl hn).V M2 w ys u) (hlen:xs.length+ys.length≤140737488355328) (hb:(xs.length+ys.length)*bytes≤140737488355328) (lf:base≤w.heap.size):
  ∃v' w',(Builtin.append_ #[t,t] ty #[v,u]).run P w= .ok v' w'∧Own A e (jv M v') w' base v' (xs++ys)∧Step M w (jv M v') w' (fK v):=by
 obtain⟨v',w',h1,h2,h3,_⟩:=Own.iq (ty:=ty) ht hi hz h hle hu hlen hb lf;exact⟨v',w',h1,h2,h3⟩
theorem Rg.iq {t e:TypeId} {zv:Value} {bytes:Nat} {hn:0<A.n} {M M2:aD} {w2:World} {base:Nat} {v u:Value} {xs ys:List α} (ht:P.underlying t=some (.slice e)) (hi:TI P e zv A.n bytes) (hz:zv.cells.size=A.n)
  (hx:ev L x=some v) (hy:ev L y=some u) (hd:Nat.blt d n=true) (h:Own A e M w base v xs) (hu:(A.sl hn).V M2 w2 ys u) (hle:Le M2 w2 M w) (hlen:xs.length+ys.length≤140737488355328)
  (hb:(xs.length+ys.length)*bytes≤140737488355328) (lf:base≤w.heap.size)
  (k:∀v' w',Own A e (jv M v') w' base v' (xs++ys)→Step M w (jv M v') w' (fK v)→(∀b,v'.ownBlock=some b→w.heap.size≤b∨v.ownBlock=some b)→Rg P r n ops rest ((d,v')::L) ds w' K):
  Rg P r n ops ({dst:=some d,op:= .call {callee:= .builtin .append,args:= #[x,y],argTypes:= #[t,t]},type:=ty,pos,after:=af,guard:=none}::rest) L ds w K:=by
 obtain⟨v',w',gN,h1,h2,h3⟩:=Own.iq (ty:=ty) ht hi hz h (Le.refl M w) (hu.le hle) hlen hb lf;refine .op (fun _ h=>by cases h) rfl rfl hd v' w' (fun ρ hρ=>?_) (k v' w' h1 h2 h3);simp only[execOp,resolve,List.map_toArray,List.map_cons,List.map_nil,hρ x _ hx,hρ y _ hy];simp[invoke,builtin,gN]
def ie (v u:Value):Prop:=∀b,v.ownBlock=some b→u.ownBlock≠some b
theorem ie.symm {v u:Value} (h:ie v u):ie u v:=fun b h1 h2=>h b h2 h1
theorem ie.nil (v:Value):ie v (.slice none 0 0):=fun b _ h=>by cases h
theorem ie.grown {v v' u:Value} (h:ie v u) (hF:∀b,v'.ownBlock=some b→w.heap.size≤b∨v.ownBlock=some b) (hu:∀b,u.ownBlock=some b→b<w.heap.size):ie v' u:=fun b h1 h2=>by
 rcases hF b h1 with h3|h3
 ·have:=hu b h2;omega
 ·exact h b h3 h2
theorem Rg.append {t e:TypeId} {zv:Value} {bytes:Nat} {hn:0<A.n} {M M2:aD} {w2:World} {base:Nat} {v u:Value} {xs ys:List α} (ht:P.underlying t=some (.slice e)) (hi:TI P e zv A.n bytes) (hz:zv.cells.size=A.n)
  (hx:ev L x=some v) (hy:ev L y=some u) (hd:Nat.blt d n=true) (h:Own A e M w base v xs) (hu:(A.sl hn).V M2 w2 ys u) (hle:Le M2 w2 M w) (hlen:xs.length+ys.length≤140737488355328)
  (hb:(xs.length+ys.length)*bytes≤140737488355328) (lf:base≤w.heap.size)
  (k:∀v' M' w',Own A e M' w' base v' (xs++ys)→Step M w M' w' (fK v)→Rg P r n ops rest ((d,v')::L) ds w' K):
  Rg P r n ops ({dst:=some d,op:= .call {callee:= .builtin .append,args:= #[x,y],argTypes:= #[t,t]},type:=ty,pos,after:=af,guard:=none}::rest) L ds w K:=by
 obtain⟨v',w',gN,h1,h2⟩:=Own.append (ty:=ty) ht hi hz h (Le.refl M w) (hu.le hle) hlen hb lf;refine .op (fun _ h=>by cases h) rfl rfl hd v' w' (fun ρ hρ=>?_) (k v' _ w' h1 h2);simp only[execOp,resolve,List.map_toArray,List.map_cons,List.map_nil,hρ x _ hx,hρ y _ hy];simp[invoke,builtin,gN]
theorem Rg.xE {t e:TypeId} {zv:Value} {bytes:Nat} {hn:0<A.n} {M M2:aD} {w2:World} {a:Option Addr} {u:Value} {xs ys:List α} (ht:P.underlying t=some (.slice e)) (hi:TI P e zv A.n bytes) (hz:zv.cells.size=A.n)
  (hx:ev L x=some (.slice a xs.length xs.length)) (hy:ev L y=some u) (hd:Nat.blt d n=true) (h:(A.sl hn).V M w xs (.slice a xs.length xs.length)) (ql:a=none→xs=[]) (hu:(A.sl hn).V M2 w2 ys u) (hle:Le M2 w2 M w)
  (eQ:0<ys.length) (hlen:xs.length+ys.length≤140737488355328) (hb:(xs.length+ys.length)*bytes≤140737488355328)
  (k:∀v' M' w',Own A e M' w' w.heap.size v' (xs++ys)→Step M w M' w' aC→Rg P r n ops rest ((d,v')::L) ds w' K):
  Rg P r n ops ({dst:=some d,op:= .call {callee:= .builtin .append,args:= #[x,y],argTypes:= #[t,t]},type:=ty,pos,after:=af,guard:=none}::rest) L ds w K:=by
 obtain⟨a2,c,rfl,hc,hl,hs⟩:=iB.1 (hu.le hle);obtain⟨i,h1,h2,h3,h4⟩:=hi.get;have Kf:xs.length+ys.length≤maxLen:=by unfold maxLen;omega
 rcases hs with rfl|⟨b,o,rfl,hmb,Cx⟩
 ·simp at eQ
 obtain⟨D,hD,hDr⟩:=uK.all Cx;have QW:=hD.length;have Ae:∀j u,D[j]? =some u→w.cell? ((⟨b,o,none⟩:Addr).add j)=some u:=fun j u hj=>by rw[Addr.add_mid];exact hDr j u hj
 have hD1:=hD.one
 have hold:∃C,dZ A M w xs C∧∃v' w',(Builtin.append_ #[t,t] ty #[.slice a xs.length xs.length,.slice (some ⟨b,o,none⟩) ys.length c]).run P w= .ok v' w'∧w'.ownsRow w.heap.size e A.n v' (xs.length+ys.length) (C++D)∧w.grownBy w' none:=by
  cases a with
  |none=>
   have:=ql rfl;subst this
   obtain⟨v',w',gN,ho,xC,_⟩:=run_append_own (P:=P) w w.heap.size t ty e i zv A.n bytes ht h1 h2 h3 h4 hz hn (.slice none 0 0) 0 [] (World.ownsRow_nil w _ e A.n) ⟨b,o,none⟩ ys.length c D QW Ae hD1
    (by simpa using Kf) (by simpa using hb) (Nat.le_refl _)
   exact⟨[],rfl,v',w',gN,by simpa using ho,⟨xC.os,xC.tape,xC.output,xC.size,fun k hk _=>xC.block k hk (by simp[Value.ownBlock])⟩⟩
  |some p=>
   obtain⟨_,_,he,_,_,hs1⟩:=iB.1 h
   cases he
   have hC:∃C,dZ A M w xs C∧∀j u,C[j]? =some u→w.cell? (p.add j)=some u:=by
    rcases hs1 with rfl|⟨b1,o1,h5,Wt,acr⟩
    ·exact⟨[],rfl,fun j u hj=>by simp at hj⟩
    ·cases h5;obtain⟨C,hC,W5⟩:=uK.all acr;exact⟨C,hC,fun j u hj=>by rw[Addr.add_mid];exact W5 j u hj⟩
   obtain⟨C,hC,W5⟩:=hC;obtain⟨v',w',gN,ho,xC⟩:=run_append_arg_grows (P:=P) w t ty e i zv A.n bytes ht h1 h2 h3 h4 hz hn p xs.length xs.length C hC.length W5 ⟨b,o,none⟩ ys.length c D QW Ae (by omega) Kf hb;exact⟨C,hC,v',w',gN,ho,xC⟩
 obtain⟨C,hC,v',w',gN,ho,xC⟩:=hold
 have kF:Step M w (jv M v') w' aC:=⟨xi xC.size (fun b hb=>(ho.lt b hb).2),xC.os,xC.tape,xC.output,xC.size,fun k hk=>⟨fun h=>by
   rcases h with h|h
   ·have:=(ho.lt k h).1;omega
   ·exact h,fun h=> .inr h⟩,fun k hk _=>xC.block k hk (by simp),fun _ h=>h.elim⟩
 refine .op (fun _ h=>by cases h) rfl rfl hd v' w' (fun ρ hρ=>?_) (k v' _ w' ⟨⟨C++D,by rw[List.length_append];exact ho,dZ.append (hD.le kF.le) (hC.le kF.le)⟩,fun b hb=> .inl hb⟩ kF);simp only[execOp,resolve,List.map_toArray,List.map_cons,List.map_nil,hρ x _ hx,hρ y _ hy];simp[invoke,builtin,gN]
def lP (M:aD) (base:Nat):aD:=fun k=>base≤k∧M k
theorem Step.l7 {M0 M M' N:aD} {w0 w w':World} {base:Nat} (h:Step M0 w0 M w N) (h':Step M w M' w' (lP M base)) (hb:w0.heap.size≤base):Step M0 w0 M' w' N:=
 h.trans h' fun b h1 h2=>absurd h2.1 (by omega)
theorem Step.dg {e:TypeId} {M0 M M1 M' N:aD} {w0 w w1 w':World} {base:Nat} {v:Value} {xs:List α} (h:Step M0 w0 M w N) (h':Step M w M' w' (fK v)) (ho:Own A e M1 w1 base v xs) (hb:w0.heap.size≤base):Step M0 w0 M' w' N:=
 h.trans h' fun b h1 h2=>absurd (ho.base b h2).1 (by omega)
theorem Step.cj {M0 M M' N N':aD} {w0 w w':World} (h:Step M0 w0 M w N) (h':Step M w M' w' N') (hb:∀b,N' b→w0.heap.size≤b):Step M0 w0 M' w' N:=
 h.trans h' fun b h1 h2=>absurd (hb b h2) (by omega)
def Grow {α:Type} (A:RT α) (hn:0<A.n) (e:TypeId) (M:aD) (w:World) (base:Nat) (v:Value) (xs:List α):Prop:=
 Own A e M w base v xs∨∃a,v= .slice a xs.length xs.length∧(a=none→xs=[])∧(A.sl hn).V M w xs v
theorem Grow.le {hn:0<A.n} {e:TypeId} {M M':aD} {w':World} {base:Nat} {v:Value} {xs:List α} (h:Grow A hn e M w base v xs) (s:Step M w M' w' aC):Grow A hn e M' w' base v xs:=
 h.imp (·.aL s) fun⟨a,h1,h2,h3⟩=>⟨a,h1,h2,h3.le s.le⟩
theorem Rg.He {t e:TypeId} {zv:Value} {bytes:Nat} {hn:0<A.n} {M M2:aD} {w2:World} {base:Nat} {v u:Value} {xs ys:List α} (ht:P.underlying t=some (.slice e)) (hi:TI P e zv A.n bytes) (hz:zv.cells.size=A.n)
  (hx:ev L x=some v) (hy:ev L y=some u) (hd:Nat.blt d n=true) (h:Grow A hn e M w base v xs) (hu:(A.sl hn).V M2 w2 ys u) (hle:Le M2 w2 M w) (eQ:0<ys.length) (hlen:xs.length+ys.length≤140737488355328)
  (hb:(xs.length+ys.length)*bytes≤140737488355328) (lf:base≤w.heap.size)
  (k:∀v' M' w',Own A e M' w' base v' (xs++ys)→Step M w M' w' (lP M base)→Rg P r n ops rest ((d,v')::L) ds w' K):
  Rg P r n ops ({dst:=some d,op:= .call {callee:= .builtin .append,args:= #[x,y],argTypes:= #[t,t]},type:=ty,pos,after:=af,guard:=none}::rest) L ds w K:=by
 rcases h with h|⟨a,rfl,ql,h⟩
 ·exact .append ht hi hz hx hy hd h hu hle hlen hb lf fun v' M' w' h1 h2=>k v' M' w' h1 (h2.cH (fun b hb=>⟨(h.base b hb).1,h.mut_ b hb⟩) fun b hb=>hb.2)
 ·refine .xE ht hi hz hx hy hd h ql hu hle eQ hlen hb fun v' M' w' h1 h2=>k v' M' w' ?_ (h2.cH (fun b hb=>hb.elim) fun b hb=>hb.2)
  obtain⟨⟨C,hr,ha⟩,hm⟩:=h1;exact⟨⟨C,⟨hr.1,hr.2.imp id fun⟨g,cap,cur,p3,p4,p5⟩=>⟨g,cap,cur,p3,Nat.le_trans lf p4,p5⟩⟩,ha⟩,hm⟩
def rm (M:aD) (v:Value):aD:=fun k=>M k∧v.ownBlock≠some k
theorem eK (M:aD) (v:Value) (w:World):Le M w (rm M v) w:=fun _ _ h=>⟨fun h2=>h h2.1,rfl⟩
theorem Own.view {hn:0<A.n} {e:TypeId} {M:aD} {base:Nat} {v:Value} {xs:List α} (h:Own A e M w base v xs) (hlen:xs.length≤140737488355328):(A.sl hn).V (rm M v) w xs v:=
 h.sl (eK M v w) (fun _ hb h2=>h2.2 hb) hlen
theorem Lt.rm {M:aD} {w:World} (h:Lt M w) (v:Value):Lt (rm M v) w:=fun b hb=>h b hb.1
theorem Step.freeze {M0 M N:aD} {w0 w:World} (h:Step M0 w0 M w N) {v:Value} (hv:∀b,v.ownBlock=some b→w0.heap.size≤b):Step M0 w0 (rm M v) w N:=
 ⟨fun h0=>(h.lt h0).rm v,h.os,h.tape,h.output,h.size,fun b hb=>⟨fun h1=>(h.mem b hb).1 h1.1,fun h1=>⟨(h.mem b hb).2 h1,fun h2=>by have:=hv b h2;omega⟩⟩,h.same,h.sub⟩
theorem Own.oL {e:TypeId} {M:aD} {base Hf:Nat} {v:Value} {xs:List α} (h:Own A e M w base v xs) (hb:Hf≤base):Own A e M w Hf v xs:=by
 obtain⟨⟨C,hr,ha⟩,hm⟩:=h;exact⟨⟨C,⟨hr.1,hr.2.imp id fun⟨g,cap,cur,p3,p4,p5⟩=>⟨g,cap,cur,p3,Nat.le_trans hb p4,p5⟩⟩,ha⟩,hm⟩
theorem Af {M:aD} {w:World}:∀{xs:List UInt8} {C:List Value},dZ RT.u8 M w xs C→C=xs.map fun b=> .int .u8 (b.toNat:Int)
 |[],_,h=>h
 |x::xs,_,⟨vs,rest,h1,h2,h3⟩=>by
  have xj:vs=[.int .u8 x.toNat]:=h2;subst h1;rw[xj,Af h3];rfl
theorem Rg.b2s {s t e:TypeId} {hn:0<RT.u8.n} {M:aD} {xs:List UInt8} {v:Value} (hs:P.underlying s=some (.slice e)) (he:P.underlying e=some (.int .u8)) (ht:P.underlying t=some .string) (hx:ev L x=some v) (hd:Nat.blt d n=true)
  {M1:aD} {w1:World} (hv:(RT.u8.sl hn).V M1 w1 xs v) (hle:Le M1 w1 M w) (k:Rg P r n ops rest ((d,.string ⟨xs.toArray⟩)::L) ds w K):
  Rg P r n ops ({dst:=some d,op:= .convert s t x,type:=ty,pos,after:=af,guard:=none}::rest) L ds w K:=by
 obtain⟨a,cap,rfl,hc,hl,mQ⟩:=iB.1 (hv.le hle);refine .op (fun _ h=>by cases h) rfl rfl hd _ w (fun ρ hρ=>?_) k;simp only[execOp,hρ x _ hx];rw[Sem.run_bind,run_convert_bytes_string (P:=P) w s t e a xs.length cap hs he ht]
 cases a with
 |none=>
  rcases mQ with rfl|⟨b,o,h,_⟩
  ·simp[Conv.bytesToString];rfl
  ·cases h
 |some p=>
  have W6:(loadCells p xs.length).run P w= .ok ((xs.map fun b=>(b.toNat:Int)).map (Value.int .u8)).toArray w:=by
   rcases mQ with rfl|⟨b,o,h,hm,Cx⟩
   ·simp[loadCells,loadCellsFrom]
   ·cases h;obtain⟨C,hC,W5⟩:=uK.all Cx;have hCe:=Af hC;have:=run_loadCells_list (P:=P) w ⟨b,o,none⟩ C (fun j u hj=>by rw[Addr.add_mid];exact W5 j u hj);rw[hC.length,show xs.length*RT.u8.n=xs.length from Nat.mul_one _]at this;rw[this,hCe];simp
  rw[run_bytesToString (P:=P) w p xs.length cap _ W6]
  have key:∀(l:List UInt8) (acc:ByteArray),(l.map fun b=>(b.toNat:Int)).foldl (fun r n=>r.push (UInt8.ofNat n.toNat)) acc=⟨acc.data++l.toArray⟩:=by
   intro l
   induction l with
   |nil=>intro acc;simp
   |cons b l ih=>
    intro acc;simp only[List.map_cons,List.foldl_cons,ih];congr 1;simp[ByteArray.push]
  simp[key]
end
end Go.K
namespace Go.K
open Go.ChangeShapes Go.WideShapes Go.ChangeAt Go.RowKit
def ig {α:Type} (P:Program) (t:TypeId) (A:RT α):Prop:=
 ∀{H:Type} {enc:TypeId×Value→H} {w:World} {base fuel:Nat} {spare:Nat→Bool} {cs:List Value} {d:DataW H} {ps:List MemPlace},
  DataW.trod enc P w base spare true fuel t cs=some (d,ps)→(∀n∈DataW.weights P t d,n≤reachBytes)→∃x,A.R aC w x cs
theorem ig.int {P:Program} {t:TypeId} {k:IntKind} (ht:P.underlying t=some (.int k)):ig P t (RT.int k):=by
 intro H enc w base fuel spare cs d ps h hw
 cases fuel with
 |zero=>simp[DataW.trod]at h
 |succ n=>
  unfold DataW.trod at h;rw[ht]at h
  split at h<;>simp_all
  obtain⟨⟨h1,h2⟩,_⟩:=h;simp only[Lit.wf,Bool.and_eq_true,decide_eq_true_eq]at h2;exact⟨_,rfl,h2.1,h2.2⟩
theorem ig.str {P:Program} {t:TypeId} (ht:P.underlying t=some .string):ig P t RT.str:=by
 intro H enc w base fuel spare cs d ps h hw
 cases fuel with
 |zero=>simp[DataW.trod]at h
 |succ n=>
  unfold DataW.trod at h;rw[ht]at h
  split at h<;>simp_all
  rename_i s
  obtain⟨h1,h2,h3⟩:=h;subst h2;have:=hw s.data.toList.length (by simp[DataW.weights]);have hr:reachBytes≤140737488355328:=by decide
  refine⟨s.data.toList,?_,Nat.le_trans this hr⟩;simp
theorem SQ (a:Addr) (i:Nat) (h:a.spot=none):a.add i=⟨a.block,a.off+i,none⟩:=by
 unfold Addr.add
 split
 ·next h0=>subst h0;cases a;simp_all
 ·rfl
theorem ig.sl {P:Program} {t e:TypeId} {α:Type} {A:RT α} {hn:0<A.n} (ht:P.underlying t=some (.slice e)) {nb:Nat} (hc:P.cellsOf e=A.n) (hbn:P.bytesOf e=nb) (hnb:nb≠0) (hA:ig P e A):ig P t (A.sl hn):=by
 have SR:P.bytesOf e≠0:=by rw[hbn];exact hnb
 intro H enc w base fuel spare cs d ps h hw;rcases DataW.trod_slice ht h with⟨h1,h2⟩|⟨a,len,cap,elems,rest,n,_,rfl,hx,hb,hl,hm,hlen,Cx,SU,hns⟩
 ·exact⟨[],none,0,by rw[h1];rfl,Nat.le_refl _,Nat.zero_le _,.inl rfl⟩
 ·injection hx with hd jT
  have CA:DataW.weights P t d=(elems.length+rest.length)*P.bytesOf e::(DataW.weightsAll P e (elems.map (·.1))++DataW.weightsAll P e (rest.map (·.1))):=by
   rw[hd];simp[DataW.weights,ht]
  have h1:(elems.length+rest.length)*P.bytesOf e≤reachBytes:=hw _ (by rw[CA];exact List.mem_cons_self ..)
  have h2:elems.length≤140737488355328:=by
   have hr:reachBytes≤140737488355328:=by decide
   have:=Nat.le_mul_of_pos_right (elems.length+rest.length) (Nat.pos_of_ne_zero SR);omega
  have il:∀y∈elems,∀n∈DataW.weights P e y.1,n≤reachBytes:=fun y hy n hn=>by
   refine hw n ?_;rw[CA];refine List.mem_cons_of_mem _ (List.mem_append_left _ ?_);clear CA hw h1 h2 SU hns Cx hlen hd h jT
   induction elems with
   |nil=>cases hy
   |cons z zs ih=>
    simp only[List.map_cons,DataW.weightsAll,List.mem_append];rcases List.mem_cons.1 hy with rfl|hy
    ·exact .inl hn
    ·exact .inr (ih hy)
  have hex:∀i,i<len→∃x vs,A.R aC w x vs∧∀j:Nat,j<A.n→w.cell? (a.add (i*A.n+j))=vs[j]? :=fun i hi=>by
   have h3:=Cx i hi;rw[List.getElem?_eq_getElem (by omega),Option.bind_eq_some_iff]at h3;obtain⟨vs,h4,h5⟩:=h3;obtain⟨x,h6⟩:=hA (d:=elems[i].1) (ps:=elems[i].2) h5 (il _ (List.getElem_mem ..));obtain⟨_,h7,h8⟩:=World.cells?_some h4;rw[hc]at h8 h7;refine⟨x,vs,h6,fun j hj=>?_⟩;rw[←h8 j hj];unfold Addr.add;by_cases W7:j=0
   ·subst W7;simp
   ·by_cases hi0:i*A.n=0
    ·simp[hi0,W7]
    ·rw[if_neg (by omega),if_neg hi0,if_neg W7];simp[Nat.add_assoc]
  rcases Nat.eq_zero_or_pos len with h0|tp
  ·subst h0;exact⟨[],some a,cap,rfl,Nat.zero_le _,Nat.zero_le _,.inl rfl⟩
  ·obtain⟨x0,v0,hx0,hc0⟩:=hex 0 tp;have Ow:0<v0.length:=by rw[A.len hx0];exact hn
   have hs:=hc0 0 hn;rw[List.getElem?_eq_getElem Ow,Nat.zero_mul,Nat.zero_add]at hs
   have W8:a.spot=none:=by
    unfold Addr.add at hs;rw[if_pos rfl]at hs;unfold World.cell? at hs
    cases hh:a.spot with
    |none=>rfl
    |some s=>rw[hh]at hs;split at hs<;>simp_all
   let f:Nat→α:=fun i=>if h:i<len then(hex i h).choose else x0
   have hf:∀i,i<len→∃vs,A.R aC w (f i) vs∧∀j:Nat,j<A.n→w.cell? (a.add (i*A.n+j))=vs[j]? :=fun i hi=>by
    have:f i=(hex i hi).choose:=dif_pos hi;rw[this];exact(hex i hi).choose_spec
   refine⟨(List.range len).map f,some a,cap,by simp,by simpa using hl,by simp;omega,.inr ⟨a.block,a.off,by cases a;simp_all,fun h=>h.elim,fun i x E3=>?_⟩⟩;have hi:i<len:=by have:=(List.getElem?_eq_some_iff.1 E3).1;simpa using this
   obtain⟨vs,h3,h4⟩:=hf i hi;have hxe:x=f i:=by simp[hi]at E3;exact E3.symm
   subst hxe;refine⟨vs,h3,fun j v hj=>?_⟩;have wU:j<A.n:=by rw[←A.len h3];exact(List.getElem?_eq_some_iff.1 hj).1
   rw[←hj,←h4 j wU,SQ _ _ W8,Nat.add_assoc]
theorem ig.pair {P:Program} {t:TypeId} {fs:Array Field} {f0 f1:Field} {α β:Type} {A:RT α} {B:RT β} (ht:P.underlying t=some (.struct fs)) (hf0:fs[0]? =some f0) (hf1:fs[1]? =some f1) (hfs:fs.size=2) (h0:f0.offset=0) (h1:f1.offset=A.n)
  (c0:P.cellsOf f0.type=A.n) (c1:P.cellsOf f1.type=B.n) (ct:P.cellsOf t=A.n+B.n) (hA:ig P f0.type A) (hB:ig P f1.type B):ig P t (A.pair B):=by
 intro H enc w base fuel spare cs d ps h hw;obtain⟨xs,n,_,hx,hl,hlen,hf⟩:=DataW.trod_struct ht h;injection hx with hd jT
 have qd:xs.length=2:=by omega
 match xs,qd with
 |[y0,y1],_=>
  have g0:=hf 0 f0 hf0;have g1:=hf 1 f1 hf1;rw[h0,c0]at g0;rw[h1,c1]at g1
  have hty:fs.toList.map (fun x=>x.type)=[f0.type,f1.type]:=by
   have Ox:fs.toList.length=2:=by simpa using hfs
   match ES:fs.toList,Ox with
   |[a,b],_=>
    have e0:fs.toList[0]? =some f0:=by simpa using hf0
    have e1:fs.toList[1]? =some f1:=by simpa using hf1
    rw[ES]at e0 e1;simp at e0 e1;simp[e0,e1]
  have CA:DataW.weights P t d=DataW.weightsEach P [f0.type,f1.type] [y0.1,y1.1]:=by
   rw[hd];simp[DataW.weights,ht,hty]
  obtain⟨x0,e0⟩:=hA (d:=y0.1) (ps:=y0.2) g0 (fun m hm=>hw m (by rw[CA];exact DataW.weights_mem_each (j:=0) rfl rfl m hm));obtain⟨x1,e1⟩:=hB (d:=y1.1) (ps:=y1.2) g1 (fun m hm=>hw m (by rw[CA];exact DataW.weights_mem_each (j:=1) rfl rfl m hm));refine⟨(x0,x1),_,_,?_,e0,e1⟩;rw[List.drop_zero,List.take_of_length_le (l:=cs.drop A.n) (by rw[List.length_drop,hl,ct];omega),List.take_append_drop]
theorem ig.arg {P:Program} {α:Type} {A:RT α} {t:TypeId} {H:Type} {enc:TypeId×Value→H} {w:World} {base:Nat} {spare:Nat→Bool} {v:Value} {d:DataW H} {ps:List MemPlace} (hA:ig P t A)
  (h:DataW.Trod enc P w base spare true t v d ps) (hv:∀vs,vs.length=A.n→v.cells.toList=vs→(∀u∈vs,u.oneCell'=true)→v=A.val vs) (hw:∀n∈DataW.weights P t d,n≤reachBytes):∃x,A.V aC w x v:=by
 obtain⟨fuel,hf⟩:=h;obtain⟨x,hx⟩:=hA hf hw;exact⟨x,_,hx,hv _ (A.len hx) rfl (A.one hx)⟩
theorem Kh {P:Program} {f:FuncId} {args:Array Value} {w:World} (h:Spec P f args w (fun v' w'=>v'= .bool true∧Step aC w aC w' aC)):Calls P f args w fun e w'=>e= .returned (.bool true)∧Below w.heap.size w w':=
 Calls.mono h fun _ _ ⟨_,he,hv,s⟩=>⟨by rw[he,hv],s.below⟩
end Go.K
namespace Go.K
theorem CB {P:Program} {w:World} {nm:String} {g:Nat} {cs:Array Value} (hg:P.globalNamed nm=some g) (h:w.var? P nm=some cs):∃e fr,w.heap[g]? =some (.cells cs e fr):=by
 simp only[World.var?,hg,Option.bind_some]at h
 split at h
 ·rename_i c e fr hh
  obtain rfl:=Option.some.inj h;exact⟨e,fr,hh⟩
 ·cases h
theorem E7 {H:Type} {enc:TypeId×Value→H} {P:Program} {w:World} {base fuel:Nat} {spare:Nat→Bool} {held:Bool} {t e:TypeId} {n:Nat} {cs:Array Value} {l:List Nat} {p:List MemPlace} {d:DataW H}
  (ht:P.underlying t=some (.array n e)) (he:P.underlying e=some (.int .u8)) (hc:P.cellsOf e=1) (W9:P.cellsOf t=n)
  (h:DataW.trod enc P w base spare held fuel t cs.toList=some (d,p)) (hd:d= .agg (l.map fun(k:Nat)=> .lit (.int .u8 (k:Int))):=by rfl):(l.map fun(k:Nat)=>Value.int .u8 (k:Int)).toArray=cs:=by
 subst hd;obtain⟨xs,m,rfl,hx,hl,hn,Cx⟩:=DataW.trod_array ht h;rw[hc]at Cx;simp only[Prod.mk.injEq,DataW.agg.injEq]at hx
 have Ik:l.length=n:=by
  have:=congrArg List.length hx.1;rw[List.length_map,List.length_map,hn]at this;exact this
 suffices hs:l.map (fun(k:Nat)=>Value.int .u8 (k:Int))=cs.toList by rw[hs]
 refine List.ext_getElem? fun i=>?_
 rcases Nat.lt_or_ge i n with hi|hi
 ·have hE:=Cx i hi;obtain⟨x,hxi⟩:∃x,xs[i]? =some x:=⟨_,List.getElem?_eq_getElem (by omega)⟩;obtain⟨k,hk⟩:∃k,l[i]? =some k:=⟨_,List.getElem?_eq_getElem (by omega)⟩;rw[hxi,Nat.mul_one]at hE;obtain⟨z,e1,e2,_⟩:=DataW.trod_int he hE;have h1:(l.map fun(k:Nat)=>(DataW.lit (.int .u8 (k:Int)):DataW H))[i]? =some (.lit (.int .u8 (k:Int))):=by rw[List.getElem?_map,hk];rfl
  rw[hx.1,List.getElem?_map,hxi,e2]at h1;have hz:z=(k:Int):=by simpa using h1
  have h2:((cs.toList.drop i).take 1)[0]? =cs.toList[i]? :=by rw[List.getElem?_take,if_pos (by decide),List.getElem?_drop,Nat.add_zero]
  rw[e1]at h2;rw[←h2,List.getElem?_map,hk,hz];rfl
 ·rw[List.getElem?_eq_none (by rw[List.length_map];omega),List.getElem?_eq_none (by rw[hl,W9];omega)]
end Go.K
namespace Go.K
structure cT (M:aD) where
 p:Value→World→Prop
 U:aD
 mono:∀{v w w' N},p v w→Step M w M w' N→(∀b,N b→U b)→p v w'
def Il:aD:=fun _=>True
def cT.eq {M:aD} (c:Value):cT M:=⟨fun v _=>v=c,Il,fun h _ _=>h⟩
def cT.V {M:aD} {α:Type} (A:RT α) (x:α):cT M:=⟨fun v w=>A.V M w x v,Il,fun h s _=>h.le s.le⟩
def cT.ptr {M:aD} {α:Type} (A:RT α) (x:α) (hn:0<A.n:=by decide):cT M:=⟨fun v w=>cQ A M w v x,Il,fun h s _=>h.le hn s.le⟩
def cT.pure {M:aD} (q:Value→Prop):cT M:=⟨fun v _=>q v,Il,fun h _ _=>h⟩
def cT.mk' {M:aD} (p:Value→World→Prop) (mono:∀{v w w'},p v w→Step M w M w' aC→p v w'):cT M:=⟨p,aC,fun h s hN=>mono h (s.cH hN fun _ hb=>hb.elim)⟩
def jD:List aD→aD
 |[]=>aC
 |[N]=>N
 |N::Ns=>fun b=>N b∨jD Ns b
theorem fA:∀{Ns:List aD} {b:Nat},jD Ns b↔∃N∈Ns,N b
 |[],b=>by simp[jD,aC]
 |[N],b=>by simp[jD]
 |N::N'::Ns,b=>by
  have:=fA (Ns:=N'::Ns) (b:=b);simp only[jD];rw[this];simp
def cv (o:Oper):List Nat:=(o.after.toList.filter (Region.binds .any)).map (·.on)
def lg (l:List Oper) (j t:Nat):Bool:=l.all fun o=> !(o.dst==some t)||(cv o).contains j
def km (l:List Oper) (j:Nat) (L:Sl):Sl:=L.filter fun p=>lg l j p.1
def Im (d:Option Nat) (v:Value) (L:Sl):Sl:=match d with|some d=>(d,v)::L|none=>L
def eH:List Oper→Nat→Bool
 |[],_=>true
 |o::l,k=>(cv o).all (Nat.blt · k)&&(match o.dst with|some d=>l.all (fun o'=> !(o'.dst==some d))|none=>true)&&eH l (k+1)
def Ki (E:List (Nat×aD)) (j:Nat):aD:=jD ((E.filter fun p=>p.1==j).map (·.2))
def Xa (l:List Oper) (E:List (Nat×aD)) (j:Nat):aD:=jD ((E.filter fun p=> !(p.1==j)&& !((l[p.1]?.map cv).getD []).contains j).map (·.2))
def vR {M:aD} (E:List (Nat×aD)):List Oper→List (cT M)→Nat→Prop
 |o::os,s::ss,i=>(∀p∈E.filter (fun p=> !(p.1==i)&& !(cv o).contains p.1),∀b,p.2 b→s.U b)∧vR E os ss (i+1)
 |_,_,_=>True
theorem vR.get {M:aD} {E:List (Nat×aD)}:∀{os:List Oper} {ss:List (cT M)} {k:Nat},vR E os ss k→∀i o s,os[i]? =some o→ss[i]? =some s→∀p∈E,p.1≠k+i→¬p.1∈cv o→∀b,p.2 b→s.U b
 |[],_,_,_,i,_,_,h,_,_,_,_,_,_,_=>by simp at h
 |_::_,[],_,_,i,_,_,_,h,_,_,_,_,_,_=>by simp at h
 |x::os,y::ss,k,h,0,o,s,ho,hs,p,hp,h1,h2,b,hb=>by
  simp at ho hs;subst ho;subst hs;exact h.1 p (List.mem_filter.2 ⟨hp,by simp;exact⟨h1,h2⟩⟩) b hb
 |x::os,y::ss,k,h,i+1,o,s,ho,hs,p,hp,h1,h2,b,hb=>vR.get h.2 i o s (by simpa using ho) (by simpa using hs) p hp (by omega) h2 b hb
def xF {M:aD} (F:List (Nat×aD)) (l:List Oper) (S:List (cT M)):Prop:=
 ∀i o s j oj sj,l[i]? =some o→S[i]? =some s→l[j]? =some oj→S[j]? =some sj→j≠i→¬j∈cv o→∀v vj w w',s.p v w→Step M w M w' (Ki F j)→sj.p vj w'→s.p v w'
theorem CC {F:List (Nat×aD)} {j b:Nat} (hb:Ki F j b):∃p∈F,p.1=j∧p.2 b:=by
 obtain⟨N,hN,Io⟩:=fA.1 hb;obtain⟨p,hp,rfl⟩:=List.mem_map.1 hN;obtain⟨h1,h2⟩:=List.mem_filter.1 hp;exact⟨p,h1,by simpa using h2,Io⟩
theorem vR.st {M:aD} {F:List (Nat×aD)} {l:List Oper} {S:List (cT M)} (h:vR F l S 0):xF F l S:=fun i o s j oj sj ho hs _ _ eQ hnp v vj w w' hp st _=>
 s.mono hp st fun b hb=>by
  obtain⟨p,h1,h6,h7⟩:=CC hb;exact h.get i o s ho hs p h1 (by omega) (by rw[h6];exact hnp) b h7
def Kj {M:aD} (X:List (Nat×Nat)) (E:List (Nat×aD)):List Oper→List (cT M)→Nat→Prop
 |o::os,s::ss,i=>(∀p∈E.filter (fun p=> !(p.1==i)&& !(cv o).contains p.1&& !X.contains (i,p.1)),∀b,p.2 b→s.U b)∧Kj X E os ss (i+1)
 |_,_,_=>True
theorem Kj.get {M:aD} {X:List (Nat×Nat)} {E:List (Nat×aD)}:∀{os:List Oper} {ss:List (cT M)} {k:Nat},Kj X E os ss k→∀i o s,os[i]? =some o→ss[i]? =some s→∀p∈E,p.1≠k+i→¬p.1∈cv o→X.contains (k+i,p.1)=false→∀b,p.2 b→s.U b
 |[],_,_,_,i,_,_,h,_,_,_,_,_,_,_,_=>by simp at h
 |_::_,[],_,_,i,_,_,_,h,_,_,_,_,_,_,_=>by simp at h
 |x::os,y::ss,k,h,0,o,s,ho,hs,p,hp,h1,h2,hx,b,hb=>by
  simp at ho hs;subst ho;subst hs;exact h.1 p (List.mem_filter.2 ⟨hp,by simp only[Nat.add_zero]at hx h1;rw[hx];simp;exact⟨h1,h2⟩⟩) b hb
 |x::os,y::ss,k,h,i+1,o,s,ho,hs,p,hp,h1,h2,hx,b,hb=>Kj.get h.2 i o s (by simpa using ho) (by simpa using hs) p hp (by omega) h2 (by rw[show k+1+i=k+(i+1)from by omega];exact hx) b hb
theorem xF.of {M:aD} {F:List (Nat×aD)} {l:List Oper} {S:List (cT M)} (X:List (Nat×Nat)) (h:Kj X F l S 0)
  (hx:∀x∈X,∀s sj,S[x.1]? =some s→S[x.2]? =some sj→∀v vj w w',s.p v w→Step M w M w' (Ki F x.2)→sj.p vj w'→s.p v w'):xF F l S:=fun i o s j oj sj ho hs hoj hsj eQ hnp v vj w w' hp st Xb=>by
 by_cases hc:X.contains (i,j)=true
 ·exact hx (i,j) (by simpa using hc) s sj hs hsj v vj w w' hp st Xb
 ·exact s.mono hp st fun b hb=>by
   obtain⟨p,h1,h6,h7⟩:=CC hb;exact h.get i o s ho hs p h1 (by omega) (by rw[h6];exact hnp) (by rw[h6,Nat.zero_add];simpa using hc) b h7
def Xc {M:aD} (E:List (Nat×aD)) (j:Nat) (d:Option Nat) (s:cT M) (w0:World) (L:Sl) (ds:List Deferred):Kt:=fun e L' qh w'=>e= .normal∧qh=ds∧∃v,L'=Im d v L∧s.p v w'∧Step M w0 M w' (Ki E j)
def l8 {M:aD} (l:List Oper) (S:List (cT M)) (w:World) (k:Sl→Prop):List Nat→Sl→Prop
 |[],acc=>k acc
 |i::is,acc=>match l[i]?,S[i]? with
  |some o,some s=>match o.dst with
   |some d=>∀v,s.p v w→l8 l S w k is ((d,v)::acc)
   |none=>∀v,s.p v w→l8 l S w k is acc
  |_,_=>l8 l S w k is acc
def gw {M:aD} (w:World) (k:Sl→Prop):List Oper→List (cT M)→Sl→Prop
 |o::os,s::ss,acc=>match o.dst with
  |some d=>∀v,s.p v w→gw w k os ss ((d,v)::acc)
  |none=>∀v,s.p v w→gw w k os ss acc
 |_,_,acc=>k acc
def Wu (P:Program) (r:Option Nat) (n:Nat) {M:aD} (F:List (Nat×aD)) (w:World) (l:List Oper) (S:List (cT M)) (ds:List Deferred) (L:Sl) (j:Nat) (o:Oper) (s:cT M):Prop:=
 ∀w' E,Step M w M w' (Xa l F j)→l8 l S w' (fun acc=>Rg P r n l.toArray [o] (acc++(km l j L++E)) ds w' (Xc F j o.dst s w' (acc++(km l j L++E)) ds)) (cv o) []
def dR (P:Program) (r:Option Nat) (n:Nat) {M:aD} (F:List (Nat×aD)) (w:World) (l:List Oper) (S:List (cT M)) (ds:List Deferred) (L:Sl):List Oper→List (cT M)→Nat→Prop
 |o::os,s::ss,j=>Wu P r n F w l S ds L j o s∧dR P r n F w l S ds L os ss (j+1)
 |[],_,_=>True
 |_::_,[],_=>False
theorem dR.cons {P:Program} {r:Option Nat} {n:Nat} {M:aD} {F:List (Nat×aD)} {w:World} {l:List Oper} {S:List (cT M)} {ds:List Deferred} {L:Sl} {o:Oper} {os:List Oper} {s:cT M} {ss:List (cT M)} {j:Nat}
  (h:Wu P r n F w l S ds L j o s) (h':dR P r n F w l S ds L os ss (j+1)):dR P r n F w l S ds L (o::os) (s::ss) j:=⟨h,h'⟩
theorem dR.nil {P:Program} {r:Option Nat} {n:Nat} {M:aD} {F:List (Nat×aD)} {w:World} {l:List Oper} {S:List (cT M)} {ds:List Deferred} {L:Sl} {ss:List (cT M)} {j:Nat}:dR P r n F w l S ds L [] ss j:=by
 unfold dR;trivial
section
variable {P:Program} {r:Option Nat} {n:Nat} {L:Sl} {ds:List Deferred} {w:World} {K:Kt} {M:aD} {F:List (Nat×aD)}
theorem lZ {A B:Sl} {t:Nat} {v:Value} (h:lk (A++B) t=some v):lk A t=some v∨lk B t=some v:=by
 induction A with
 |nil=>exact .inr h
 |cons p A ih=>
  obtain⟨k,u⟩:=p;simp only[List.cons_append,lk]at h ⊢
  cases hb:Nat.beq k t with
  |true=>rw[hb]at h;exact .inl h
  |false=>rw[hb]at h;exact ih h
theorem qm {A B:Sl} {t:Nat} (h:∃v,lk B t=some v):∃v,lk (A++B) t=some v:=by
 induction A with
 |nil=>exact h
 |cons p A ih=>
  obtain⟨k,u⟩:=p;simp only[List.cons_append,lk]
  cases hb:Nat.beq k t with
  |true=>exact⟨u,rfl⟩
  |false=>exact ih
theorem j4 {f:Nat→Bool} {A:Sl} {t:Nat} {v:Value} (h:lk (A.filter fun p=>f p.1) t=some v):f t=true∧lk A t=some v:=by
 induction A with
 |nil=>simp[lk]at h
 |cons p A ih=>
  obtain⟨k,u⟩:=p;rw[List.filter_cons]at h
  split at h
  ·rename_i hf
   simp only[lk]at h ⊢
   cases hb:Nat.beq k t with
   |true=>
    rw[hb]at h;rw[←Nat.eq_of_beq_eq_true hb];exact⟨hf,h⟩
   |false=>rw[hb]at h;exact ih h
  ·rename_i hf
   obtain⟨h1,h2⟩:=ih h;refine⟨h1,?_⟩;simp only[lk]
   cases hb:Nat.beq k t with
   |true=>rw[Nat.eq_of_beq_eq_true hb]at hf;exact absurd h1 hf
   |false=>exact h2
def Ip (a:Act):Sl:=(List.range a.tmps.size).map fun t=>(t,a.tmps.getD t undef)
theorem vS (f:Nat→Value):∀(m s t:Nat) (v:Value),lk ((List.range' s m).map fun t=>(t,f t)) t=some v→s≤t∧t<s+m∧v=f t
 |0,s,t,v,h=>by simp[lk]at h
 |m+1,s,t,v,h=>by
  simp only[List.range'_succ,List.map_cons,lk]at h
  cases hb:Nat.beq s t with
  |true=>rw[hb]at h;cases h;have:=Nat.eq_of_beq_eq_true hb;subst this;exact⟨Nat.le_refl _,by omega,rfl⟩
  |false=>
   rw[hb]at h;obtain⟨h1,h2,h3⟩:=vS f m (s+1) t v h;exact⟨by omega,by omega,h3⟩
theorem tv (f:Nat→Value):∀(m s t:Nat),s≤t→t<s+m→∃v,lk ((List.range' s m).map fun t=>(t,f t)) t=some v
 |0,s,t,h1,h2=>by omega
 |m+1,s,t,h1,h2=>by
  simp only[List.range'_succ,List.map_cons,lk]
  cases hb:Nat.beq s t with
  |true=>exact⟨_,rfl⟩
  |false=>
   have:s≠t:=fun e=>by subst e;simp[Nat.beq_refl]at hb
   exact tv f m (s+1) t (by omega) (by omega)
def QX (F:List (Nat×aD)) (D:Nat→Prop):aD:=fun b=>∃p∈F,D p.1∧p.2 b
structure Inv (F:List (Nat×aD)) (S:List (cT M)) (l:List Oper) (w0:World) (L:Sl) (ds:List Deferred) (n:Nat) (D:Nat→Prop) (a:Act) (w:World):Prop where
 step:Step M w0 M w (QX F D)
 fin:∀i o s,l[i]? =some o→S[i]? =some s→D i→o.dst=none→∃v,s.p v w
 size:n≤a.tmps.size
 defers:a.defers=ds
 done:∀i o s d,l[i]? =some o→S[i]? =some s→D i→o.dst=some d→∃v,a.tmps[d]? =some v∧s.p v w
 base:∀t v,lk L t=some v→(∀i o,l[i]? =some o→D i→o.dst≠some t)→a.tmps[t]? =some v
 closed:∀i o,l[i]? =some o→D i→∀k∈cv o,D k
theorem cR:∀{l:List Oper} {k:Nat},eH l k=true→∀i o,l[i]? =some o→∀j∈cv o,j<k+i
 |[],_,_,i,o,h,_,_=>by simp at h
 |x::l,k,hl,0,o,h,j,hj=>by
  simp at h;subst h;simp only[eH,Bool.and_eq_true,List.all_eq_true]at hl;have:=hl.1.1 j hj;simpa[Nat.blt_eq]using this
 |x::l,k,hl,i+1,o,h,j,hj=>by
  simp only[eH,Bool.and_eq_true]at hl;have:=cR hl.2 i o (by simpa using h) j hj;omega
theorem uM:∀{l:List Oper} {k:Nat},eH l k=true→∀(i j:Nat) (o o':Oper) (d:Nat),l[i]? =some o→l[j]? =some o'→i≠j→o.dst=some d→o'.dst≠some d
 |[],_,_,i,_,_,_,_,h,_,_,_=>by simp at h
 |x::l,k,hl,0,0,_,_,_,_,_,eQ,_=>absurd rfl eQ
 |x::l,k,hl,0,j+1,o,o',d,hi,hj,_,hd=>by
  simp at hi;subst hi;simp only[eH,Bool.and_eq_true,hd,List.all_eq_true]at hl;have hm:o'∈l:=List.mem_of_getElem? (by simpa using hj);have:=hl.1.2 o' hm;simpa using this
 |x::l,k,hl,i+1,0,o,o',d,hi,hj,_,hd=>by
  simp at hj;subst hj;intro Oy;simp only[eH,Bool.and_eq_true,Oy,List.all_eq_true]at hl;have hm:o∈l:=List.mem_of_getElem? (by simpa using hi);have:=hl.1.2 o hm;simp[hd]at this
 |x::l,k,hl,i+1,j+1,o,o',d,hi,hj,eQ,hd=>by
  simp only[eH,Bool.and_eq_true]at hl;exact uM hl.2 i j o o' d (by simpa using hi) (by simpa using hj) (by omega) hd
theorem dR.get {w:World} {l:List Oper} {S:List (cT M)} {ds:List Deferred} {L:Sl}:∀{os:List Oper} {ss:List (cT M)} {k:Nat},dR P r n F w l S ds L os ss k→∀i o,os[i]? =some o→∃s,ss[i]? =some s∧Wu P r n F w l S ds L (k+i) o s
 |[],_,_,_,i,o,h=>by simp at h
 |x::os,[],_,h,_,_,_=>by simp[dR]at h
 |x::os,s::ss,k,h,0,o,hi=>by simp at hi;subst hi;exact⟨s,rfl,h.1⟩
 |x::os,s::ss,k,h,i+1,o,hi=>by
  obtain⟨s',h1,h2⟩:=dR.get h.2 i o (by simpa using hi);exact⟨s',by simpa using h1,by rwa [show k+(i+1)=k+1+i from by omega]⟩
theorem l8.use {l:List Oper} {S:List (cT M)} {w:World} {k:Sl→Prop} {a:Act} {js:List Nat} (hf:∀(i:Nat) (o:Oper) (s:cT M),l[i]? =some o→S[i]? =some s→o.dst=none→i∈js→∃v,s.p v w) (hd:∀(i:Nat) (o:Oper) (s:cT M) (d:Nat),l[i]? =some o→S[i]? =some s→o.dst=some d→i∈js→∃v,a.tmps[d]? =some v∧s.p v w):
  ∀(is:List Nat) (acc:Sl),(∀i∈is,i∈js)→(∀t v,lk acc t=some v→a.tmps[t]? =some v)→l8 l S w k is acc→∃Kl,k Kl∧∀t v,lk Kl t=some v→a.tmps[t]? =some v
 |[],acc,_,ha,h=>⟨acc,h,ha⟩
 |i::is,acc,hm,ha,h=>by
  have zk:∀i∈is,i∈js:=fun x hx=>hm x (List.mem_cons_of_mem _ hx)
  simp only[l8]at h
  split at h
  ·rename_i o s ho hs
   split at h
   ·rename_i d A8
    obtain⟨v,h1,h2⟩:=hd i o s d ho hs A8 (hm i (List.mem_cons_self ..));refine l8.use hf hd is _ zk ?_ (h v h2);intro t u hu;simp only[lk]at hu
    cases hb:Nat.beq d t with
    |true=>rw[hb]at hu;cases hu;rw[←Nat.eq_of_beq_eq_true hb];exact h1
    |false=>rw[hb]at hu;exact ha t u hu
   ·rename_i A8
    obtain⟨v,h2⟩:=hf i o s ho hs A8 (hm i (List.mem_cons_self ..));exact l8.use hf hd is _ zk ha (h v h2)
  ·exact l8.use hf hd is _ zk ha h
theorem gw.use {w:World} {k:Sl→Prop} {a:Act}:∀(os:List Oper) (ss:List (cT M)) (acc:Sl),(∀(i:Nat) (o:Oper) (s:cT M),os[i]? =some o→ss[i]? =some s→o.dst=none→∃v,s.p v w)→(∀(i:Nat) (o:Oper) (s:cT M) (d:Nat),os[i]? =some o→ss[i]? =some s→o.dst=some d→∃v,a.tmps[d]? =some v∧s.p v w)→
  (∀t v,lk acc t=some v→a.tmps[t]? =some v)→gw w k os ss acc→∃Kl,k Kl∧∀t v,lk Kl t=some v→a.tmps[t]? =some v
 |[],_,acc,_,_,ha,h=>⟨acc,by simpa[gw]using h,ha⟩
 |_::_,[],acc,_,_,ha,h=>⟨acc,by simpa[gw]using h,ha⟩
 |o::os,s::ss,acc,hf,hd,ha,h=>by
  have hf':∀(i:Nat) (o:Oper) (s:cT M),os[i]? =some o→ss[i]? =some s→o.dst=none→∃v,s.p v w:=fun i o s h1 h2=>hf (i+1) o s (by simpa using h1) (by simpa using h2)
  have Oy:∀(i:Nat) (o:Oper) (s:cT M) (d:Nat),os[i]? =some o→ss[i]? =some s→o.dst=some d→∃v,a.tmps[d]? =some v∧s.p v w:=fun i o s d h1 h2=>hd (i+1) o s d (by simpa using h1) (by simpa using h2)
  simp only[gw]at h
  split at h
  ·rename_i d A8
   obtain⟨v,h1,h2⟩:=hd 0 o s d rfl rfl A8;refine gw.use os ss _ hf' Oy ?_ (h v h2);intro t u hu;simp only[lk]at hu
   cases hb:Nat.beq d t with
   |true=>rw[hb]at hu;cases hu;rw[←Nat.eq_of_beq_eq_true hb];exact h1
   |false=>rw[hb]at hu;exact ha t u hu
  ·rename_i A8
   obtain⟨v,h2⟩:=hf 0 o s rfl rfl A8;exact gw.use os ss _ hf' Oy ha (h v h2)
theorem mU {F:Fence} {m:Nat} {ops:Array Oper} {Q:Exit→Act→World→Prop} {i:Nat} {rest:List Nat} {o:Oper} {a:Act} {w:World} (ho:ops[i]? =some o)
  (h:wpListIn F m P ops (fun e a' w'=>e= .normal∧wpOpsIn F m P ops Q rest a' w') [o] a w):wpOpsIn F m P ops Q (i::rest) a w:=by
 simp only[wpOpsIn,ho];simp only[wpListIn]at h
 split
 ·rename_i hw
  rw[if_pos hw]at h;obtain⟨h1,h2⟩:=h;refine⟨h1,?_⟩;generalize (o.semAt F.round a.eval).run P w=res at h2 ⊢
  have Xd:∀{f args w'},CallsIn F (m-1) P f args w' (fun
    |.returned v,wV=>(True∧wpOpsIn F m P ops Q rest (a.put o.dst v) wV)
    |.panicked chain,wV=>(Exit.panic chain= .normal∧wpOpsIn F m P ops Q rest a wV)
    |.outgrown,_=>LetsOut (fun e a' w'=>e= .normal∧wpOpsIn F m P ops Q rest a' w'))→CallsIn F (m-1) P f args w' (fun
    |.returned v,wV=>wpOpsIn F m P ops Q rest (a.put o.dst v) wV
    |.panicked chain,wV=>Q (.panic chain) a wV
    |.outgrown,_=>LetsOut Q):=fun h=>h.mono fun e wV he=>by
   cases e with
   |returned v=>exact he.2
   |panicked c=>exact absurd he.1 (by simp)
   |outgrown=>obtain⟨a,w,h,_⟩:=he;exact absurd h (by simp)
  cases res with
  |ok nx w'=>
   cases nx with
   |value v=>exact h2.2
   |skip=>exact h2.2
   |defer d=>exact h2.2
   |enter f args=>exact⟨h2.1,Xd h2.2⟩
   |row row args=>exact⟨h2.1,h2.2.mono fun _ _ he=>he.2⟩
   |round l f tmps rE body=>exact⟨h2.1,h2.2.mono fun e wV he=>by
     cases e with
     |returned v=>exact he.2
     |panicked c=>exact absurd he.1 (by simp)
     |outgrown=>obtain⟨a,w,h,_⟩:=he;exact absurd h (by simp)⟩
   |_=>exact h2.elim
  |halt x w'=>
   cases x with
   |panic v=>exact absurd h2.1 (by simp)
   |_=>exact h2.elim
 ·rename_i hw
  rw[if_neg hw]at h;exact⟨h.1,h.2.2⟩
theorem xG {F:Fence} {m:Nat} {ops:Array Oper} {Q Q':Exit→Act→World→Prop} {o:Oper} {a:Act} {w:World} (h:wpListIn F m P ops Q [o] a w) (hq:∀e a w,Q e a w→Q' e a w):wpListIn F m P ops Q' [o] a w:=by
 simp only[wpListIn]at h ⊢
 split
 ·rename_i hw
  rw[if_pos hw]at h;obtain⟨h1,h2⟩:=h;refine⟨h1,?_⟩;generalize (o.semAt F.round a.eval).run P w=res at h2 ⊢
  cases res with
  |ok nx w'=>
   cases nx with
   |value v=>exact hq _ _ _ h2
   |skip=>exact hq _ _ _ h2
   |defer d=>exact hq _ _ _ h2
   |enter f args=>exact⟨h2.1,h2.2.mono fun e wV he=>by
     cases e with
     |returned v=>exact hq _ _ _ he
     |panicked c=>exact hq _ _ _ he
     |outgrown=>obtain⟨a,w,h⟩:=he;exact⟨a,w,hq _ _ _ h⟩⟩
   |row row args=>exact⟨h2.1,h2.2.mono fun _ _ he=>hq _ _ _ he⟩
   |round l f tmps rE body=>exact⟨h2.1,h2.2.mono fun e wV he=>by
     cases e with
     |returned v=>exact hq _ _ _ he
     |panicked c=>exact hq _ _ _ he
     |outgrown=>obtain⟨a,w,h⟩:=he;exact⟨a,w,hq _ _ _ h⟩⟩
   |_=>exact h2.elim
  |halt x w'=>
   cases x with
   |panic v=>exact hq _ _ _ h2
   |_=>exact h2.elim
 ·rename_i hw
  rw[if_neg hw]at h;exact⟨h.1,hq _ _ _ h.2⟩
theorem Inv.next {w0:World} {l:List Oper} {S:List (cT M)} {D:Nat→Prop} {a:Act} {w:World} (hi:Inv F S l w0 L ds n D a w) (dv:eH l 0=true) (vT:xF F l S) (oM:∀p∈F,∀b,p.2 b→M b)
  {j:Nat} {o:Oper} (jU:∃s,S[j]? =some s∧Wu P r n F w0 l S ds L j o s) (hj:l[j]? =some o) (pE: ¬D j) (hp:∀k∈cv o,D k) {Q:Exit→Act→World→Prop} {rest:List Nat}
  (hk:∀a' w',Inv F S l w0 L ds n (fun i=>i=j∨D i) a' w'→wpOpsIn (FW r) 0 P l.toArray Q rest a' w'):wpOpsIn (FW r) 0 P l.toArray Q (j::rest) a w:=by
 obtain⟨s,hs,ho⟩:=jU
 have ri:Step M w0 M w (Xa l F j):=hi.step.cH (fun b ⟨p,hp,hD,hb⟩=>fA.2 ⟨p.2,List.mem_map.2 ⟨p,List.mem_filter.2 ⟨hp,by
   simp only[Bool.and_eq_true,Bool.not_eq_true',beq_eq_false_iff_ne,ne_eq];refine⟨fun e=>pE (e▸hD),?_⟩
   cases hl:l[p.1]? with
   |none=>rfl
   |some oi=>
    simp only[Option.map_some,Option.getD_some]
    cases hc:(cv oi).contains j with
    |false=>rfl
    |true=>exact absurd (hi.closed p.1 oi hl hD j (by simpa using hc)) pE⟩,rfl⟩,hb⟩)
  (fun b hb=>by
   obtain⟨N,hN,Io⟩:=fA.1 hb;obtain⟨p,hp,rfl⟩:=List.mem_map.1 hN;exact oM p (List.mem_filter.1 hp).1 b Io)
 have uN:∀b,Ki F j b→∃p∈F,p.1=j∧p.2 b:=fun b hb=>by
  obtain⟨N,hN,Io⟩:=fA.1 hb;obtain⟨p,hp,rfl⟩:=List.mem_map.1 hN;obtain⟨h1,h2⟩:=List.mem_filter.1 hp;exact⟨p,h1,by simpa using h2,Io⟩
 have JR:Step M w0 M w (QX F fun i=>i=j∨D i):=hi.step.cH (fun b ⟨p,hp,hD,hb⟩=>⟨p,hp,.inr hD,hb⟩) (fun b ⟨p,hp,_,hb⟩=>oM p hp b hb);refine mU (o:=o) (by simpa using hj) ?_;obtain⟨acc,zy,SV⟩:=l8.use (a:=a) (js:=cv o) (fun i o' s' h1 h2 h3 h4=>hi.fin i o' s' h1 h2 (hp i h4) h3) (fun i o' s' d h1 h2 h3 h4=>hi.done i o' s' d h1 h2 (hp i h4) h3) (cv o) [] (fun _ h=>h) (fun t v h=>by simp[lk]at h) (ho w (Ip a) ri)
 have il:∀t v,lk (acc++(km l j L++Ip a)) t=some v→a.tmps[t]? =some v:=by
  intro t v h;rcases lZ h with h|h
  ·exact SV t v h
  rcases lZ h with h|h
  ·obtain⟨h1,h2⟩:=j4 (f:=lg l j) h;refine hi.base t v h2 fun i o' ik hD hd=> ?_
   simp only[lg,List.all_eq_true]at h1;have:=h1 o' (List.mem_of_getElem? ik);simp only[hd,beq_self_eq_true,Bool.not_true,Bool.false_or,List.contains_iff_mem]at this;exact pE (hi.closed i o' ik hD j this)
  ·simp only[Ip,List.range_eq_range']at h;obtain⟨_,h2,h3⟩:=vS _ _ _ _ _ h;rw[h3,Array.getD_eq_getD_getElem?,Array.getElem?_eq_getElem (by omega)];rfl
 have QY:∀t,t<a.tmps.size→∃v,lk (acc++(km l j L++Ip a)) t=some v:=fun t ht=>by
  refine qm (qm ?_);simp only[Ip,List.range_eq_range'];exact tv _ _ _ _ (Nat.zero_le _) (by omega)
 have h1:=zy.run a ⟨hi.size,hi.defers,il⟩
 have key:∀e a' w',up n (Xc F j o.dst s w (acc++(km l j L++Ip a)) ds) e a' w'→e= .normal∧wpOpsIn (FW r) 0 P l.toArray Q rest a' w':=by
  rintro e a' w' ⟨L',qh,rh,rfl,rfl,v,rfl,QZ,kF⟩;refine⟨rfl,hk a' w' ⟨JR.trans kF fun b _ hb=>by obtain⟨p,h1,h2,h3⟩:=uN b hb;exact⟨p,h1,.inl h2,h3⟩,?_,rh.size,rh.defers,?_,?_,?_⟩⟩
  ·intro i o' s' h2 h3 h4 h5;by_cases jr:i=j
   ·subst jr;rw[hj]at h2;cases h2;rw[hs]at h3;cases h3;exact⟨v,QZ⟩
   ·have Ck:D i:=h4.resolve_left jr;obtain⟨u,wW⟩:=hi.fin i o' s' h2 h3 Ck h5;exact⟨u,vT i o' s' j o s h2 h3 hj hs (fun e=>jr e.symm) (fun Ot=>pE (hi.closed i o' h2 Ck j Ot)) u v w w' wW kF QZ⟩
  ·intro i o' s' d h2 h3 h4 h5;by_cases jr:i=j
   ·subst jr;rw[hj]at h2;cases h2;rw[hs]at h3;cases h3;exact⟨v,rh.at_ d v (by rw[h5];simp[Im,lk,Nat.beq_refl]),QZ⟩
   ·have Ck:D i:=h4.resolve_left jr;obtain⟨u,Q0,wW⟩:=hi.done i o' s' d h2 h3 Ck h5;refine⟨u,?_,vT i o' s' j o s h2 h3 hj hs (fun e=>jr e.symm) (fun Ot=>pE (hi.closed i o' h2 Ck j Ot)) u v w w' wW kF QZ⟩;have SX:d<a.tmps.size:=(Array.getElem?_eq_some_iff.1 Q0).1;obtain⟨u',SY⟩:=QY d SX;have e1:=il d u' SY;rw[Q0]at e1;cases e1;refine rh.at_ d u ?_
    cases hod:o.dst with
    |none=>simpa[Im]using SY
    |some d'=>
     have eQ:d'≠d:=fun e=>uM dv i j o' o d h2 hj jr h5 (by rw[hod,e])
     have hb:Nat.beq d' d=false:=by
      cases hb:Nat.beq d' d with
      |false=>rfl
      |true=>exact absurd (Nat.eq_of_beq_eq_true hb) eQ
     simp only[Im,lk,hb];exact SY
  ·intro t u ht S0;have kf:o.dst≠some t:=S0 j o hj (.inl rfl);have e1:=hi.base t u ht fun i o' h2 h3=>S0 i o' h2 (.inr h3)
   have SX:t<a.tmps.size:=(Array.getElem?_eq_some_iff.1 e1).1;obtain⟨u',SY⟩:=QY t SX;have e2:=il t u' SY;rw[e1]at e2;cases e2;refine rh.at_ t u ?_
   cases hod:o.dst with
   |none=>simpa[Im]using SY
   |some d'=>
    have eQ:d'≠t:=fun e=>kf (by rw[hod,e])
    have hb:Nat.beq d' t=false:=by
     cases hb:Nat.beq d' t with
     |false=>rfl
     |true=>exact absurd (Nat.eq_of_beq_eq_true hb) eQ
    simp only[Im,lk,hb];exact SY
  ·intro i o' h2 h3 k tw;rcases h3 with rfl|h3
   ·rw[hj]at h2;cases h2;exact .inr (hp k tw)
   ·exact .inr (hi.closed i o' h2 h3 k tw)
 clear hk ho vT;simp only[wpListIn]at h1 ⊢
 split
 ·rename_i hw
  rw[if_pos hw]at h1;obtain⟨h3,h4⟩:=h1;refine⟨h3,?_⟩;generalize (o.semAt (FW r).round a.eval).run P w=res at h4 ⊢
  cases res with
  |ok nx w'=>
   cases nx with
   |value v=>exact⟨trivial,(key _ _ _ h4).2⟩
   |skip=>exact⟨trivial,(key _ _ _ h4).2⟩
   |defer d=>exact⟨trivial,(key _ _ _ h4).2⟩
   |enter f args=>exact⟨h4.1,h4.2.mono fun e wV he=>by
     cases e with
     |returned v=>exact⟨trivial,(key _ _ _ he).2⟩
     |panicked c=>exact key _ _ _ he
     |outgrown=>obtain⟨a,w,h⟩:=he;exact⟨a,w,key _ _ _ h⟩⟩
   |row row args=>exact⟨h4.1,h4.2.mono fun _ _ he=>⟨trivial,(key _ _ _ he).2⟩⟩
   |round l f tmps rE body=>exact⟨h4.1,h4.2.mono fun e wV he=>by
     cases e with
     |returned v=>exact⟨trivial,(key _ _ _ he).2⟩
     |panicked c=>exact key _ _ _ he
     |outgrown=>obtain⟨a,w,h⟩:=he;exact⟨a,w,key _ _ _ h⟩⟩
   |_=>exact h4.elim
  |halt x w'=>
   cases x with
   |panic v=>exact key _ _ _ h4
   |_=>exact h4.elim
 ·rename_i hw
  rw[if_neg hw]at h1;exact⟨h1.1,trivial,(key _ _ _ h1.2).2⟩
theorem jg:∀{bs:List Bool},bs.countP (!·)=0→∀i,i<bs.length→bs[i]? =some true
 |[],_,i,h=>by simp at h
 |b::bs,h,0,_=>by
  cases b with
  |true=>rfl
  |false=>simp at h
 |b::bs,h,i+1,hi=>by
  cases b with
  |true=>simpa using jg (bs:=bs) (by simpa using h) i (by simpa using hi)
  |false=>simp at h
theorem kO:∀{bs:List Bool} {i:Nat},bs[i]? =some false→(bs.set i true).countP (!·)+1=bs.countP (!·)
 |[],i,h=>by simp at h
 |b::bs,0,h=>by simp at h;subst h;simp
 |b::bs,i+1,h=>by
  have:=kO (bs:=bs) (i:=i) (by simpa using h);rw[List.set_cons_succ,List.countP_cons,List.countP_cons];omega
theorem l9 {bs:List Bool} (h:0<bs.countP (!·)):∃i:Nat,bs[i]? =some false∧∀k:Nat,k<i→bs[k]? =some true:=by
 induction bs with
 |nil=>simp at h
 |cons b bs ih=>
  cases b with
  |false=>exact⟨0,rfl,fun k hk=>by omega⟩
  |true=>
   obtain⟨i,h1,h2⟩:=ih (by simpa using h)
   exact⟨i+1,by simpa using h1,fun k hk=>by
    cases k with
    |zero=>rfl
    |succ k=>simpa using h2 k (by omega)⟩
theorem Iq {w0:World} {l:List Oper} {S:List (cT M)} (dv:eH l 0=true) (jU:dR P r n F w0 l S ds L l S 0) (vT:xF F l S) (oM:∀p∈F,∀b,p.2 b→M b) {Q:Exit→Act→World→Prop}
  (kn:∀a w,Inv F S l w0 L ds n (fun i=>i<l.length) a w→Q .normal a w):∀(fuel t:Nat) (listed:Array Bool) (a:Act) (w:World),listed.size=l.length→listed.toList.countP (!·)=fuel→
  Inv F S l w0 L ds n (fun i=>listed[i]? =some true) a w→wpOpsIn (FW r) 0 P l.toArray Q (Region.linearise.go .any l.toArray fuel t listed []) a w:=by
 intro fuel
 induction fuel with
 |zero=>
  intro t listed a w jJ hc hi;simp only[Region.linearise.go,List.reverse_nil,wpOpsIn];refine kn a w ⟨hi.step.cH (fun b ⟨p,hp,hD,hb⟩=>⟨p,hp,by have:=(Array.getElem?_eq_some_iff.1 hD).1;omega,hb⟩) (fun b ⟨p,hp,_,hb⟩=>oM p hp b hb),fun i o s h1 h2 h3=>hi.fin i o s h1 h2 (by simpa using jg hc i (by simp[jJ];exact h3)),hi.size,hi.defers,fun i o s d h1 h2 h3=>hi.done i o s d h1 h2 ?_,fun t v h1 h2=>hi.base t v h1 fun i o h3 h4=>h2 i o h3 ?_,fun i o h1 h2 k hk=>?_⟩
  ·simpa using jg hc i (by simp[jJ];exact h3)
  ·exact(List.getElem?_eq_some_iff.1 h3).1
  ·have:=cR dv i o h1 k hk;omega
 |succ fuel ih=>
  intro t listed a w jJ hc hi
  have ma:∀j,j∈Region.ready .any l.toArray listed→∃o,l[j]? =some o∧listed[j]? =some false∧∀k∈cv o,listed[k]? =some true:=by
   intro j hj;simp only[Region.ready,List.mem_filter,List.mem_range,Bool.and_eq_true]at hj;obtain⟨h1,h2,h3⟩:=hj;have dV:j<l.length:=by simpa using h1
   refine⟨l[j],List.getElem?_eq_getElem dV,?_,?_⟩
   ·rw[Array.getElem?_eq_getElem (by omega)];simp only[Array.getD_eq_getD_getElem?,Array.getElem?_eq_getElem (show j<listed.size by omega),Option.getD_some,Bool.not_eq_true']at h2;rw[h2]
   ·intro k hk;simp only[cv,List.mem_map,List.mem_filter]at hk;obtain⟨e,⟨Km,Kn⟩,rfl⟩:=hk;have h4:l.toArray[j]? =some l[j]:=by simp[dV]
    rw[h4]at h3;simp only[Option.map_some,Option.getD_some,Array.all_eq_true_iff_forall_mem]at h3;have h5:=h3 e (by simpa using Km);rw[Kn]at h5;simp only[Bool.not_true,Bool.false_or,Array.getD_eq_getD_getElem?]at h5
    cases hx:listed[e.on]? with
    |none=>simp[hx]at h5
    |some b=>simp[hx]at h5;rw[h5]
  have eQ:Region.ready .any l.toArray listed≠[]:=by
   obtain⟨i,h1,h2⟩:=l9 (bs:=listed.toList) (by omega)
   have dV:i<l.length:=by
    have:=(List.getElem?_eq_some_iff.1 h1).1;simp at this;omega
   intro rj
   have eR:i∈Region.ready .any l.toArray listed:=by
    simp only[Region.ready,List.mem_filter,List.mem_range,Bool.and_eq_true];refine⟨by simpa using dV,?_,?_⟩
    ·have:listed[i]? =some false:=by simpa using h1
     simp[Array.getD_eq_getD_getElem?,this]
    ·have h4:l.toArray[i]? =some l[i]:=by simp[dV]
     rw[h4];simp only[Option.map_some,Option.getD_some,Array.all_eq_true_iff_forall_mem];intro e he
     cases hb:Region.binds .any e with
     |false=>rfl
     |true=>
      have hk:e.on∈cv l[i]:=by
       simp only[cv,List.mem_map,List.mem_filter];exact⟨e,⟨by simpa using he,hb⟩,rfl⟩
      have OU:=cR dv i l[i] (List.getElem?_eq_getElem dV) _ hk;have:listed[e.on]? =some true:=by simpa using h2 e.on (by omega)
      simp[Array.getD_eq_getD_getElem?,this]
   rw[rj]at eR;cases eR
  simp only[Region.linearise.go]
  change wpOpsIn (FW r) 0 P l.toArray Q (match (Region.ready .any l.toArray listed)[t%(Region.ready .any l.toArray listed).length]? with
   |some i=>Region.linearise.go .any l.toArray fuel (t/(Region.ready .any l.toArray listed).length) (listed.setIfInBounds i true) [i]
   |none=>[].reverse) a w
  have dV:t%(Region.ready .any l.toArray listed).length<(Region.ready .any l.toArray listed).length:=Nat.mod_lt _ (List.length_pos_iff.2 eQ);rw[List.getElem?_eq_getElem dV];have eR:=List.getElem_mem dV;generalize (Region.ready .any l.toArray listed)[t%(Region.ready .any l.toArray listed).length]=j at eR;obtain⟨o,h1,h2,h3⟩:=ma j eR;simp only[];rw[linearise_go_acc,List.reverse_singleton,List.singleton_append];refine hi.next dv vT oM (by have:=jU.get j o h1;rwa [Nat.zero_add]at this) h1 (by rw[h2];simp) h3 fun a' w' ik=> ?_
  have xj:listed.toList[j]? =some false:=by simpa using h2
  refine ih _ _ _ _ (by simpa using jJ) ?_ ?_
  ·have:=kO xj;simp only[Array.toList_setIfInBounds];omega
  ·have A9:j<listed.size:=(Array.getElem?_eq_some_iff.1 h2).1
   have jE:∀i,((listed.setIfInBounds j true)[i]? =some true)↔(i=j∨listed[i]? =some true):=by
    intro i;rw[Array.getElem?_setIfInBounds];by_cases jr:j=i
    ·subst jr;simp[A9]
    ·rw[if_neg jr];exact⟨.inr,fun h=>h.resolve_left (fun e=>jr e.symm)⟩
   exact⟨ik.step.cH (fun b ⟨p,hp,hD,hb⟩=>⟨p,hp,(jE p.1).2 hD,hb⟩) (fun b ⟨p,hp,_,hb⟩=>oM p hp b hb),fun i o s h1 h2 h3=>ik.fin i o s h1 h2 ((jE i).1 h3),ik.size,ik.defers,fun i o s d h1 h2 h3=>ik.done i o s d h1 h2 ((jE i).1 h3),fun t v h1 h2=>ik.base t v h1 fun i o h3 h4=>h2 i o h3 ((jE i).2 h4),fun i o h1 h2 k hk=>(jE k).2 (ik.closed i o h1 ((jE i).1 h2) k hk)⟩
theorem OV {w0:World} {l:List Oper} {o₁:Oper} {S:List (cT M)} (dv:eH (l++[o₁]) 0=true) (jh:(List.range l.length).all (fun i=>(cv o₁).contains i||(cv o₁).any (fun k=>(((l++[o₁])[k]?.map cv).getD []).contains i))=true) (Ag:S.length=l.length) (jU:dR P r n F w0 (l++[o₁]) S ds L l S 0) (vT:xF F (l++[o₁]) S) (oM:∀p∈F,∀b,p.2 b→M b) {Q:Exit→Act→World→Prop}
  (kn:∀a w,Inv F S (l++[o₁]) w0 L ds n (fun i=>i<l.length) a w→wpListIn (FW r) 0 P (l++[o₁]).toArray (fun e a' w'=>e= .normal∧Q .normal a' w') [o₁] a w):∀(fuel t:Nat) (listed:Array Bool) (a:Act) (w:World),listed.size=(l++[o₁]).length→listed.toList.countP (!·)=fuel→listed[l.length]? =some false→
  Inv F S (l++[o₁]) w0 L ds n (fun i=>listed[i]? =some true) a w→wpOpsIn (FW r) 0 P (l++[o₁]).toArray Q (Region.linearise.go .any (l++[o₁]).toArray fuel t listed []) a w:=by
 intro fuel
 induction fuel with
 |zero=>
  intro t listed a w jJ hc xk hi;have:=jg hc l.length (by simp[jJ]);have h2:listed.toList[l.length]? =some false:=by simpa using xk
  rw[h2]at this;cases this
 |succ fuel ih=>
  intro t listed a w jJ hc xk hi;have Ik:(l++[o₁]).length=l.length+1:=by simp
  have ma:∀j,j∈Region.ready .any (l++[o₁]).toArray listed→∃o,(l++[o₁])[j]? =some o∧listed[j]? =some false∧∀k∈cv o,listed[k]? =some true:=by
   intro j hj;simp only[Region.ready,List.mem_filter,List.mem_range,Bool.and_eq_true]at hj;obtain⟨h1,h2,h3⟩:=hj;have dV:j<(l++[o₁]).length:=by simpa using h1
   refine⟨(l++[o₁])[j],List.getElem?_eq_getElem dV,?_,?_⟩
   ·rw[Array.getElem?_eq_getElem (by omega)];simp only[Array.getD_eq_getD_getElem?,Array.getElem?_eq_getElem (show j<listed.size by omega),Option.getD_some,Bool.not_eq_true']at h2;rw[h2]
   ·intro k hk;simp only[cv,List.mem_map,List.mem_filter]at hk;obtain⟨e,⟨Km,Kn⟩,rfl⟩:=hk;have h4:(l++[o₁]).toArray[j]? =some (l++[o₁])[j]:=by rw[List.getElem?_toArray];exact List.getElem?_eq_getElem dV
    rw[h4]at h3;simp only[Option.map_some,Option.getD_some,Array.all_eq_true_iff_forall_mem]at h3;have h5:=h3 e (by simpa using Km);rw[Kn]at h5;simp only[Bool.not_true,Bool.false_or,Array.getD_eq_getD_getElem?]at h5
    cases hx:listed[e.on]? with
    |none=>simp[hx]at h5
    |some b=>simp[hx]at h5;rw[h5]
  have eQ:Region.ready .any (l++[o₁]).toArray listed≠[]:=by
   obtain⟨i,h1,h2⟩:=l9 (bs:=listed.toList) (by omega)
   have dV:i<(l++[o₁]).length:=by
    have:=(List.getElem?_eq_some_iff.1 h1).1;simp only[Array.length_toList]at this;omega
   intro rj
   have eR:i∈Region.ready .any (l++[o₁]).toArray listed:=by
    simp only[Region.ready,List.mem_filter,List.mem_range,Bool.and_eq_true];refine⟨by simpa using dV,?_,?_⟩
    ·have:listed[i]? =some false:=by simpa using h1
     simp[Array.getD_eq_getD_getElem?,this]
    ·have h4:(l++[o₁]).toArray[i]? =some (l++[o₁])[i]:=by rw[List.getElem?_toArray];exact List.getElem?_eq_getElem dV
     rw[h4];simp only[Option.map_some,Option.getD_some,Array.all_eq_true_iff_forall_mem];intro e he
     cases hb:Region.binds .any e with
     |false=>rfl
     |true=>
      have hk:e.on∈cv (l++[o₁])[i]:=by
       simp only[cv,List.mem_map,List.mem_filter];exact⟨e,⟨by simpa using he,hb⟩,rfl⟩
      have OU:=cR dv i (l++[o₁])[i] (List.getElem?_eq_getElem dV) _ hk;have:listed[e.on]? =some true:=by simpa using h2 e.on (by omega)
      simp[Array.getD_eq_getD_getElem?,this]
   rw[rj]at eR;cases eR
  simp only[Region.linearise.go]
  change wpOpsIn (FW r) 0 P (l++[o₁]).toArray Q (match (Region.ready .any (l++[o₁]).toArray listed)[t%(Region.ready .any (l++[o₁]).toArray listed).length]? with
   |some i=>Region.linearise.go .any (l++[o₁]).toArray fuel (t/(Region.ready .any (l++[o₁]).toArray listed).length) (listed.setIfInBounds i true) [i]
   |none=>[].reverse) a w
  have dV:t%(Region.ready .any (l++[o₁]).toArray listed).length<(Region.ready .any (l++[o₁]).toArray listed).length:=Nat.mod_lt _ (List.length_pos_iff.2 eQ);rw[List.getElem?_eq_getElem dV];have eR:=List.getElem_mem dV;generalize (Region.ready .any (l++[o₁]).toArray listed)[t%(Region.ready .any (l++[o₁]).toArray listed).length]=j at eR;obtain⟨o,h1,h2,h3⟩:=ma j eR;simp only[];rw[linearise_go_acc,List.reverse_singleton,List.singleton_append];have wU:j<l.length+1:=by have:=(List.getElem?_eq_some_iff.1 h1).1;omega
  have xj:listed.toList[j]? =some false:=by simpa using h2
  have Xe:=kO xj;by_cases Ah:j=l.length
  ·subst Ah;have ho:o=o₁:=by simpa using h1.symm
   subst ho
   have pF:∀i,i<l.length→listed[i]? =some true:=fun i ik=>by
    have:=List.all_eq_true.1 jh i (List.mem_range.2 ik);simp only[Bool.or_eq_true,List.contains_iff_mem,List.any_eq_true]at this;rcases this with h|⟨k,tx,Ba⟩
    ·exact h3 i h
    ·cases hlk:(l++[o])[k]? with
     |none=>rw[hlk]at Ba;simp at Ba
     |some ok=>rw[hlk]at Ba;exact hi.closed k ok hlk (h3 k tx) i (by simpa using Ba)
   have hf0:fuel=0:=by
    have hz:(listed.toList.set l.length true).countP (!·)=0:=by
     rw[List.countP_eq_zero];intro b hb;obtain⟨i,ik⟩:=List.mem_iff_getElem?.1 hb;rw[List.getElem?_set]at ik
     split at ik
     ·split at ik
      ·cases ik;simp
      ·cases ik
     ·have oN:=(List.getElem?_eq_some_iff.1 ik).1;simp only[Array.length_toList]at oN;have:=pF i (by omega);have h9:listed.toList[i]? =some true:=by simpa using this
      rw[ik]at h9;cases h9;simp
    omega
   subst hf0;simp only[Region.linearise.go,List.reverse_nil];refine mU (o:=o) (by simp) ?_;refine kn a w ⟨hi.step.cH (fun b ⟨p,hp,hD,hb⟩=>⟨p,hp,?_,hb⟩) (fun b ⟨p,hp,_,hb⟩=>oM p hp b hb),fun i o s h1 h2 h3=>hi.fin i o s h1 h2 (pF i h3),hi.size,hi.defers,fun i o s d h1 h2 h3=>hi.done i o s d h1 h2 (pF i h3),fun t v h4 h5=>hi.base t v h4 fun i o' h6 h7=>h5 i o' h6 ?_,fun i o' h4 h5 k hk=>?_⟩
   ·have oN:=(Array.getElem?_eq_some_iff.1 hD).1;rcases Nat.lt_or_ge p.1 l.length with h|h
    ·exact h
    ·have:p.1=l.length:=by omega
     rw[this,xk]at hD;cases hD
   ·rcases Nat.lt_or_ge i l.length with h|h
    ·exact h
    ·have oN:=(List.getElem?_eq_some_iff.1 h6).1;have:i=l.length:=by omega
     rw[this,xk]at h7;cases h7
   ·have:=cR dv i o' h4 k hk;omega
  ·have Xf:l[j]? =some o:=by rwa [List.getElem?_append_left (by omega)]at h1
   refine hi.next dv vT oM (by have:=jU.get j o Xf;rwa [Nat.zero_add]at this) h1 (by rw[h2];simp) h3 fun a' w' ik=> ?_
   refine ih _ _ _ _ (by simpa using jJ) ?_ ?_ ?_
   ·simp only[Array.toList_setIfInBounds];omega
   ·rw[Array.getElem?_setIfInBounds,if_neg Ah];exact xk
   ·have A9:j<listed.size:=(Array.getElem?_eq_some_iff.1 h2).1
    have jE:∀i,((listed.setIfInBounds j true)[i]? =some true)↔(i=j∨listed[i]? =some true):=by
     intro i;rw[Array.getElem?_setIfInBounds];by_cases jr:j=i
     ·subst jr;simp[A9]
     ·rw[if_neg jr];exact⟨.inr,fun h=>h.resolve_left (fun e=>jr e.symm)⟩
    exact⟨ik.step.cH (fun b ⟨p,hp,hD,hb⟩=>⟨p,hp,(jE p.1).2 hD,hb⟩) (fun b ⟨p,hp,_,hb⟩=>oM p hp b hb),fun i o s h1 h2 h3=>ik.fin i o s h1 h2 ((jE i).1 h3),ik.size,ik.defers,fun i o s d h1 h2 h3=>ik.done i o s d h1 h2 ((jE i).1 h3),fun t v h1 h2=>ik.base t v h1 fun i o h3 h4=>h2 i o h3 ((jE i).2 h4),fun i o h1 h2 k hk=>(jE k).2 (ik.closed i o h1 ((jE i).1 h2) k hk)⟩
theorem T.Ko {id:Nat} {l:List Oper} {o₁:Oper} (hm:P.follows .mixedOrders=true) (F:List (Nat×aD)) (S:List (cT M)) (dv:eH (l++[o₁]) 0=true) (jh:(List.range l.length).all (fun i=>(cv o₁).contains i||(cv o₁).any (fun k=>(((l++[o₁])[k]?.map cv).getD []).contains i))=true) (Ag:S.length=l.length) (oM:∀p∈F,∀b,p.2 b→M b) (vT:vR F (l++[o₁]) S 0) (jU:dR P r n F w (l++[o₁]) S ds L l S 0)
  (kn:∀w',Step M w M w' (jD (F.map (·.2)))→gw w' (fun acc=>Rg P r n (l++[o₁]).toArray [o₁] (acc++km (l++[o₁]) (l.length+1) L) ds w' (fun e L ds w=>e= .normal∧K .normal L ds w)) l S []):T P r n (.region id (l++[o₁]).toArray true) L ds w K:=by
 refine⟨fun a ha=>wpIn_region_draw fun t=>?_⟩;simp only[Region.schedule,hm,Bool.true_or,if_true,Region.linearise];have hd:Step M w M {w with drawn:=w.drawn+1} aC:=lY M w;refine OV (w0:=w) (S:=S) dv jh Ag jU vT.st oM (Q:=up n K) ?_ _ t _ a _ (by simp) (by simp[List.countP_replicate]) (by simp[Array.getElem?_replicate]) ⟨hd.cH (fun _ h=>h.elim) (fun b ⟨p,hp,_,hb⟩=>oM p hp b hb),?_,ha.size,ha.defers,?_,?_,?_⟩
 ·intro a' w' hi
  have iU:∀{i:Nat} {o:Oper},l[i]? =some o→(l++[o₁])[i]? =some o∧i<l.length:=fun {i o} h=>by
   have h1:=(List.getElem?_eq_some_iff.1 h).1;exact⟨by rw[List.getElem?_append_left h1];exact h,h1⟩
  obtain⟨acc,h1,h2⟩:=gw.use (a:=a') l S [] (fun i o s h1 h2 h3=>hi.fin i o s (iU h1).1 h2 (iU h1).2 h3) (fun i o s d h1 h2 h3=>hi.done i o s d (iU h1).1 h2 (iU h1).2 h3) (fun t v h=>by simp[lk]at h)
   (kn w' (hi.step.cH (fun b ⟨p,hp,_,hb⟩=>fA.2 ⟨p.2,List.mem_map.2 ⟨p,hp,rfl⟩,hb⟩) (fun b hb=>by
    obtain⟨N,hN,Io⟩:=fA.1 hb;obtain⟨p,hp,rfl⟩:=List.mem_map.1 hN;exact oM p hp b Io)))
  have h3:=h1.run a' ⟨hi.size,hi.defers,fun t v h=>by
   rcases lZ h with h|h
   ·exact h2 t v h
   ·obtain⟨h3,h4⟩:=j4 (f:=lg (l++[o₁]) (l.length+1)) h;refine hi.base t v h4 fun i o h5 _ h6=> ?_
    simp only[lg,List.all_eq_true]at h3;have:=h3 o (List.mem_of_getElem? h5);simp only[h6,beq_self_eq_true,Bool.not_true,Bool.false_or,List.contains_iff_mem]at this;have h7:=cR dv i o h5 _ this;have h8:=(List.getElem?_eq_some_iff.1 h5).1;simp at h8;omega⟩
  exact xG h3 fun e a2 w2 ⟨L2,ds2,ha2,he,hk⟩=>⟨he,L2,ds2,ha2,hk⟩
 ·intro i o s h1 h2 h3;simp[Array.getElem?_replicate]at h3
 ·intro i o s d h1 h2 h3;simp[Array.getElem?_replicate]at h3
 ·intro t v h1 _;exact ha.at_ t v h1
 ·intro i o h1 h2;simp[Array.getElem?_replicate]at h2
def ko (l:List Oper) (k:Nat):Bool:=(List.range' k (l.length-k)).all fun j=>((l[j]?.map cv).getD []).contains (j-1)
theorem kP {l:List Oper} {k:Nat} (h:ko l k=true) {j:Nat} {o:Oper} (hj:k≤j) (ho:l[j]? =some o):j-1∈cv o:=by
 have dV:=(List.getElem?_eq_some_iff.1 ho).1;have:=List.all_eq_true.1 h j (List.mem_range'_1.2 ⟨hj,by omega⟩);rw[ho]at this;simpa using this
theorem CD {l:List Oper} (dv:eH l 0=true):∀(fuel k t:Nat) (listed:Array Bool),listed.size=l.length→k+fuel=l.length→ko l (k+1)=true→(∀i,i<k→listed[i]? =some true)→(∀i,k≤i→i<l.length→listed[i]? =some false)→(∀i o,l[i]? =some o→i=k→∀j∈cv o,j<k)→
  Region.linearise.go .any l.toArray fuel t listed []=List.range' k fuel:=by
 intro fuel
 induction fuel with
 |zero=>intro k t listed _ _ _ _ _ _;rfl
 |succ fuel ih=>
  intro k t listed jJ hk xH h1 h2 h3
  have ma:Region.ready .any l.toArray listed=[k]:=by
   have eR:∀j,j∈Region.ready .any l.toArray listed↔j=k:=by
    intro j;simp only[Region.ready,List.mem_filter,List.mem_range,Bool.and_eq_true];constructor
    ·rintro⟨g1,g2,g3⟩;have wU:j<l.length:=by simpa using g1
     rcases Nat.lt_trichotomy j k with h|h|h
     ·have:=h1 j h;simp[Array.getD_eq_getD_getElem?,this]at g2
     ·exact h
     ·exfalso;have hp:=kP xH (j:=j) (by omega) (List.getElem?_eq_getElem wU);simp only[cv,List.mem_map,List.mem_filter]at hp;obtain⟨e,⟨Km,Kn⟩,he3⟩:=hp;have h4:l.toArray[j]? =some l[j]:=by rw[List.getElem?_toArray];exact List.getElem?_eq_getElem wU
      rw[h4]at g3;simp only[Option.map_some,Option.getD_some,Array.all_eq_true_iff_forall_mem]at g3;have h5:=g3 e (by simpa using Km);rw[Kn,he3]at h5;have:=h2 (j-1) (by omega) (by omega);simp[Array.getD_eq_getD_getElem?,this]at h5
    ·rintro rfl;have wU:j<l.length:=by omega
     refine⟨by simpa using wU,?_,?_⟩
     ·have:=h2 j (Nat.le_refl _) wU;simp[Array.getD_eq_getD_getElem?,this]
     ·have h4:l.toArray[j]? =some l[j]:=by rw[List.getElem?_toArray];exact List.getElem?_eq_getElem wU
      rw[h4];simp only[Option.map_some,Option.getD_some,Array.all_eq_true_iff_forall_mem];intro e he
      cases hb:Region.binds .any e with
      |false=>rfl
      |true=>
       have hkp:e.on∈cv l[j]:=by simp only[cv,List.mem_map,List.mem_filter];exact⟨e,⟨by simpa using he,hb⟩,rfl⟩
       have:=h1 _ (h3 j l[j] (List.getElem?_eq_getElem wU) rfl _ hkp);simp[Array.getD_eq_getD_getElem?,this]
   have oD:(Region.ready .any l.toArray listed).Nodup:=by unfold Region.ready;exact List.Pairwise.filter _ List.nodup_range
   cases hr:Region.ready .any l.toArray listed with
   |nil=>have:=(eR k).2 rfl;rw[hr]at this;cases this
   |cons x xs=>
    have hx:x=k:=(eR x).1 (by rw[hr];exact List.mem_cons_self ..)
    cases xs with
    |nil=>rw[hx]
    |cons y ys=>
     have hy:y=k:=(eR y).1 (by rw[hr];simp);rw[hr]at oD;simp[hx,hy]at oD
  simp only[Region.linearise.go]
  change(match (Region.ready .any l.toArray listed)[t%(Region.ready .any l.toArray listed).length]? with
   |some i=>Region.linearise.go .any l.toArray fuel (t/(Region.ready .any l.toArray listed).length) (listed.setIfInBounds i true) [i]
   |none=>[].reverse)=_
  rw[ma];simp only[List.length_singleton,Nat.mod_one,List.getElem?_cons_zero];rw[linearise_go_acc,List.reverse_singleton,List.singleton_append];have Cl:k<listed.size:=by omega
  rw[ih (k+1) _ _ (by simpa using jJ) (by omega) (by
   simp only[ko,List.all_eq_true]at xH ⊢;intro j hj;exact xH j (by rw[List.mem_range'_1]at hj ⊢;omega)) ?_ ?_ ?_]
  ·rfl
  ·intro i hi;rw[Array.getElem?_setIfInBounds];by_cases e:k=i
   ·subst e;simp[Cl]
   ·rw[if_neg e];exact h1 i (by omega)
  ·intro i hi oN;rw[Array.getElem?_setIfInBounds,if_neg (by omega)];exact h2 i (by omega) oN
  ·intro i o ho hi j hj;have:=cR dv i o ho j hj;omega
def k9 (l:List Oper):Nat→List Nat→Bool
 |0,_=>true
 |j+1,acc=>acc.contains j&&k9 l j (acc++(l[j]?.map cv).getD [])
theorem oO {l:List Oper} {D:Nat→Prop} (lz:∀k o,l[k]? =some o→D k→∀i∈cv o,D i):∀(j:Nat) (acc:List Nat),k9 l j acc=true→(∀k∈acc,D k)→∀i,i<j→D i
 |0,_,_,_,i,hi=>by omega
 |j+1,acc,h,ha,i,hi=>by
  simp only[k9,Bool.and_eq_true,List.contains_iff_mem]at h;have hj:=ha j h.1;rcases Nat.lt_or_ge i j with dV|Kc
  ·refine oO lz j _ h.2 (fun k hk=>?_) i dV;rcases List.mem_append.1 hk with hk|hk
   ·exact ha k hk
   ·cases ho:l[j]? with
    |none=>rw[ho]at hk;simp at hk
    |some o=>rw[ho]at hk;exact lz j o ho hj k (by simpa using hk)
  ·rw[show i=j from by omega];exact hj
theorem Ir {w0:World} {l:List Oper} {o₁:Oper} {tl:List Oper} {S:List (cT M)} (dv:eH (l++o₁::tl) 0=true) (jh:k9 (l++o₁::tl) l.length (cv o₁)=true) (xH:ko (l++o₁::tl) (l.length+1)=true) (Ag:S.length=l.length) (jU:dR P r n F w0 (l++o₁::tl) S ds L l S 0) (vT:xF F (l++o₁::tl) S) (oM:∀p∈F,∀b,p.2 b→M b) {Q:Exit→Act→World→Prop}
  (kn:∀a w,Inv F S (l++o₁::tl) w0 L ds n (fun i=>i<l.length) a w→wpListIn (FW r) 0 P (l++o₁::tl).toArray Q (o₁::tl) a w):∀(fuel t:Nat) (listed:Array Bool) (a:Act) (w:World),listed.size=(l++o₁::tl).length→listed.toList.countP (!·)=fuel→(∀i,l.length≤i→i<(l++o₁::tl).length→listed[i]? =some false)→
  Inv F S (l++o₁::tl) w0 L ds n (fun i=>listed[i]? =some true) a w→wpOpsIn (FW r) 0 P (l++o₁::tl).toArray Q (Region.linearise.go .any (l++o₁::tl).toArray fuel t listed []) a w:=by
 intro fuel
 induction fuel with
 |zero=>
  intro t listed a w jJ hc xk hi;have:=jg hc l.length (by simp[jJ]);have h2:listed.toList[l.length]? =some false:=by simpa using xk l.length (Nat.le_refl _) (by simp)
  rw[h2]at this;cases this
 |succ fuel ih=>
  intro t listed a w jJ hc xk hi;have Ik:(l++o₁::tl).length=l.length+1+tl.length:=by simp;omega
  have acz:listed[l.length]? =some false:=xk l.length (Nat.le_refl _) (by omega)
  have ma:∀j,j∈Region.ready .any (l++o₁::tl).toArray listed→∃o,(l++o₁::tl)[j]? =some o∧listed[j]? =some false∧∀k∈cv o,listed[k]? =some true:=by
   intro j hj;simp only[Region.ready,List.mem_filter,List.mem_range,Bool.and_eq_true]at hj;obtain⟨h1,h2,h3⟩:=hj;have dV:j<(l++o₁::tl).length:=by simpa using h1
   refine⟨(l++o₁::tl)[j],List.getElem?_eq_getElem dV,?_,?_⟩
   ·rw[Array.getElem?_eq_getElem (by omega)];simp only[Array.getD_eq_getD_getElem?,Array.getElem?_eq_getElem (show j<listed.size by omega),Option.getD_some,Bool.not_eq_true']at h2;rw[h2]
   ·intro k hk;simp only[cv,List.mem_map,List.mem_filter]at hk;obtain⟨e,⟨Km,Kn⟩,rfl⟩:=hk;have h4:(l++o₁::tl).toArray[j]? =some (l++o₁::tl)[j]:=by rw[List.getElem?_toArray];exact List.getElem?_eq_getElem dV
    rw[h4]at h3;simp only[Option.map_some,Option.getD_some,Array.all_eq_true_iff_forall_mem]at h3;have h5:=h3 e (by simpa using Km);rw[Kn]at h5;simp only[Bool.not_true,Bool.false_or,Array.getD_eq_getD_getElem?]at h5
    cases hx:listed[e.on]? with
    |none=>simp[hx]at h5
    |some b=>simp[hx]at h5;rw[h5]
  have eQ:Region.ready .any (l++o₁::tl).toArray listed≠[]:=by
   obtain⟨i,h1,h2⟩:=l9 (bs:=listed.toList) (by omega)
   have dV:i<(l++o₁::tl).length:=by
    have:=(List.getElem?_eq_some_iff.1 h1).1;simp only[Array.length_toList]at this;omega
   intro rj
   have eR:i∈Region.ready .any (l++o₁::tl).toArray listed:=by
    simp only[Region.ready,List.mem_filter,List.mem_range,Bool.and_eq_true];refine⟨by simpa using dV,?_,?_⟩
    ·have:listed[i]? =some false:=by simpa using h1
     simp[Array.getD_eq_getD_getElem?,this]
    ·have h4:(l++o₁::tl).toArray[i]? =some (l++o₁::tl)[i]:=by rw[List.getElem?_toArray];exact List.getElem?_eq_getElem dV
     rw[h4];simp only[Option.map_some,Option.getD_some,Array.all_eq_true_iff_forall_mem];intro e he
     cases hb:Region.binds .any e with
     |false=>rfl
     |true=>
      have hk:e.on∈cv (l++o₁::tl)[i]:=by
       simp only[cv,List.mem_map,List.mem_filter];exact⟨e,⟨by simpa using he,hb⟩,rfl⟩
      have OU:=cR dv i (l++o₁::tl)[i] (List.getElem?_eq_getElem dV) _ hk;have:listed[e.on]? =some true:=by simpa using h2 e.on (by omega)
      simp[Array.getD_eq_getD_getElem?,this]
   rw[rj]at eR;cases eR
  simp only[Region.linearise.go]
  change wpOpsIn (FW r) 0 P (l++o₁::tl).toArray Q (match (Region.ready .any (l++o₁::tl).toArray listed)[t%(Region.ready .any (l++o₁::tl).toArray listed).length]? with
   |some i=>Region.linearise.go .any (l++o₁::tl).toArray fuel (t/(Region.ready .any (l++o₁::tl).toArray listed).length) (listed.setIfInBounds i true) [i]
   |none=>[].reverse) a w
  have dV:t%(Region.ready .any (l++o₁::tl).toArray listed).length<(Region.ready .any (l++o₁::tl).toArray listed).length:=Nat.mod_lt _ (List.length_pos_iff.2 eQ);rw[List.getElem?_eq_getElem dV];have eR:=List.getElem_mem dV;generalize (Region.ready .any (l++o₁::tl).toArray listed)[t%(Region.ready .any (l++o₁::tl).toArray listed).length]=j at eR;obtain⟨o,h1,h2,h3⟩:=ma j eR;simp only[];rw[linearise_go_acc,List.reverse_singleton,List.singleton_append];have wU:j<l.length+1+tl.length:=by have:=(List.getElem?_eq_some_iff.1 h1).1;omega
  have xj:listed.toList[j]? =some false:=by simpa using h2
  have Xe:=kO xj;by_cases Ah:j=l.length
  ·subst Ah;have ho:o=o₁:=by simpa using h1.symm
   subst ho;have pF:∀i,i<l.length→listed[i]? =some true:=fun i ik=>oO (D:=fun i=>listed[i]? =some true) hi.closed l.length (cv o) jh (fun k hk=>h3 k hk) i ik
   have hfu:fuel=tl.length:=by
    have hz:((listed.toList.set l.length true).drop (l.length+1)).countP (!·)=tl.length:=by
     rw[List.drop_set_of_lt (by omega)]
     have il:∀b∈listed.toList.drop (l.length+1),(!b)=true:=by
      intro b hb;obtain⟨i,ik⟩:=List.mem_iff_getElem?.1 hb;rw[List.getElem?_drop]at ik;have oN:=(List.getElem?_eq_some_iff.1 ik).1;simp only[Array.length_toList]at oN;have:=xk (l.length+1+i) (by omega) (by omega);have h9:listed.toList[l.length+1+i]? =some false:=by simpa using this
      rw[ik]at h9;cases h9;rfl
     rw[List.countP_eq_length.2 il,List.length_drop,Array.length_toList];omega
    have hy:((listed.toList.set l.length true).take (l.length+1)).countP (!·)=0:=by
     rw[List.countP_eq_zero];intro b hb;obtain⟨i,ik⟩:=List.mem_iff_getElem?.1 hb;rw[List.getElem?_take]at ik
     split at ik
     ·rw[List.getElem?_set]at ik
      split at ik
      ·split at ik
       ·cases ik;simp
       ·cases ik
      ·have:=pF i (by omega);have h9:listed.toList[i]? =some true:=by simpa using this
       rw[ik]at h9;cases h9;simp
     ·cases ik
    have:=List.take_append_drop (l.length+1) (listed.toList.set l.length true)
    have h8:(listed.toList.set l.length true).countP (!·)=0+tl.length:=by
     rw[←hy,←hz,←List.countP_append,this]
    omega
   subst hfu;have qj:l.length<listed.size:=by omega
   rw[CD dv tl.length (l.length+1) _ _ (by simpa using jJ) (by omega) (by
    simp only[ko,List.all_eq_true]at xH ⊢;intro j hj
    exact xH j (by rw[List.mem_range'_1]at hj ⊢;omega)) (fun i ik=>by
     rw[Array.getElem?_setIfInBounds];by_cases e:l.length=i
     ·subst e;simp[qj]
     ·rw[if_neg e];exact pF i (by omega)) (fun i h5 h6=>by
     rw[Array.getElem?_setIfInBounds,if_neg (by omega)];exact xk i (by omega) h6) (fun i o' gy he j hj=>by have:=cR dv i o' gy j hj;omega)]
   have OW:l.length::List.range' (l.length+1) tl.length=List.range' l.length (o::tl).length:=by simp[List.range'_succ]
   rw[OW,wpOpsIn_eq_wpListIn (o::tl) l.length (fun j=>by rw[List.getElem?_toArray,List.getElem?_append_right (by omega)];congr 1;omega)];refine kn a w ⟨hi.step.cH (fun b ⟨p,hp,hD,hb⟩=>⟨p,hp,?_,hb⟩) (fun b ⟨p,hp,_,hb⟩=>oM p hp b hb),fun i o s h1 h2 h3=>hi.fin i o s h1 h2 (pF i h3),hi.size,hi.defers,fun i o s d h1 h2 h3=>hi.done i o s d h1 h2 (pF i h3),fun t v h4 h5=>hi.base t v h4 fun i o' h6 h7=>h5 i o' h6 ?_,fun i o' h4 h5 k hk=>?_⟩
   ·have oN:=(Array.getElem?_eq_some_iff.1 hD).1;rcases Nat.lt_or_ge p.1 l.length with h|h
    ·exact h
    ·have hD':listed[p.1]? =some true:=hD;rw[xk p.1 h (by omega)]at hD';cases hD'
   ·rcases Nat.lt_or_ge i l.length with h|h
    ·exact h
    ·have oN:=(List.getElem?_eq_some_iff.1 h6).1;rw[xk i h oN]at h7;cases h7
   ·have:=cR dv i o' h4 k hk;omega
  ·have Q1:j<l.length:=by
    rcases Nat.lt_or_ge j l.length with h|h
    ·exact h
    ·exfalso;have hp:=h3 _ (kP xH (j:=j) (by omega) h1);rw[xk (j-1) (by omega) (by omega)]at hp;cases hp
   have Xf:l[j]? =some o:=by rwa [List.getElem?_append_left (by omega)]at h1
   refine hi.next dv vT oM (by have:=jU.get j o Xf;rwa [Nat.zero_add]at this) h1 (by rw[h2];simp) h3 fun a' w' ik=> ?_
   refine ih _ _ _ _ (by simpa using jJ) ?_ ?_ ?_
   ·simp only[Array.toList_setIfInBounds];omega
   ·intro i h5 h6;rw[Array.getElem?_setIfInBounds,if_neg (by omega)];exact xk i h5 h6
   ·have A9:j<listed.size:=(Array.getElem?_eq_some_iff.1 h2).1
    have jE:∀i,((listed.setIfInBounds j true)[i]? =some true)↔(i=j∨listed[i]? =some true):=by
     intro i;rw[Array.getElem?_setIfInBounds];by_cases jr:j=i
     ·subst jr;simp[A9]
     ·rw[if_neg jr];exact⟨.inr,fun h=>h.resolve_left (fun e=>jr e.symm)⟩
    exact⟨ik.step.cH (fun b ⟨p,hp,hD,hb⟩=>⟨p,hp,(jE p.1).2 hD,hb⟩) (fun b ⟨p,hp,_,hb⟩=>oM p hp b hb),fun i o s h1 h2 h3=>ik.fin i o s h1 h2 ((jE i).1 h3),ik.size,ik.defers,fun i o s d h1 h2 h3=>ik.done i o s d h1 h2 ((jE i).1 h3),fun t v h1 h2=>ik.base t v h1 fun i o h3 h4=>h2 i o h3 ((jE i).2 h4),fun i o h1 h2 k hk=>(jE k).2 (ik.closed i o h1 ((jE i).1 h2) k hk)⟩
theorem T.E8 {id:Nat} {l:List Oper} {o₁:Oper} {tl:List Oper} (hm:P.follows .mixedOrders=true) (F:List (Nat×aD)) (S:List (cT M)) (dv:eH (l++o₁::tl) 0=true) (jh:k9 (l++o₁::tl) l.length (cv o₁)=true) (xH:ko (l++o₁::tl) (l.length+1)=true) (Ag:S.length=l.length) (oM:∀p∈F,∀b,p.2 b→M b) (vT:vR F (l++o₁::tl) S 0) (jU:dR P r n F w (l++o₁::tl) S ds L l S 0)
  (kn:∀w',Step M w M w' (jD (F.map (·.2)))→gw w' (fun acc=>Rg P r n (l++o₁::tl).toArray (o₁::tl) (acc++km (l++o₁::tl) (l.length+1+tl.length) L) ds w' K) l S []):T P r n (.region id (l++o₁::tl).toArray true) L ds w K:=by
 refine⟨fun a ha=>wpIn_region_draw fun t=>?_⟩;simp only[Region.schedule,hm,Bool.true_or,if_true,Region.linearise];have hd:Step M w M {w with drawn:=w.drawn+1} aC:=lY M w;refine Ir (w0:=w) (S:=S) dv jh xH Ag jU vT.st oM (Q:=up n K) ?_ _ t _ a _ (by simp) (by simp[List.countP_replicate]) (by intro i _ h;simp[Array.getElem?_replicate];simpa using h) ⟨hd.cH (fun _ h=>h.elim) (fun b ⟨p,hp,_,hb⟩=>oM p hp b hb),?_,ha.size,ha.defers,?_,?_,?_⟩
 ·intro a' w' hi
  have iU:∀{i:Nat} {o:Oper},l[i]? =some o→(l++o₁::tl)[i]? =some o∧i<l.length:=fun {i o} h=>by
   have h1:=(List.getElem?_eq_some_iff.1 h).1;exact⟨by rw[List.getElem?_append_left h1];exact h,h1⟩
  obtain⟨acc,h1,h2⟩:=gw.use (a:=a') l S [] (fun i o s h1 h2 h3=>hi.fin i o s (iU h1).1 h2 (iU h1).2 h3) (fun i o s d h1 h2 h3=>hi.done i o s d (iU h1).1 h2 (iU h1).2 h3) (fun t v h=>by simp[lk]at h)
   (kn w' (hi.step.cH (fun b ⟨p,hp,_,hb⟩=>fA.2 ⟨p.2,List.mem_map.2 ⟨p,hp,rfl⟩,hb⟩) (fun b hb=>by
    obtain⟨N,hN,Io⟩:=fA.1 hb;obtain⟨p,hp,rfl⟩:=List.mem_map.1 hN;exact oM p hp b Io)))
  have h3:=h1.run a' ⟨hi.size,hi.defers,fun t v h=>by
   rcases lZ h with h|h
   ·exact h2 t v h
   ·obtain⟨h3,h4⟩:=j4 (f:=lg (l++o₁::tl) (l.length+1+tl.length)) h;refine hi.base t v h4 fun i o h5 _ h6=> ?_
    simp only[lg,List.all_eq_true]at h3;have:=h3 o (List.mem_of_getElem? h5);simp only[h6,beq_self_eq_true,Bool.not_true,Bool.false_or,List.contains_iff_mem]at this;have h7:=cR dv i o h5 _ this;have h8:=(List.getElem?_eq_some_iff.1 h5).1;simp at h8;omega⟩
  exact h3
 ·intro i o s h1 h2 h3;simp[Array.getElem?_replicate]at h3
 ·intro i o s d h1 h2 h3;simp[Array.getElem?_replicate]at h3
 ·intro t v h1 _;exact ha.at_ t v h1
 ·intro i o h1 h2;simp[Array.getElem?_replicate]at h2
theorem T.Q2 {id:Nat} {l:List Oper} (hm:P.follows .mixedOrders=true) (F:List (Nat×aD)) (S:List (cT M)) (dv:eH l 0=true) (oM:∀p∈F,∀b,p.2 b→M b) (vT:xF F l S) (jU:dR P r n F w l S ds L l S 0)
  (kn:∀w',Step M w M w' (jD (F.map (·.2)))→gw w' (fun acc=>K .normal (acc++km l l.length L) ds w') l S []):T P r n (.region id l.toArray true) L ds w K:=by
 refine⟨fun a ha=>wpIn_region_draw fun t=>?_⟩;simp only[Region.schedule,hm,Bool.true_or,if_true,Region.linearise];have hd:Step M w M {w with drawn:=w.drawn+1} aC:=lY M w;refine Iq (w0:=w) (S:=S) dv jU vT oM (Q:=up n K) ?_ _ t _ a _ (by simp) (by simp[List.countP_replicate]) ⟨hd.cH (fun _ h=>h.elim) (fun b ⟨p,hp,_,hb⟩=>oM p hp b hb),?_,ha.size,ha.defers,?_,?_,?_⟩
 ·intro a' w' hi
  obtain⟨acc,h1,h2⟩:=gw.use (a:=a') l S [] (fun i o s h1 h2 h3=>hi.fin i o s h1 h2 ((List.getElem?_eq_some_iff.1 h1).1) h3) (fun i o s d h1 h2 h3=>hi.done i o s d h1 h2 ((List.getElem?_eq_some_iff.1 h1).1) h3) (fun t v h=>by simp[lk]at h)
   (kn w' (hi.step.cH (fun b ⟨p,hp,_,hb⟩=>fA.2 ⟨p.2,List.mem_map.2 ⟨p,hp,rfl⟩,hb⟩) (fun b hb=>by
    obtain⟨N,hN,Io⟩:=fA.1 hb;obtain⟨p,hp,rfl⟩:=List.mem_map.1 hN;exact oM p hp b Io)))
  refine⟨_,_,⟨hi.size,hi.defers,fun t v h=>?_⟩,h1⟩;rcases lZ h with h|h
  ·exact h2 t v h
  ·obtain⟨h3,h4⟩:=j4 (f:=lg l l.length) h;refine hi.base t v h4 fun i o h5 _ h6=> ?_
   simp only[lg,List.all_eq_true]at h3;have:=h3 o (List.mem_of_getElem? h5);simp only[h6,beq_self_eq_true,Bool.not_true,Bool.false_or,List.contains_iff_mem]at this;have h7:=cR dv i o h5 _ this;have h8:=(List.getElem?_eq_some_iff.1 h5).1;omega
 ·intro i o s h1 h2 h3;simp[Array.getElem?_replicate]at h3
 ·intro i o s d h1 h2 h3;simp[Array.getElem?_replicate]at h3
 ·intro t v h1 _;exact ha.at_ t v h1
 ·intro i o h1 h2;simp[Array.getElem?_replicate]at h2
theorem T.Q3 {id:Nat} {l:List Oper} (hm:P.follows .mixedOrders=true) (F:List (Nat×aD)) (S:List (cT M)) (dv:eH l 0=true) (oM:∀p∈F,∀b,p.2 b→M b) (vT:vR F l S 0) (jU:dR P r n F w l S ds L l S 0)
  (kn:∀w',Step M w M w' (jD (F.map (·.2)))→gw w' (fun acc=>K .normal (acc++km l l.length L) ds w') l S []):T P r n (.region id l.toArray true) L ds w K:= .Q2 hm F S dv oM vT.st jU kn
theorem vR.none:∀{l:List Oper} {S:List (cT M)} {k:Nat},vR [] l S k
 |[],_,_=>by simp[vR]
 |_::_,[],_=>by simp[vR]
 |_::_,_::_,_=>⟨fun p hp=>by simp at hp,vR.none⟩
theorem T.draw {id:Nat} {l:List Oper} (hm:P.follows .mixedOrders=true) (S:List (cT M)) (dv:eH l 0=true) (jU:dR P r n [] w l S ds L l S 0)
  (kn:∀w',Step M w M w' aC→gw w' (fun acc=>K .normal (acc++km l l.length L) ds w') l S []):T P r n (.region id l.toArray true) L ds w K:=
 .Q3 hm [] S dv (fun p hp=>by cases hp) vR.none jU kn
def bL (P:Program) (r:Option Nat) (n:Nat) {M:aD} (F:List (Nat×aD)) (w:World) (l:List Oper) (S:List (cT M)) (ds:List Deferred) (L:Sl):List Oper→List (cT M)→Nat→Prop
 |o::os,s::ss,j=>Wu P r n F w l S ds L j o s∧bL P r n F w l S ds L os ss (j+1)
 |[],[],_=>True
 |_::_,[],_=>True
 |[],_::_,_=>False
theorem bL.cons {l:List Oper} {S:List (cT M)} {o:Oper} {os:List Oper} {s:cT M} {ss:List (cT M)} {j:Nat}
  (h:Wu P r n F w l S ds L j o s) (h':bL P r n F w l S ds L os ss (j+1)):bL P r n F w l S ds L (o::os) (s::ss) j:=⟨h,h'⟩
theorem bL.nil {l:List Oper} {S:List (cT M)} {o:Oper} {os:List Oper} {j:Nat}:bL P r n F w l S ds L (o::os) [] j:=by unfold bL;trivial
theorem bL.take {l:List Oper} {S:List (cT M)}:∀{os:List Oper} {ss:List (cT M)} {j:Nat},bL P r n F w l S ds L os ss j→dR P r n F w l S ds L (os.take ss.length) ss j
 |[],[],_,_=>by simp[dR]
 |_::_,[],_,_=>by simp[dR]
 |[],_::_,_,h=>by simp[bL]at h
 |_::os,_::ss,_,h=>⟨h.1,bL.take h.2⟩
theorem gw.take {w:World} {k:Sl→Prop}:∀{os:List Oper} {ss:List (cT M)} {acc:Sl},gw w k os ss acc→gw w k (os.take ss.length) ss acc
 |[],[],_,h=>by simpa[gw]using h
 |_::_,[],_,h=>by simpa[gw]using h
 |[],_::_,_,h=>by simpa[gw]using h
 |o::os,s::ss,acc,h=>by
  simp only[List.length_cons,List.take_succ_cons,gw]at h ⊢
  split
  ·rename_i d hd
   rw[hd]at h;exact fun v hv=>gw.take (h v hv)
  ·rename_i hd
   rw[hd]at h;exact fun v hv=>gw.take (h v hv)
theorem T.Hg {id:Nat} {l:List Oper} (o₁:Oper) (hm:P.follows .mixedOrders=true) (F:List (Nat×aD)) (S:List (cT M)) (ho:l[S.length]? =some o₁) (Ag:l.length=S.length+1) (dv:eH l 0=true) (jh:(List.range S.length).all (fun i=>(cv o₁).contains i||(cv o₁).any (fun k=>((l[k]?.map cv).getD []).contains i))=true) (oM:∀p∈F,∀b,p.2 b→M b) (vT:vR F l S 0) (jU:bL P r n F w l S ds L l S 0)
  (kn:∀w',Step M w M w' (jD (F.map (·.2)))→gw w' (fun acc=>Rg P r n l.toArray [o₁] (acc++km l l.length L) ds w' (fun e L ds w=>e= .normal∧K .normal L ds w)) l S []):T P r n (.region id l.toArray true) L ds w K:=by
 have hl:l=l.take S.length++[o₁]:=by
  obtain⟨h1,h2⟩:=List.getElem?_eq_some_iff.1 ho;rw[←h2,←List.take_succ_eq_append_getElem h1,←Ag,List.take_length]
 have zk:(l.take S.length).length=S.length:=by simp;omega
 have:=T.Ko (id:=id) (l:=l.take S.length) (o₁:=o₁) (w:=w) (K:=K) hm F S (by rw[←hl];exact dv) (by rw[zk,←hl];exact jh) zk.symm oM (by rw[←hl];exact vT) (by rw[←hl];exact jU.take) (fun w' s=>by rw[←hl,zk,←Ag];exact(kn w' s).take)
 rwa [←hl]at this
theorem T.CE {id:Nat} {l:List Oper} (hm:P.follows .mixedOrders=true) (F:List (Nat×aD)) (S:List (cT M)) (m:Nat) (Tc:S.length=m) (qj:Nat.blt m l.length=true) (dv:eH l 0=true) (jh:k9 l m ((l[m]?.map cv).getD [])=true) (xH:ko l (m+1)=true) (oM:∀p∈F,∀b,p.2 b→M b) (vT:vR F l S 0) (jU:bL P r n F w l S ds L l S 0)
  (kn:∀w',Step M w M w' (jD (F.map (·.2)))→gw w' (fun acc=>Rg P r n l.toArray (l.drop m) (acc++km l l.length L) ds w' K) l S []):T P r n (.region id l.toArray true) L ds w K:=by
 subst Tc;have Ag:S.length<l.length:=by simpa[Nat.blt_eq]using qj
 have hl:l=l.take S.length++l[S.length]::l.drop (S.length+1):=by
  rw[←List.drop_eq_getElem_cons Ag,List.take_append_drop]
 have zk:(l.take S.length).length=S.length:=by simp;omega
 have hg:l[S.length]? =some l[S.length]:=List.getElem?_eq_getElem Ag;have hln:S.length+1+(l.drop (S.length+1)).length=l.length:=by rw[List.length_drop];omega
 have:=T.E8 (id:=id) (l:=l.take S.length) (o₁:=l[S.length]) (tl:=l.drop (S.length+1)) (w:=w) (K:=K) hm F S (by rw[←hl];exact dv) (by rw[zk,←hl];rw[hg]at jh;exact jh) (by rw[zk,←hl];exact xH) zk.symm oM (by rw[←hl];exact vT) (by rw[←hl];exact jU.take) (fun w' s=>by rw[←hl,zk,hln,←List.drop_eq_getElem_cons Ag];exact(kn w' s).take)
 rwa [←hl]at this
end
end Go.K
namespace Go.K
section
variable {P:Program} {r:Option Nat} {n:Nat} {L:Sl} {ds:List Deferred} {w:World} {K:Kt}
theorem E9 {l:List Oper} {o₁:Oper} {tl:List Oper} {J:(Nat→Prop)→Act→World→Prop} (dv:eH (l++o₁::tl) 0=true) (jh:k9 (l++o₁::tl) l.length (cv o₁)=true) (xH:ko (l++o₁::tl) (l.length+1)=true)
  (CF:∀{D D':Nat→Prop} {a w},J D a w→(∀i,i<(l++o₁::tl).length→(D' i↔D i))→J D' a w) {Q:Exit→Act→World→Prop}
  (Kp:∀{D:Nat→Prop} {a w j o rest},j<l.length→l[j]? =some o→¬D j→(∀k∈cv o,D k)→(∀i o,(l++o₁::tl)[i]? =some o→D i→∀k∈cv o,D k)→J D a w→(∀a' w',J (fun i=>i=j∨D i) a' w'→wpOpsIn (FW r) 0 P (l++o₁::tl).toArray Q rest a' w')→wpOpsIn (FW r) 0 P (l++o₁::tl).toArray Q (j::rest) a w)
  (kn:∀a w,J (fun i=>i<l.length) a w→wpListIn (FW r) 0 P (l++o₁::tl).toArray Q (o₁::tl) a w):∀(fuel t:Nat) (listed:Array Bool) (a:Act) (w:World),listed.size=(l++o₁::tl).length→listed.toList.countP (!·)=fuel→(∀i,l.length≤i→i<(l++o₁::tl).length→listed[i]? =some false)→
  (∀(i:Nat) (o:Oper),(l++o₁::tl)[i]? =some o→listed[i]? =some true→∀k∈cv o,listed[k]? =some true)→J (fun i=>listed[i]? =some true) a w→wpOpsIn (FW r) 0 P (l++o₁::tl).toArray Q (Region.linearise.go .any (l++o₁::tl).toArray fuel t listed []) a w:=by
 intro fuel
 induction fuel with
 |zero=>
  intro t listed a w jJ hc xk lz hi;have:=jg hc l.length (by simp[jJ]);have h2:listed.toList[l.length]? =some false:=by simpa using xk l.length (Nat.le_refl _) (by simp)
  rw[h2]at this;cases this
 |succ fuel ih=>
  intro t listed a w jJ hc xk lz hi;have Ik:(l++o₁::tl).length=l.length+1+tl.length:=by simp;omega
  have acz:listed[l.length]? =some false:=xk l.length (Nat.le_refl _) (by omega)
  have ma:∀j,j∈Region.ready .any (l++o₁::tl).toArray listed→∃o,(l++o₁::tl)[j]? =some o∧listed[j]? =some false∧∀k∈cv o,listed[k]? =some true:=by
   intro j hj;simp only[Region.ready,List.mem_filter,List.mem_range,Bool.and_eq_true]at hj;obtain⟨h1,h2,h3⟩:=hj;have dV:j<(l++o₁::tl).length:=by simpa using h1
   refine⟨(l++o₁::tl)[j],List.getElem?_eq_getElem dV,?_,?_⟩
   ·rw[Array.getElem?_eq_getElem (by omega)];simp only[Array.getD_eq_getD_getElem?,Array.getElem?_eq_getElem (show j<listed.size by omega),Option.getD_some,Bool.not_eq_true']at h2;rw[h2]
   ·intro k hk;simp only[cv,List.mem_map,List.mem_filter]at hk;obtain⟨e,⟨Km,Kn⟩,rfl⟩:=hk;have h4:(l++o₁::tl).toArray[j]? =some (l++o₁::tl)[j]:=by rw[List.getElem?_toArray];exact List.getElem?_eq_getElem dV
    rw[h4]at h3;simp only[Option.map_some,Option.getD_some,Array.all_eq_true_iff_forall_mem]at h3;have h5:=h3 e (by simpa using Km);rw[Kn]at h5;simp only[Bool.not_true,Bool.false_or,Array.getD_eq_getD_getElem?]at h5
    cases hx:listed[e.on]? with
    |none=>simp[hx]at h5
    |some b=>simp[hx]at h5;rw[h5]
  have eQ:Region.ready .any (l++o₁::tl).toArray listed≠[]:=by
   obtain⟨i,h1,h2⟩:=l9 (bs:=listed.toList) (by omega)
   have dV:i<(l++o₁::tl).length:=by
    have:=(List.getElem?_eq_some_iff.1 h1).1;simp only[Array.length_toList]at this;omega
   intro rj
   have eR:i∈Region.ready .any (l++o₁::tl).toArray listed:=by
    simp only[Region.ready,List.mem_filter,List.mem_range,Bool.and_eq_true];refine⟨by simpa using dV,?_,?_⟩
    ·have:listed[i]? =some false:=by simpa using h1
     simp[Array.getD_eq_getD_getElem?,this]
    ·have h4:(l++o₁::tl).toArray[i]? =some (l++o₁::tl)[i]:=by rw[List.getElem?_toArray];exact List.getElem?_eq_getElem dV
     rw[h4];simp only[Option.map_some,Option.getD_some,Array.all_eq_true_iff_forall_mem];intro e he
     cases hb:Region.binds .any e with
     |false=>rfl
     |true=>
      have hk:e.on∈cv (l++o₁::tl)[i]:=by
       simp only[cv,List.mem_map,List.mem_filter];exact⟨e,⟨by simpa using he,hb⟩,rfl⟩
      have OU:=cR dv i (l++o₁::tl)[i] (List.getElem?_eq_getElem dV) _ hk;have:listed[e.on]? =some true:=by simpa using h2 e.on (by omega)
      simp[Array.getD_eq_getD_getElem?,this]
   rw[rj]at eR;cases eR
  simp only[Region.linearise.go]
  change wpOpsIn (FW r) 0 P (l++o₁::tl).toArray Q (match (Region.ready .any (l++o₁::tl).toArray listed)[t%(Region.ready .any (l++o₁::tl).toArray listed).length]? with
   |some i=>Region.linearise.go .any (l++o₁::tl).toArray fuel (t/(Region.ready .any (l++o₁::tl).toArray listed).length) (listed.setIfInBounds i true) [i]
   |none=>[].reverse) a w
  have dV:t%(Region.ready .any (l++o₁::tl).toArray listed).length<(Region.ready .any (l++o₁::tl).toArray listed).length:=Nat.mod_lt _ (List.length_pos_iff.2 eQ);rw[List.getElem?_eq_getElem dV];have eR:=List.getElem_mem dV;generalize (Region.ready .any (l++o₁::tl).toArray listed)[t%(Region.ready .any (l++o₁::tl).toArray listed).length]=j at eR;obtain⟨o,h1,h2,h3⟩:=ma j eR;simp only[];rw[linearise_go_acc,List.reverse_singleton,List.singleton_append];have wU:j<l.length+1+tl.length:=by have:=(List.getElem?_eq_some_iff.1 h1).1;omega
  have xj:listed.toList[j]? =some false:=by simpa using h2
  have Xe:=kO xj;by_cases Ah:j=l.length
  ·subst Ah;have ho:o=o₁:=by simpa using h1.symm
   subst ho;have pF:∀i,i<l.length→listed[i]? =some true:=fun i ik=>oO (D:=fun i=>listed[i]? =some true) lz l.length (cv o) jh (fun k hk=>h3 k hk) i ik
   have hfu:fuel=tl.length:=by
    have hz:((listed.toList.set l.length true).drop (l.length+1)).countP (!·)=tl.length:=by
     rw[List.drop_set_of_lt (by omega)]
     have il:∀b∈listed.toList.drop (l.length+1),(!b)=true:=by
      intro b hb;obtain⟨i,ik⟩:=List.mem_iff_getElem?.1 hb;rw[List.getElem?_drop]at ik;have oN:=(List.getElem?_eq_some_iff.1 ik).1;simp only[Array.length_toList]at oN;have:=xk (l.length+1+i) (by omega) (by omega);have h9:listed.toList[l.length+1+i]? =some false:=by simpa using this
      rw[ik]at h9;cases h9;rfl
     rw[List.countP_eq_length.2 il,List.length_drop,Array.length_toList];omega
    have hy:((listed.toList.set l.length true).take (l.length+1)).countP (!·)=0:=by
     rw[List.countP_eq_zero];intro b hb;obtain⟨i,ik⟩:=List.mem_iff_getElem?.1 hb;rw[List.getElem?_take]at ik
     split at ik
     ·rw[List.getElem?_set]at ik
      split at ik
      ·split at ik
       ·cases ik;simp
       ·cases ik
      ·have:=pF i (by omega);have h9:listed.toList[i]? =some true:=by simpa using this
       rw[ik]at h9;cases h9;simp
     ·cases ik
    have:=List.take_append_drop (l.length+1) (listed.toList.set l.length true)
    have h8:(listed.toList.set l.length true).countP (!·)=0+tl.length:=by
     rw[←hy,←hz,←List.countP_append,this]
    omega
   subst hfu;have qj:l.length<listed.size:=by omega
   rw[CD dv tl.length (l.length+1) _ _ (by simpa using jJ) (by omega) (by
    simp only[ko,List.all_eq_true]at xH ⊢;intro j hj
    exact xH j (by rw[List.mem_range'_1]at hj ⊢;omega)) (fun i ik=>by
     rw[Array.getElem?_setIfInBounds];by_cases e:l.length=i
     ·subst e;simp[qj]
     ·rw[if_neg e];exact pF i (by omega)) (fun i h5 h6=>by
     rw[Array.getElem?_setIfInBounds,if_neg (by omega)];exact xk i (by omega) h6) (fun i o' gy he j hj=>by have:=cR dv i o' gy j hj;omega)]
   have OW:l.length::List.range' (l.length+1) tl.length=List.range' l.length (o::tl).length:=by simp[List.range'_succ]
   rw[OW,wpOpsIn_eq_wpListIn (o::tl) l.length (fun j=>by rw[List.getElem?_toArray,List.getElem?_append_right (by omega)];congr 1;omega)]
   exact kn a w (CF hi fun i oN=>⟨fun h=>pF i h,fun h=>by
    rcases Nat.lt_or_ge i l.length with h5|h5
    ·exact h5
    ·have h6:=xk i h5 oN;rw[h6]at h;cases h⟩)
  ·have Q1:j<l.length:=by
    rcases Nat.lt_or_ge j l.length with h|h
    ·exact h
    ·exfalso;have hp:=h3 _ (kP xH (j:=j) (by omega) h1);rw[xk (j-1) (by omega) (by omega)]at hp;cases hp
   have Xf:l[j]? =some o:=by rwa [List.getElem?_append_left (by omega)]at h1
   refine Kp Q1 Xf (by rw[h2];simp) h3 lz hi fun a' w' ik=> ?_
   have A9:j<listed.size:=(Array.getElem?_eq_some_iff.1 h2).1
   have jE:∀i,((listed.setIfInBounds j true)[i]? =some true)↔(i=j∨listed[i]? =some true):=by
    intro i;rw[Array.getElem?_setIfInBounds];by_cases jr:j=i
    ·subst jr;simp[A9]
    ·rw[if_neg jr];exact⟨.inr,fun h=>h.resolve_left (fun e=>jr e.symm)⟩
   refine ih _ _ _ _ (by simpa using jJ) ?_ ?_ ?_ (CF ik fun i _=>jE i)
   ·simp only[Array.toList_setIfInBounds];omega
   ·intro i h5 h6;rw[Array.getElem?_setIfInBounds,if_neg (by omega)];exact xk i h5 h6
   ·intro i o' h5 h6 k hk;rcases(jE i).1 h6 with e|h7
    ·subst e;have:o'=o:=by rw[h1]at h5;exact(Option.some.inj h5).symm
     subst this;exact(jE k).2 (.inr (h3 k hk))
    ·exact(jE k).2 (.inr (lz i o' h5 h7 k hk))
theorem oP {l:List Oper} {J:(Nat→Prop)→Act→World→Prop} (dv:eH l 0=true)
  (CF:∀{D D':Nat→Prop} {a w},J D a w→(∀i,i<l.length→(D' i↔D i))→J D' a w) {Q:Exit→Act→World→Prop}
  (Kp:∀{D:Nat→Prop} {a w j o rest},j<l.length→l[j]? =some o→¬D j→(∀k∈cv o,D k)→(∀i o,l[i]? =some o→D i→∀k∈cv o,D k)→J D a w→(∀a' w',J (fun i=>i=j∨D i) a' w'→wpOpsIn (FW r) 0 P l.toArray Q rest a' w')→wpOpsIn (FW r) 0 P l.toArray Q (j::rest) a w)
  (kn:∀a w,J (fun i=>i<l.length) a w→Q .normal a w):∀(fuel t:Nat) (listed:Array Bool) (a:Act) (w:World),listed.size=l.length→listed.toList.countP (!·)=fuel→
  (∀(i:Nat) (o:Oper),l[i]? =some o→listed[i]? =some true→∀k∈cv o,listed[k]? =some true)→J (fun i=>listed[i]? =some true) a w→wpOpsIn (FW r) 0 P l.toArray Q (Region.linearise.go .any l.toArray fuel t listed []) a w:=by
 intro fuel
 induction fuel with
 |zero=>
  intro t listed a w jJ hc lz hi;simp only[Region.linearise.go,List.reverse_nil,wpOpsIn];exact kn a w (CF hi fun i oN=>⟨fun h=>by simpa using jg hc i (by simp[jJ];exact h),fun h=>oN⟩)
 |succ fuel ih=>
  intro t listed a w jJ hc lz hi
  have ma:∀j,j∈Region.ready .any l.toArray listed→∃o,l[j]? =some o∧listed[j]? =some false∧∀k∈cv o,listed[k]? =some true:=by
   intro j hj;simp only[Region.ready,List.mem_filter,List.mem_range,Bool.and_eq_true]at hj;obtain⟨h1,h2,h3⟩:=hj;have dV:j<l.length:=by simpa using h1
   refine⟨l[j],List.getElem?_eq_getElem dV,?_,?_⟩
   ·rw[Array.getElem?_eq_getElem (by omega)];simp only[Array.getD_eq_getD_getElem?,Array.getElem?_eq_getElem (show j<listed.size by omega),Option.getD_some,Bool.not_eq_true']at h2;rw[h2]
   ·intro k hk;simp only[cv,List.mem_map,List.mem_filter]at hk;obtain⟨e,⟨Km,Kn⟩,rfl⟩:=hk;have h4:l.toArray[j]? =some l[j]:=by simp[dV]
    rw[h4]at h3;simp only[Option.map_some,Option.getD_some,Array.all_eq_true_iff_forall_mem]at h3;have h5:=h3 e (by simpa using Km);rw[Kn]at h5;simp only[Bool.not_true,Bool.false_or,Array.getD_eq_getD_getElem?]at h5
    cases hx:listed[e.on]? with
    |none=>simp[hx]at h5
    |some b=>simp[hx]at h5;rw[h5]
  have eQ:Region.ready .any l.toArray listed≠[]:=by
   obtain⟨i,h1,h2⟩:=l9 (bs:=listed.toList) (by omega)
   have dV:i<l.length:=by
    have:=(List.getElem?_eq_some_iff.1 h1).1;simp at this;omega
   intro rj
   have eR:i∈Region.ready .any l.toArray listed:=by
    simp only[Region.ready,List.mem_filter,List.mem_range,Bool.and_eq_true];refine⟨by simpa using dV,?_,?_⟩
    ·have:listed[i]? =some false:=by simpa using h1
     simp[Array.getD_eq_getD_getElem?,this]
    ·have h4:l.toArray[i]? =some l[i]:=by simp[dV]
     rw[h4];simp only[Option.map_some,Option.getD_some,Array.all_eq_true_iff_forall_mem];intro e he
     cases hb:Region.binds .any e with
     |false=>rfl
     |true=>
      have hk:e.on∈cv l[i]:=by
       simp only[cv,List.mem_map,List.mem_filter];exact⟨e,⟨by simpa using he,hb⟩,rfl⟩
      have OU:=cR dv i l[i] (List.getElem?_eq_getElem dV) _ hk;have:listed[e.on]? =some true:=by simpa using h2 e.on (by omega)
      simp[Array.getD_eq_getD_getElem?,this]
   rw[rj]at eR;cases eR
  simp only[Region.linearise.go]
  change wpOpsIn (FW r) 0 P l.toArray Q (match (Region.ready .any l.toArray listed)[t%(Region.ready .any l.toArray listed).length]? with
   |some i=>Region.linearise.go .any l.toArray fuel (t/(Region.ready .any l.toArray listed).length) (listed.setIfInBounds i true) [i]
   |none=>[].reverse) a w
  have dV:t%(Region.ready .any l.toArray listed).length<(Region.ready .any l.toArray listed).length:=Nat.mod_lt _ (List.length_pos_iff.2 eQ);rw[List.getElem?_eq_getElem dV];have eR:=List.getElem_mem dV;generalize (Region.ready .any l.toArray listed)[t%(Region.ready .any l.toArray listed).length]=j at eR;obtain⟨o,h1,h2,h3⟩:=ma j eR;simp only[];rw[linearise_go_acc,List.reverse_singleton,List.singleton_append];have wU:j<l.length:=(List.getElem?_eq_some_iff.1 h1).1;refine Kp wU h1 (by rw[h2];simp) h3 lz hi fun a' w' ik=> ?_
  have xj:listed.toList[j]? =some false:=by simpa using h2
  have A9:j<listed.size:=(Array.getElem?_eq_some_iff.1 h2).1
  have jE:∀i,((listed.setIfInBounds j true)[i]? =some true)↔(i=j∨listed[i]? =some true):=by
   intro i;rw[Array.getElem?_setIfInBounds];by_cases jr:j=i
   ·subst jr;simp[A9]
   ·rw[if_neg jr];exact⟨.inr,fun h=>h.resolve_left (fun e=>jr e.symm)⟩
  refine ih _ _ _ _ (by simpa using jJ) ?_ ?_ (CF ik fun i _=>jE i)
  ·have:=kO xj;simp only[Array.toList_setIfInBounds];omega
  ·intro i o' h5 h6 k hk;rcases(jE i).1 h6 with e|h7
   ·subst e;have:o'=o:=by rw[h1]at h5;exact(Option.some.inj h5).symm
    subst this;exact(jE k).2 (.inr (h3 k hk))
   ·exact(jE k).2 (.inr (lz i o' h5 h7 k hk))
def jM:Op→Bool
 |.move _| .assign _| .pick .. | .load .. | .nilCheck _| .binOp .. | .unOp .. | .convert .. | .makeInterface .. | .makeFunc .. | .slice .. | .fieldAddr .. | .field .. | .indexAddr .. | .index .. | .typeAssert .. | .extract .. | .lookup .. | .build .. =>true
 |.call {callee:= .builtin .len,.. }| .call {callee:= .builtin .cap,.. }| .call {callee:= .builtin .min,.. }| .call {callee:= .builtin .max,.. }=>true
 |_=>false
theorem mc {ρ ρ':Operand→Value} {o:Oper} (hq:jM o.op=true) (h:∀x∈o.op.operands,ρ x=ρ' x):execOp ρ o=execOp ρ' o:=by
 obtain⟨dst,op,type,pos,after,guard⟩:=o;have Bb:∀{xs:Array Operand},(∀x∈xs,ρ x=ρ' x)→xs.map ρ=xs.map ρ':=fun hx=>Array.map_congr_left hx
 have CG:∀{x:Option Operand},(∀y,x=some y→ρ y=ρ' y)→x.map ρ=x.map ρ':=fun {x} hx=>by
  cases x with
  |none=>rfl
  |some y=>simp[hx y rfl]
 cases op<;>simp only[jM,Bool.false_eq_true]at hq<;>simp only[Op.operands,List.mem_toArray,List.mem_cons,List.not_mem_nil,or_false,forall_eq_or_imp,forall_eq,Array.mem_append,Option.mem_toArray]at h<;>simp only[execOp]
 case pick=>rw[h.1,h.2.1,h.2.2]
 case build t ps=>
  have:ps.map (fun p=>(p.1,ρ p.2))=ps.map (fun p=>(p.1,ρ' p.2)):=Array.map_congr_left fun p hp=>by
   rw[h p.2 (List.mem_map.2 ⟨p,by simpa using hp,rfl⟩)]
  rw[this]
 case nilCheck=>rw[h]
 case binOp=>rw[h.1,h.2]
 case makeFunc f xs ys=>rw[Bb (fun x hx=>h x (.inl hx)),Bb (fun x hx=>h x (.inr hx))]
 case slice t x lo hi mx=>
  rw[h x (by simp),CG (x:=lo) (fun y hy=>h y (by simp[hy])),CG (x:=hi) (fun y hy=>h y (by simp[hy])),CG (x:=mx) (fun y hy=>h y (by simp[hy]))]
 case indexAddr=>rw[h.1,h.2]
 case index=>rw[h.1,h.2]
 case lookup=>rw[h.1,h.2]
 case call c=>
  obtain⟨Xg,args,Cw⟩:=c
  cases Xg with
  |builtin b=>
   simp only[Call.operands,Array.empty_append]at h;simp only[resolve,Bb h]
  |_=>cases hq
 all_goals rw[h]
theorem Ai {s:Sem Value} {w w':World} {nx:Next} (h:(do pure (Next.value (←s)):Sem Next).run P w= .ok nx w'):∃v,nx= .value v:=by
 rw[Sem.run_bind]at h
 cases hs:s.run P w with
 |ok v w1=>rw[hs]at h;simp only[Result.andThen,Sem.run_pure,Result.ok.injEq]at h;exact⟨v,h.1.symm⟩
 |halt x w1=>rw[hs]at h;simp[Result.andThen]at h
theorem CH {ρ:Operand→Value} {o:Oper} (hq:jM o.op=true) {nx:Next} {w w':World} (h:(execOp ρ o).run P w= .ok nx w'):∃v,nx= .value v:=by
 obtain⟨dst,op,type,pos,after,guard⟩:=o
 cases op<;>simp only[jM,Bool.false_eq_true]at hq<;>simp only[execOp]at h
 case move=>simp only[Sem.run_pure,Result.ok.injEq]at h;exact⟨_,h.1.symm⟩
 case assign=>simp only[Sem.run_pure,Result.ok.injEq]at h;exact⟨_,h.1.symm⟩
 case pick c a b=>
  rw[Sem.run_bind]at h
  cases hs:(asBool (ρ c)).run P w with
  |ok v w1=>rw[hs]at h;simp only[Result.andThen]at h;exact⟨_,(Result.ok.inj h).1.symm⟩
  |halt x w1=>rw[hs]at h;simp[Result.andThen]at h
 case nilCheck x=>
  split at h
  ·simp[runtimePanic,Sem.run]at h
  ·simp[runtimePanic,Sem.run]at h
  ·simp[runtimePanic,Sem.run]at h
  ·split at h
   ·simp[runtimePanic,Sem.run]at h
   ·rename_i t w0 _ _
    simp only[Sem.run_bind]at h
    cases hp:(program).run P w with
    |halt x w1=>rw[hp]at h;simp[Result.andThen]at h
    |ok p w1=>
     rw[hp]at h;simp only[Result.andThen]at h;generalize (nilAhead _ _ _ _).run P _=res at h
     cases res with
     |halt x w2=>cases h
     |ok b w2=>
      simp only at h
      split at h
      ·simp[unsupported,Sem.run,Sem.run_bind,Result.andThen]at h
      ·simp only[Sem.run_pure,Sem.run_bind,Result.andThen,Result.ok.injEq]at h;exact⟨_,h.1.symm⟩
   ·simp only[Sem.run_pure,Result.ok.injEq]at h;exact⟨_,h.1.symm⟩
  ·simp only[Sem.run_pure,Result.ok.injEq]at h;exact⟨_,h.1.symm⟩
 case call c=>
  obtain⟨Xg,args,Cw⟩:=c
  cases Xg with
  |builtin b=>
   cases b<;>first|cases hq|skip
   all_goals
    simp only[resolve]at h;exact Ai h
  |_=>cases hq
 all_goals exact Ai h
def One (P:Program) (r:Option Nat) (ops:Array Oper) (w:World) (o:Oper) (a:Act) (v:Value):Prop:=
 if Region.wanted o (yielded ops a.tmps)then(execOp a.eval o).run P w= .ok (.value v) w else v=undef
def Xh (P:Program) (r:Option Nat) (ops:Array Oper) (w:World):List Oper→Act→Act→List Value→Prop
 |[],a,a',vs=>a=a'∧vs=[]
 |o::os,a,a',vs=>∃v vt,vs=v::vt∧One P r ops w o a v∧Xh P r ops w os (a.put o.dst v) a' vt
def lh (P:Program) (r:Option Nat) (n:Nat) (ops:Array Oper):List Oper→Sl→List Deferred→World→(Sl→Prop)→Prop
 |[],L,ds,w,k=>k L
 |o::rest,L,ds,w,k=>Rg P r n ops [o] L ds w (fun e L' qh w'=>e= .normal∧qh=ds∧w'=w∧lh P r n ops rest L' ds w k)
theorem lh.nil {ops:Array Oper} {k:Sl→Prop} (h:k L):lh P r n ops [] L ds w k:=h
theorem me {o:Oper} (hq:jM o.op=true):∀c,o.op≠ .defer c:=fun c h=>by rw[h]at hq;cases hq
theorem lh.trace {ops:Array Oper} {k:Sl→Prop}:∀{l:List Oper} {L:Sl} {a:Act},lh P r n ops l L ds w k→(∀o∈l,jM o.op=true)→iM n a L ds→∃a' L' vs,Xh P r ops w l a a' vs∧iM n a' L' ds∧k L'
 |[],L,a,h,_,ha=>⟨a,L,[],⟨rfl,rfl⟩,ha,h⟩
 |o::os,L,a,h,hq,ha=>by
  have hqo:=hq o (List.mem_cons_self ..);have h1:=Rg.run h a ha;simp only[wpListIn]at h1;by_cases hw:Region.wanted o (yielded ops a.tmps)=true
  ·rw[if_pos hw]at h1;obtain⟨_,h1⟩:=h1;rw[Oper.semAt_eq _ _ _ (me hqo)]at h1
   cases hr:(execOp a.eval o).run P w with
   |ok nx w'=>
    obtain⟨v,rfl⟩:=CH hqo hr;rw[hr]at h1;obtain⟨L1,ds1,hA,_,Kq,Wv,hk⟩:=h1;rw[Kq]at hA;rw[Wv]at hr;obtain⟨a',L',vs,h2,h3,h4⟩:=lh.trace hk (fun o ho=>hq o (List.mem_cons_of_mem _ ho)) hA;exact⟨a',L',v::vs,⟨v,vs,rfl,by unfold One;rw[if_pos hw];exact hr,h2⟩,h3,h4⟩
   |halt x w'=>
    rw[hr]at h1
    cases x with
    |panic v=>obtain⟨L1,ds1,hA,hn,_⟩:=h1;cases hn
    |_=>exact h1.elim
  ·rw[if_neg hw]at h1;obtain⟨_,L1,ds1,hA,_,Kq,_,hk⟩:=h1;rw[Kq]at hA;obtain⟨a',L',vs,h2,h3,h4⟩:=lh.trace hk (fun o ho=>hq o (List.mem_cons_of_mem _ ho)) hA;exact⟨a',L',undef::vs,⟨undef,vs,rfl,by unfold One;rw[if_neg hw],h2⟩,h3,h4⟩
def asks (ops:List Oper) (o:Oper):List Nat:=(o.op.operands.toList.filterMap fun x=>match x with| .tmp t=>some t|_=>none)++(match o.guard with|some (j,_)=>((ops[j]?).bind (·.dst)).toList|none=>[])
def kq (l:List Oper) (m:Nat):Bool:=(List.range m).all fun j=>match l[j]? with
 |some o=>jM o.op&&(asks l o).all fun t=>(List.range m).all fun i=>match l[i]? with
  |some o'=> !(o'.dst==some t)||(cv o).contains i||Nat.beq i j||(cv o').contains j
  |none=>true
 |none=>false
theorem lj {l:List Oper} {m:Nat} (h:kq l m=true) {j:Nat} {o:Oper} (hj:j<m) (ho:l[j]? =some o):jM o.op=true∧∀t∈asks l o,∀i o',i<m→l[i]? =some o'→o'.dst=some t→i∈cv o∨i=j∨j∈cv o':=by
 have h1:=List.all_eq_true.1 h j (List.mem_range.2 hj);rw[ho]at h1;simp only[Bool.and_eq_true]at h1;refine⟨h1.1,fun t ht i o' hi gy hd=>?_⟩;have h2:=List.all_eq_true.1 (List.all_eq_true.1 h1.2 t ht) i (List.mem_range.2 hi);rw[gy]at h2;simp only[hd,beq_self_eq_true,Bool.not_true,Bool.false_or,Bool.or_eq_true,List.contains_iff_mem]at h2;rcases h2 with(h2|h2)|h2
 ·exact .inl h2
 ·exact .inr (.inl (Nat.eq_of_beq_eq_true h2))
 ·exact .inr (.inr h2)
theorem Xh.Bc {ops:Array Oper}:∀{l:List Oper} {a a':Act} {vs:List Value},Xh P r ops w l a a' vs→∃st:Nat→Act,st 0=a∧st l.length=a'∧∀j o,l[j]? =some o→∃v,vs[j]? =some v∧One P r ops w o (st j) v∧st (j+1)=(st j).put o.dst v
 |[],a,a',vs,h=>⟨fun _=>a,rfl,h.1,fun j o ho=>by simp at ho⟩
 |o::os,a,a',vs,⟨v,vt,hv,h1,h2⟩=>by
  obtain⟨st,g0,g1,g2⟩:=Xh.Bc h2;refine⟨fun j=>match j with|0=>a|j+1=>st j,rfl,g1,fun j o' gy=>?_⟩;subst hv
  cases j with
  |zero=>simp only[List.getElem?_cons_zero,Option.some.injEq]at gy;subst gy;exact⟨v,rfl,h1,g0⟩
  |succ j=>exact g2 j o' (by simpa using gy)
theorem iv (a:Act) (d:Option Nat) (v:Value) (t:Nat):(a.put d v).tmps[t]? =if d=some t then(a.tmps.setIfInBounds t v)[t]? else a.tmps[t]? :=by
 cases d with
 |none=>simp[Act.put]
 |some d=>
  simp only[Act.put,Option.some.injEq]
  split
  ·rename_i h;subst h;rfl
  ·rename_i h;rw[Array.getElem?_setIfInBounds,if_neg h]
theorem nQ (a:Act) (d:Option Nat) (v:Value):(a.put d v).tmps.size=a.tmps.size:=by cases d<;>simp[Act.put]
theorem put_defers (a:Act) (d:Option Nat) (v:Value):(a.put d v).defers=a.defers:=by cases d<;>rfl
theorem tz {xs ys:Array Value} {t:Nat} {v:Value} (h:xs.size=ys.size):(xs.setIfInBounds t v)[t]? =(ys.setIfInBounds t v)[t]? :=by
 rw[Array.getElem?_setIfInBounds,Array.getElem?_setIfInBounds,if_pos rfl,if_pos rfl,h]
structure QJ (l:List Oper) (m:Nat) (a0:Act) (gO:List Value) (wd:World) (D:Nat→Prop) (a:Act) (w:World):Prop where
 world:w=wd
 defers:a.defers=a0.defers
 size:a.tmps.size=a0.tmps.size
 done:∀i o v t,i<m→l[i]? =some o→gO[i]? =some v→D i→o.dst=some t→a.tmps[t]? =(a0.tmps.setIfInBounds t v)[t]?
 base:∀t,(∀i o,i<m→l[i]? =some o→D i→o.dst≠some t)→a.tmps[t]? =a0.tmps[t]?
theorem fP {l:List Oper} (dv:eH l 0=true) {i j:Nat} {o o':Oper} {t:Nat} (hi:l[i]? =some o) (hj:l[j]? =some o') (h1:o.dst=some t) (h2:o'.dst=some t):i=j:=by
 by_cases e:i=j
 ·exact e
 ·exact absurd h2 (uM dv i j o o' t hi hj e h1)
theorem nR {l:List Oper} {m:Nat} {a0:Act} {gO:List Value} {ops:Array Oper} (dv:eH l 0=true) {st:Nat→Act} (h0:st 0=a0) (kF:∀j o,j<m→l[j]? =some o→∃v,gO[j]? =some v∧One P r ops w o (st j) v∧st (j+1)=(st j).put o.dst v):
  ∀j,j≤m→j≤l.length→QJ l m a0 gO w (fun i=>i<j) (st j) w
 |0,_,_=>⟨rfl,by rw[h0],by rw[h0],fun i o v t _ _ _ h=>by omega,fun t _=>by rw[h0]⟩
 |j+1,hm,hl=>by
  have ih:=nR dv h0 kF j (by omega) (by omega);obtain⟨o,ho⟩:∃o,l[j]? =some o:=⟨_,List.getElem?_eq_getElem (by omega)⟩;obtain⟨v,hv,_,h2⟩:=kF j o (by omega) ho;rw[h2];refine⟨rfl,by rw[put_defers];exact ih.defers,by rw[nQ];exact ih.size,fun i o' v' t pG gy rD jr hd=>?_,fun t ht=>?_⟩
  ·rw[iv];by_cases e:i=j
   ·subst e;rw[ho]at gy;cases gy;rw[hv]at rD;cases rD;rw[if_pos hd];exact tz ih.size
   ·rw[if_neg (fun h=>e (fP dv gy ho hd h))];exact ih.done i o' v' t pG gy rD (by omega) hd
  ·rw[iv,if_neg (ht j o (by omega) ho (by omega))];exact ih.base t fun i o' h1 h2 h3=>ht i o' h1 h2 (by omega)
theorem QJ.agree {l:List Oper} {m:Nat} {a0:Act} {gO:List Value} {wd w':World} {D D':Nat→Prop} {a a':Act} (dv:eH l 0=true) (jV:∀i,i<m→∃v,gO[i]? =some v) (h:QJ l m a0 gO wd D a w) (h':QJ l m a0 gO wd D' a' w') {t:Nat}
  (hD:∀i o,i<m→l[i]? =some o→o.dst=some t→(D i↔D' i)):a.tmps[t]? =a'.tmps[t]? :=by
 by_cases hx:∃i o,i<m∧l[i]? =some o∧o.dst=some t
 ·obtain⟨i,o,pG,ho,hd⟩:=hx;by_cases Ck:D i
  ·obtain⟨v,hv⟩:=jV i pG;rw[h.done i o v t pG ho hv Ck hd,h'.done i o v t pG ho hv ((hD i o pG ho hd).1 Ck) hd]
  ·have key:∀{E:Nat→Prop},¬E i→∀k o',k<m→l[k]? =some o'→E k→o'.dst≠some t:=fun hE k o' _ gy hEk Oy=>hE (by rw[fP dv ho gy hd Oy];exact hEk)
   rw[h.base t (key Ck),h'.base t (key fun hh=>Ck ((hD i o pG ho hd).2 hh))]
 ·have key:∀{E:Nat→Prop},∀k o',k<m→l[k]? =some o'→E k→o'.dst≠some t:=fun k o' hk gy _ Oy=>hx ⟨k,o',hk,gy,Oy⟩
  rw[h.base t key,h'.base t key]
theorem nS {l:List Oper} {o:Oper} {a a':Act} (h:∀t∈asks l o,a.tmps[t]? =a'.tmps[t]?):(∀x∈o.op.operands,a.eval x=a'.eval x)∧Region.wanted o (yielded l.toArray a.tmps)=Region.wanted o (yielded l.toArray a'.tmps):=by
 refine⟨fun x hx=>?_,?_⟩
 ·cases x with
  |tmp t=>
   have:=h t (List.mem_append_left _ (List.mem_filterMap.2 ⟨.tmp t,by simpa using hx,rfl⟩));simp only[Act.eval,Array.getD_eq_getD_getElem?,this]
  |_=>rfl
 ·unfold Region.wanted
  cases hg:o.guard with
  |none=>rfl
  |some p=>
   obtain⟨j,b⟩:=p;simp only
   have:yielded l.toArray a.tmps j=yielded l.toArray a'.tmps j:=by
    unfold yielded
    cases hd:(l.toArray[j]?).bind (·.dst)with
    |none=>rfl
    |some t=>
     have h2:=h t (List.mem_append_right _ (by
      simp only[hg];have:(l[j]?).bind (·.dst)=some t:=by rw[←hd];simp
      rw[this];simp))
     simp only[Option.bind_some,h2]
   rw[this]
theorem One.run {ops:Array Oper} {Q:Exit→Act→World→Prop} {i:Nat} {rest:List Nat} {o:Oper} {a:Act} {v:Value} (ho:ops[i]? =some o) (hq:jM o.op=true) (h:One P r ops w o a v) (hk:wpOpsIn (FW r) 0 P ops Q rest (a.put o.dst v) w):wpOpsIn (FW r) 0 P ops Q (i::rest) a w:=by
 simp only[wpOpsIn,ho];unfold One at h
 split
 ·rename_i hw
  rw[if_pos hw]at h;refine⟨fun _ _=>trivial,?_⟩;rw[Oper.semAt_eq _ _ _ (me hq),h];exact hk
 ·rename_i hw
  rw[if_neg hw]at h;subst h;exact⟨fun _ _=>trivial,hk⟩
theorem QJ.step {l:List Oper} {m:Nat} {a0:Act} {gO:List Value} {wd:World} (dv:eH l 0=true) (mQ:kq l m=true) (jV:∀i,i<m→∃v,gO[i]? =some v) {st:Nat→Act} (qj:m≤l.length)
  (kF:∀j o,j<m→l[j]? =some o→∃v,gO[j]? =some v∧One P r l.toArray wd o (st j) v) (Is:∀j,j<m→QJ l m a0 gO wd (fun i=>i<j) (st j) wd)
  {Q:Exit→Act→World→Prop} {D:Nat→Prop} {a:Act} {w:World} {j:Nat} {o:Oper} {rest:List Nat} (hj:j<m) (ho:l[j]? =some o) (pE: ¬D j) (hp:∀k∈cv o,D k) (lz:∀i o,l[i]? =some o→D i→∀k∈cv o,D k) (hi:QJ l m a0 gO wd D a w)
  (hk:∀a' w',QJ l m a0 gO wd (fun i=>i=j∨D i) a' w'→wpOpsIn (FW r) 0 P l.toArray Q rest a' w'):wpOpsIn (FW r) 0 P l.toArray Q (j::rest) a w:=by
 obtain⟨v,hv,h1⟩:=kF j o hj ho;obtain⟨hq,mQ⟩:=lj mQ hj ho
 have Cj:∀t∈asks l o,a.tmps[t]? =(st j).tmps[t]? :=fun t ht=>hi.agree dv jV (Is j hj) fun i o' pG gy hd=>by
  rcases mQ t ht i o' pG gy hd with h|h|h
  ·have:=cR dv j o ho i h;exact⟨fun _=>by omega,fun _=>hp i h⟩
  ·subst h;exact⟨fun h=>absurd h pE,fun h=>by omega⟩
  ·have:=cR dv i o' gy j h;exact⟨fun h2=>absurd (lz i o' gy h2 j h) pE,fun h=>by omega⟩
 obtain⟨JQ,CA⟩:=nS Cj;obtain⟨Wv⟩:Nonempty (w=wd):=⟨hi.world⟩
 have h2:One P r l.toArray w o a v:=by
  unfold One at h1 ⊢;rw[CA,mc hq JQ,Wv];exact h1
 refine h2.run (by simpa using ho) hq (hk _ _ ⟨Wv,by rw[put_defers];exact hi.defers,by rw[nQ];exact hi.size,fun i o' v' t pG gy rD hD hd=>?_,fun t ht=>?_⟩)
 ·rw[iv];by_cases e:i=j
  ·subst e;rw[ho]at gy;cases gy;rw[hv]at rD;cases rD;rw[if_pos hd];exact tz hi.size
  ·rw[if_neg (fun h=>e (fP dv gy ho hd h))];exact hi.done i o' v' t pG gy rD (hD.resolve_left e) hd
 ·rw[iv,if_neg (ht j o hj ho (.inl rfl))];exact hi.base t fun i o' h1 h2 h3=>ht i o' h1 h2 (.inr h3)
theorem lh.parts {l lq:List Oper} {m:Nat} {k:Sl→Prop} (hlq:lq=l.take m) (qj:m≤l.length) (dv:eH l 0=true) (mQ:kq l m=true) {a0:Act} (ha:iM n a0 L ds) (h:lh P r n l.toArray lq L ds w k):
  ∃gO:List Value,(∀i,i<m→∃v,gO[i]? =some v)∧(∃st:Nat→Act,(∀j o,j<m→l[j]? =some o→∃v,gO[j]? =some v∧One P r l.toArray w o (st j) v)∧∀j,j<m→QJ l m a0 gO w (fun i=>i<j) (st j) w)∧
   ∀a w',QJ l m a0 gO w (fun i=>i<m) a w'→∃L',iM n a L' ds∧k L'∧w'=w:=by
 have iU:∀j,j<m→lq[j]? =l[j]? :=fun j hj=>by rw[hlq,List.getElem?_take,if_pos hj]
 obtain⟨a',L',vs,vU,hA,hk⟩:=h.trace (fun o ho=>by
  obtain⟨j,hj⟩:=List.mem_iff_getElem?.1 ho
  have Ah:j<m:=by
   have:=(List.getElem?_eq_some_iff.1 hj).1;rw[hlq,List.length_take]at this;omega
  exact(lj mQ Ah (by rw[←iU j Ah];exact hj)).1) ha
 obtain⟨st,h0,hl,kF⟩:=vU.Bc;have hlen:lq.length=m:=by rw[hlq,List.length_take];omega
 rw[hlen]at hl;have wX:∀j o,j<m→l[j]? =some o→∃v,vs[j]? =some v∧One P r l.toArray w o (st j) v∧st (j+1)=(st j).put o.dst v:=fun j o hj ho=>kF j o (by rw[iU j hj];exact ho)
 have jV:∀i,i<m→∃v,vs[i]? =some v:=fun i hi=>by
  obtain⟨v,hv,_⟩:=wX i l[i] hi (List.getElem?_eq_getElem (by omega));exact⟨v,hv⟩
 refine⟨vs,jV,⟨st,fun j o hj ho=>?_,fun j hj=>nR dv h0 wX j (by omega) (by omega)⟩,fun a w' hi=>⟨L',⟨?_,?_,fun t v ht=>?_⟩,hk,hi.world⟩⟩
 ·obtain⟨v,h1,h2,_⟩:=wX j o hj ho;exact⟨v,h1,h2⟩
 ·rw[hi.size];exact ha.size
 ·rw[hi.defers];exact ha.defers
 ·have:=nR dv h0 wX m (Nat.le_refl _) qj;rw[hl]at this;rw[hi.agree dv jV this (fun _ _ _ _ _=>Iff.rfl)];exact hA.at_ t v ht
theorem QJ.Xi {l:List Oper} {m:Nat} {a0 a:Act} {gO:List Value} {wd w:World} {D D':Nat→Prop} (qj:m≤l.length) (h:QJ l m a0 gO wd D a w) (hD:∀i,i<l.length→(D' i↔D i)):QJ l m a0 gO wd D' a w:=
 ⟨h.world,h.defers,h.size,fun i o v t h1 h2 h3 h4 h5=>h.done i o v t h1 h2 h3 ((hD i (by omega)).1 h4) h5,fun t ht=>h.base t fun i o h1 h2 h3=>ht i o h1 h2 ((hD i (by omega)).2 h3)⟩
theorem oQ (w:World):∀M,Step M w M {w with drawn:=w.drawn+1} aC:=fun M=>lY M w
theorem T.kQ {id:Nat} {l:List Oper} (hm:P.follows .mixedOrders=true) (dv:eH l 0=true) (mQ:kq l l.length=true)
  (h:∀wD,(∀M,Step M w M wD aC)→lh P r n l.toArray l L ds wD (fun L'=>K .normal L' ds wD)):T P r n (.region id l.toArray true) L ds w K:=by
 refine⟨fun a ha=>wpIn_region_draw fun t=>?_⟩;simp only[Region.schedule,hm,Bool.true_or,if_true,Region.linearise];obtain⟨gO,jV,⟨st,h1,h2⟩,kn⟩:=lh.parts (m:=l.length) (by simp) (Nat.le_refl _) dv mQ ha (h _ (oQ w));refine oP (J:=QJ l l.length a gO _) dv (fun hi hD=>hi.Xi (Nat.le_refl _) hD) (fun hj ho pE hp lz hi hk=>QJ.step dv mQ jV (Nat.le_refl _) h1 h2 hj ho pE hp lz hi hk) (fun a' w' hi=>?_) _ t _ a _ (by simp) (by simp[List.countP_replicate]) (fun i o h1 h2=>?_) ⟨rfl,rfl,rfl,fun i o v t h1 h2 h3 h4=>?_,fun t _=>rfl⟩
 ·obtain⟨L',hA,hk,hw⟩:=kn a' w' hi;rw[hw];exact⟨L',ds,hA,hk⟩
 ·simp[Array.getElem?_replicate]at h2
 ·simp[Array.getElem?_replicate]at h4
theorem T.Kr {id:Nat} {l:List Oper} (m:Nat) (hm:P.follows .mixedOrders=true) (qj:Nat.blt m l.length=true) (dv:eH l 0=true) (jh:k9 l m ((l[m]?.map cv).getD [])=true) (xH:ko l (m+1)=true) (mQ:kq l m=true)
  (h:∀wD,(∀M,Step M w M wD aC)→lh P r n l.toArray (l.take m) L ds wD (fun L'=>Rg P r n l.toArray (l.drop m) L' ds wD K)):T P r n (.region id l.toArray true) L ds w K:=by
 refine⟨fun a ha=>wpIn_region_draw fun t=>?_⟩;simp only[Region.schedule,hm,Bool.true_or,if_true,Region.linearise];have Ag:m<l.length:=by simpa[Nat.blt_eq]using qj
 obtain⟨gO,jV,⟨st,h1,h2⟩,kn⟩:=lh.parts (m:=m) rfl (by omega) dv mQ ha (h _ (oQ w))
 have hl:l=l.take m++l[m]::l.drop (m+1):=by
  rw[←List.drop_eq_getElem_cons Ag,List.take_append_drop]
 have zk:(l.take m).length=m:=by simp;omega
 have hg:l[m]? =some l[m]:=List.getElem?_eq_getElem Ag
 have key:=E9 (P:=P) (r:=r) (l:=l.take m) (o₁:=l[m]) (tl:=l.drop (m+1)) (J:=QJ l m a gO {w with drawn:=w.drawn+1}) (Q:=up n K) (by rw[←hl];exact dv) (by rw[zk,←hl];rw[hg]at jh;exact jh) (by rw[zk,←hl];exact xH)
  (fun hi hD=>hi.Xi (by omega) (by rw[←hl]at hD;exact hD)) (fun {D a' w' j o rest} hj ho pE hp lz hi hk=>by
   rw[←hl]at lz hk ⊢;rw[zk]at hj;rw[List.getElem?_take,if_pos hj]at ho;exact QJ.step dv mQ jV (by omega) h1 h2 hj ho pE hp lz hi hk) (fun a' w' hi=>by
   rw[zk]at hi;obtain⟨L',hA,hk,hw⟩:=kn a' w' hi;rw[←hl,←List.drop_eq_getElem_cons Ag,hw];exact hk.run a' hA) l.length t (Array.replicate l.length false) a {w with drawn:=w.drawn+1}
 rw[←hl]at key;have jJ:l.toArray.size=l.length:=by simp
 rw[jJ];refine key (by simp) (by simp[List.countP_replicate]) (fun i h3 h4=>?_) (fun i o h3 h4=>?_) ⟨rfl,rfl,rfl,fun i o v t h3 h4 h5 h6=>?_,fun t _=>rfl⟩
 ·simp[Array.getElem?_replicate];exact h4
 ·simp[Array.getElem?_replicate]at h4
 ·simp[Array.getElem?_replicate]at h6
theorem gw.nil {M:aD} {k:Sl→Prop} {acc:Sl} (h:k acc):gw (M:=M) w k [] [] acc:=by unfold gw;exact h
theorem T.xl {x y:Code} (L1:Sl) (h:T P r n x L ds w (fun e L' qh w'=>e= .normal∧qh=ds∧w'=w∧Sub L1 L')) (k:T P r n y L1 ds w K):T P r n (.seq x y) L ds w K:=
 .seq (h.mono fun e L' qh w' ⟨he,hd,hw,hs⟩=>by subst he;rw[hd,hw];exact k.weaken L1 hs)
end
end Go.K
namespace Go.K
section
variable {P:Program} {r:Option Nat} {n:Nat} {L:Sl} {ds:List Deferred} {w:World} {K:Kt}
def sw:Op→Bool
 |.defer _| .go _| .select .. | .send .. | .recv .. =>false
 |_=>true
theorem OX {ρ ρ':Operand→Value} {o:Oper} (hq:sw o.op=true) (h:∀x∈o.op.operands,ρ x=ρ' x):execOp ρ o=execOp ρ' o:=by
 obtain⟨dst,op,type,pos,after,guard⟩:=o;have Bb:∀{xs:Array Operand},(∀x∈xs,ρ x=ρ' x)→xs.map ρ=xs.map ρ':=fun hx=>Array.map_congr_left hx
 have CG:∀{x:Option Operand},(∀y,x=some y→ρ y=ρ' y)→x.map ρ=x.map ρ':=fun {x} hx=>by
  cases x with
  |none=>rfl
  |some y=>simp[hx y rfl]
 cases op<;>simp only[sw,Bool.false_eq_true]at hq<;>simp only[Op.operands,List.mem_toArray,List.mem_cons,List.not_mem_nil,or_false,forall_eq_or_imp,forall_eq,Array.mem_append,Option.mem_toArray]at h<;>simp only[execOp]
 case pick=>rw[h.1,h.2.1,h.2.2]
 case build t ps=>
  have:ps.map (fun p=>(p.1,ρ p.2))=ps.map (fun p=>(p.1,ρ' p.2)):=Array.map_congr_left fun p hp=>by
   rw[h p.2 (List.mem_map.2 ⟨p,by simpa using hp,rfl⟩)]
  rw[this]
 case buildSlice t k ps=>
  have:ps.map (fun p=>(p.1,ρ p.2))=ps.map (fun p=>(p.1,ρ' p.2)):=Array.map_congr_left fun p hp=>by
   rw[h p.2 (List.mem_map.2 ⟨p,by simpa using hp,rfl⟩)]
  rw[this]
 case nilCheck=>rw[h]
 case binOp=>rw[h.1,h.2]
 case makeFunc f xs ys=>rw[Bb (fun x hx=>h x (.inl hx)),Bb (fun x hx=>h x (.inr hx))]
 case makeMap t xs=>rw[CG (fun y hy=>h y (by simp[hy]))]
 case slice t x lo hi mx=>
  rw[h x (by simp),CG (x:=lo) (fun y hy=>h y (by simp[hy])),CG (x:=hi) (fun y hy=>h y (by simp[hy])),CG (x:=mx) (fun y hy=>h y (by simp[hy]))]
 case call c=>
  obtain⟨Xg,args,Cw⟩:=c
  cases Xg with
  |builtin b=>
   simp only[Call.operands,Array.empty_append]at h;simp only[resolve,Bb h]
  |invoke x name=>
   simp only[Call.operands,Array.mem_append,List.mem_toArray,List.mem_singleton]at h;simp only[resolve,h x (.inl rfl),Bb (fun y hy=>h y (.inr hy))]
  |value x=>
   simp only[Call.operands,Array.mem_append,List.mem_toArray,List.mem_singleton]at h;simp only[resolve,h x (.inl rfl),Bb (fun y hy=>h y (.inr hy))]
 all_goals first
  |rw[h]
  |rw[h.1,h.2]
  |rw[h.1,h.2.1,h.2.2]
  |rfl
def eN (N:aD) (wd w:World):Prop:=wd.heap.size≤w.heap.size∧∀b,b<wd.heap.size→¬N b→w.heap[b]? =wd.heap[b]?
theorem eN.refl (N:aD) (w:World):eN N w w:=⟨Nat.le_refl _,fun _ _ _=>rfl⟩
theorem eN.go {M M' N N':aD} {wd w w':World} (h:eN N wd w) (s:Step M w M' w' N') (hN:∀b,b<wd.heap.size→N' b→N b):eN N wd w':=
 ⟨Nat.le_trans h.1 s.size,fun b hb hn=>(s.same b (Nat.lt_of_lt_of_le hb h.1) (fun Ou=>hn (hN b hb Ou))).trans (h.2 b hb hn)⟩
theorem eN.rF {M M' N:aD} {wd w w':World} (h:eN N wd w) (s:Step M w M' w' aC):eN N wd w':=h.go s fun _ _ h=>h.elim
theorem eN.goN {M M' N:aD} {wd w w':World} (h:eN N wd w) (s:Step M w M' w' N):eN N wd w':=h.go s fun _ _ h=>h
def bX (P:Program) (N:aD) (wd:World) (L:Sl) (o:Oper):Prop:=∀ρ:Operand→Value,(∀x u,ev L x=some u→ρ x=u)→∀v w',eN N wd w'→(execOp ρ o).run P wd= .ok (.value v) wd→(execOp ρ o).run P w'= .ok (.value v) w'
def sx (P:Program) (r:Option Nat) (n:Nat) (ops:Array Oper) (N:aD) (wd:World) (K:Kt):Nat→List Oper→Sl→List Deferred→World→Prop
 |_,[],L,ds,w=>K .normal L ds w
 |c,o::rest,L,ds,w=>Rg P r n ops [o] L ds w (fun e L' qh w'=>e= .normal∧qh=ds∧(c≠0→eN N wd w')∧sx P r n ops N wd K (c-1) rest L' ds w')
theorem sx.nil {ops:Array Oper} {N:aD} {wd:World} {c:Nat} (h:K .normal L ds w):sx P r n ops N wd K c [] L ds w:=h
def mV (l:List Oper) (fl:List Nat):Nat→List Nat→Bool
 |0,_=>true
 |j+1,acc=>if fl.contains j then mV l fl j acc else acc.contains j&&mV l fl j (acc++(l[j]?.map cv).getD [])
theorem mW {l:List Oper} {fl:List Nat} {D:Nat→Prop} (lz:∀k o,l[k]? =some o→D k→∀i∈cv o,D i):∀(j:Nat) (acc:List Nat),mV l fl j acc=true→(∀k∈acc,D k)→∀i,i<j→i∉fl→D i
 |0,_,_,_,i,hi,_=>by omega
 |j+1,acc,h,ha,i,hi,hf=>by
  simp only[mV]at h
  split at h
  ·rename_i hj
   rcases Nat.lt_or_ge i j with dV|Kc
   ·exact mW lz j acc h ha i dV hf
   ·obtain rfl:i=j:=by omega
    exact absurd (by simpa using hj) hf
  ·simp only[Bool.and_eq_true,List.contains_iff_mem]at h;have hj:=ha j h.1;rcases Nat.lt_or_ge i j with dV|Kc
   ·refine mW lz j _ h.2 (fun k hk=>?_) i dV hf;rcases List.mem_append.1 hk with hk|hk
    ·exact ha k hk
    ·cases ho:l[j]? with
     |none=>rw[ho]at hk;simp at hk
     |some o=>rw[ho]at hk;exact lz j o ho hj k (by simpa using hk)
   ·rw[show i=j from by omega];exact hj
def uO (l:List Oper) (m e:Nat):List Nat:=(List.range' m (e+1)).flatMap fun j=>(l[j]?.map cv).getD []
def ll (l:List Oper) (m:Nat) (fl:List Nat) (e:Nat):Bool:=
 (Nat.ble (l.length-m) e||k9 l m (uO l m e))&&
 ko l (m+1)&&mV l fl m ((l[m]?.map cv).getD [])&&
 ((List.range' m (l.length-m)).all fun j=>match l[j]? with
  |some o=>sw o.op&&(asks l o).all fun t=>(List.range m).all fun i=>match l[i]? with
   |some o'=> !(o'.dst==some t)||(cv o).contains i
   |none=>true
  |none=>true)&&
 ((List.range m).all fun j=> !fl.contains j||match l[j]? with
  |some o=>(asks l o).all fun t=>(List.range l.length).all fun i=>match l[i]? with
   |some o'=> !(o'.dst==some t)||(cv o).contains i||(Nat.ble m i&&(cv o').contains j)
   |none=>true
  |none=>true)
theorem Bd {l:List Oper} {m:Nat} {fl:List Nat} {e:Nat} (h:ll l m fl e=true):
  (l.length-m≤e∨k9 l m (uO l m e)=true)∧
  ko l (m+1)=true∧mV l fl m ((l[m]?.map cv).getD [])=true∧
  (∀j o,m≤j→l[j]? =some o→sw o.op=true∧∀t∈asks l o,∀i o',i<m→l[i]? =some o'→o'.dst=some t→i∈cv o)∧
  (∀j o,j<m→j∈fl→l[j]? =some o→∀t∈asks l o,∀i o',l[i]? =some o'→o'.dst=some t→i∈cv o∨m≤i∧j∈cv o'):=by
 simp only[ll,Bool.and_eq_true]at h;obtain⟨⟨⟨⟨h0,h1⟩,h2⟩,h3⟩,h4⟩:=h;rw[Bool.or_eq_true,Nat.ble_eq]at h0;refine⟨h0,h1,h2,fun j o hj ho=>?_,fun j o hj hf ho t ht i o' gy hd=>?_⟩
 ·have dV:=(List.getElem?_eq_some_iff.1 ho).1;have:=List.all_eq_true.1 h3 j (List.mem_range'_1.2 ⟨hj,by omega⟩);rw[ho]at this;simp only[Bool.and_eq_true]at this;refine⟨this.1,fun t ht i o' hi gy hd=>?_⟩;have h5:=List.all_eq_true.1 (List.all_eq_true.1 this.2 t ht) i (List.mem_range.2 hi);rw[gy]at h5;simpa[hd]using h5
 ·have dV:=(List.getElem?_eq_some_iff.1 gy).1;have:=List.all_eq_true.1 h4 j (List.mem_range.2 hj);rw[ho]at this;simp only[Bool.or_eq_true,Bool.not_eq_true',List.contains_eq_mem,decide_eq_false_iff_not]at this;have h5:=List.all_eq_true.1 (List.all_eq_true.1 (this.resolve_left (fun h=>h hf)) t ht) i (List.mem_range.2 dV);rw[gy]at h5;simp only[hd,beq_self_eq_true,Bool.not_true,Bool.false_or,Bool.or_eq_true,Bool.and_eq_true,Nat.ble_eq,decide_eq_true_eq,List.contains_iff_mem]at h5;rcases h5 with h|h
  ·exact .inl h
  ·exact .inr h
structure GJ (P:Program) (r:Option Nat) (n:Nat) (l:List Oper) (m:Nat) (fl:List Nat) (c:Nat) (N:aD) (K:Kt) (ds:List Deferred) (a0 am:Act) (wd:World) (D:Nat→Prop) (a:Act) (w:World) (p:Nat) (ac:Act) (Lp:Sl):Prop where
 p0:m≤p
 p1:p≤l.length
 dt:∀i,m≤i→i<l.length→(D i↔i<p)
 df:m<p→∀i,i<m→i∉fl→D i
 ag:iM n ac Lp ds
 tr:sx P r n l.toArray N wd K (c+m-p) (l.drop p) Lp ds w
 keep:p≤m+c→eN N wd w
 da:m+c<p→∀i,i<m→D i
 wm:p=m→w=wd
 defers:a.defers=ds
 size:a.tmps.size=a0.tmps.size
 sizec:ac.tmps.size=a0.tmps.size
 done:∀t,(∀i o,i<m→l[i]? =some o→o.dst=some t→D i)→a.tmps[t]? =ac.tmps[t]?
 pend:∀i o t,i<m→l[i]? =some o→o.dst=some t→¬D i→a.tmps[t]? =a0.tmps[t]?
 cm:∀t,(∀i o,m≤i→i<p→l[i]? =some o→o.dst≠some t)→ac.tmps[t]? =am.tmps[t]?
theorem CI {ops:Array Oper} {Qc Q:Exit→Act→World→Prop} {i:Nat} {rest:List Nat} {o:Oper} {a ac:Act} (ho:ops[i]? =some o) (hq:sw o.op=true) (JQ:∀x∈o.op.operands,a.eval x=ac.eval x) (CA:Region.wanted o (yielded ops a.tmps)=Region.wanted o (yielded ops ac.tmps)) (hdf:a.defers=ac.defers)
  (h:wpListIn (FW r) 0 P ops Qc [o] ac w) (kf:∀e a w,Qc e a w→e= .normal) (hk:∀v w',Qc .normal (ac.put o.dst v) w'→wpOpsIn (FW r) 0 P ops Q rest (a.put o.dst v) w') (hdd:∀d w',¬Qc .normal ({ac with defers:=d::ac.defers}.put o.dst undef) w'):wpOpsIn (FW r) 0 P ops Q (i::rest) a w:=by
 simp only[wpOpsIn,ho];simp only[wpListIn]at h;rw[CA];have oD:∀c,o.op≠ .defer c:=fun c hc=>by rw[hc]at hq;cases hq
 split
 ·rename_i hw
  rw[if_pos hw]at h;obtain⟨_,h2⟩:=h;refine⟨fun _ _=>trivial,?_⟩;rw[Oper.semAt_eq _ _ _ oD]at h2 ⊢;rw[OX hq JQ];generalize (execOp ac.eval o).run P w=res at h2 ⊢
  cases res with
  |ok nx w'=>
   cases nx with
   |value v=>exact hk _ _ h2
   |skip=>exact hk _ _ h2
   |defer d=>exact absurd h2 (hdd d w')
   |enter f args=>exact⟨h2.1,h2.2.mono fun e wV he=>by
     cases e with
     |returned v=>exact hk _ _ he
     |panicked c=>exact absurd (kf _ _ _ he) (by simp)
     |outgrown=>obtain⟨a,w,h⟩:=he;exact absurd (kf _ _ _ h) (by simp)⟩
   |row row args=>exact⟨h2.1,h2.2.mono fun _ _ he=>hk _ _ he⟩
   |round l f tmps rE body=>exact⟨h2.1,h2.2.mono fun e wV he=>by
     cases e with
     |returned v=>exact hk _ _ he
     |panicked c=>exact absurd (kf _ _ _ he) (by simp)
     |outgrown=>obtain⟨a,w,h⟩:=he;exact absurd (kf _ _ _ h) (by simp)⟩
   |_=>exact h2.elim
  |halt x w'=>
   cases x with
   |panic v=>exact absurd (kf _ _ _ h2) (by simp)
   |_=>exact h2.elim
 ·rename_i hw
  rw[if_neg hw]at h;exact⟨fun _ _=>trivial,hk _ _ h.2⟩
theorem GJ.next {l:List Oper} {m:Nat} {fl:List Nat} {c:Nat} {N:aD} {a0 am:Act} {gO:List Value} {wd:World} (dv:eH l 0=true) (mQ:kq l m=true) (ES:ll l m fl c=true) (qj:m<l.length) (jV:∀i,i<m→∃v,gO[i]? =some v)
  {st:Nat→Act} (kF:∀j o,j<m→l[j]? =some o→∃v,gO[j]? =some v∧One P r l.toArray wd o (st j) v) (Is:∀j,j<m→QJ l m a0 gO wd (fun i=>i<j) (st j) wd) (Hh:QJ l m a0 gO wd (fun i=>i<m) am wd)
  {Lm:Sl} (hLm:iM n am Lm ds) (hF:∀j o,j∈fl→l[j]? =some o→bX P N wd Lm o)
  {Q:Exit→Act→World→Prop} {D:Nat→Prop} {a:Act} {w:World} {j:Nat} {o:Oper} {rest:List Nat} (ho:l[j]? =some o) (pE: ¬D j) (hp:∀k∈cv o,D k) (lz:∀i o,l[i]? =some o→D i→∀k∈cv o,D k) (hi:∃p ac Lp,GJ P r n l m fl c N K ds a0 am wd D a w p ac Lp)
  (hk:∀a' w',(∃p ac Lp,GJ P r n l m fl c N K ds a0 am wd (fun i=>i=j∨D i) a' w' p ac Lp)→wpOpsIn (FW r) 0 P l.toArray Q rest a' w'):wpOpsIn (FW r) 0 P l.toArray Q (j::rest) a w:=by
 obtain⟨p,ac,Lp,hi⟩:=hi;obtain⟨Xj,xH,Ks,ET,hfo⟩:=Bd ES;have wU:=(List.getElem?_eq_some_iff.1 ho).1;rcases Nat.lt_or_ge j m with hj|hj
 ·obtain⟨v,hv,h1⟩:=kF j o hj ho;obtain⟨hq,hso⟩:=lj mQ hj ho;have hmf:m<p→j∈fl:=fun h=>Classical.byContradiction fun hf=>pE (hi.df h j hj hf)
  have Cj:∀t∈asks l o,a.tmps[t]? =(st j).tmps[t]? :=fun t ht=>by
   by_cases hx:∃i o',i<m∧l[i]? =some o'∧o'.dst=some t
   ·obtain⟨i,o',pG,gy,hd⟩:=hx;obtain⟨v',rD⟩:=jV i pG;rcases hso t ht i o' pG gy hd with h|h|h
    ·have Ck:=hp i h;have jr:=cR dv j o ho i h;rw[hi.done t (fun k ok Fa hok It=>by rw[fP dv hok gy It hd];exact Ck),hi.cm t (fun k ok tx Ba hok It=>by have:=fP dv hok gy It hd;omega),Hh.done i o' v' t pG gy rD pG hd,(Is j hj).done i o' v' t pG gy rD (by omega) hd]
    ·subst h;rw[hi.pend i o' t pG gy hd pE,(Is i hj).base t (fun k ok Fa hok It Fb=>by have:=fP dv hok gy Fb hd;omega)]
    ·have jr:=cR dv i o' gy j h;rw[hi.pend i o' t pG gy hd (fun Ck=>pE (lz i o' gy Ck j h)),(Is j hj).base t (fun k ok Fa hok It Fb=>by have:=fP dv hok gy Fb hd;omega)]
   ·have kf:∀k ok,k<m→l[k]? =some ok→ok.dst≠some t:=fun k ok Fa hok It=>hx ⟨k,ok,Fa,hok,It⟩
    rw[hi.done t (fun k ok Fa hok It=>absurd It (kf k ok Fa hok)),hi.cm t (fun k ok tx Ba hok It=>by
     rcases hfo j o hj (hmf (by omega)) ho t ht k ok hok It with h|⟨_,h⟩
     ·have:=cR dv j o ho k h;omega
     ·exact pE (lz k ok hok ((hi.dt k tx (List.getElem?_eq_some_iff.1 hok).1).2 Ba) j h)),Hh.base t (fun k ok Fa hok _=>kf k ok Fa hok),(Is j hj).base t (fun k ok Fa hok _=>kf k ok Fa hok)]
  obtain⟨JQ,CA⟩:=nS Cj
  have h2:One P r l.toArray w o a v:=by
   rcases Nat.eq_or_lt_of_le hi.p0 with Fc|Fc
   ·have Wv:=hi.wm Fc.symm;unfold One at h1 ⊢;rw[CA,mc hq JQ,Wv];exact h1
   ·have hjf:=hmf Fc
    have acE:∀t∈asks l o,am.tmps[t]? =(st j).tmps[t]? :=fun t ht=>Hh.agree dv jV (Is j hj) fun i o' pG gy hd=>by
     rcases hfo j o hj hjf ho t ht i o' gy hd with h|⟨h,_⟩
     ·have:=cR dv j o ho i h;exact⟨fun _=>by omega,fun _=>pG⟩
     ·omega
    obtain⟨Xk,_⟩:=nS acE;unfold One at h1 ⊢;rw[CA]
    split
    ·rename_i hw
     rw[if_pos hw]at h1;rw[←mc hq Xk]at h1;rw[mc hq JQ,←mc hq Xk];exact hF j o hjf ho am.eval (fun x u hx=>hLm.eval hx) v w (hi.keep (Nat.le_of_not_lt fun dV=>pE (hi.da dV j hj))) h1
    ·rename_i hw
     rw[if_neg hw]at h1;exact h1
  refine h2.run (by simpa using ho) hq (hk _ _ ⟨p,ac,Lp,hi.p0,hi.p1,fun i h3 h4=>?_,fun h i h3 h4=> .inr (hi.df h i h3 h4),hi.ag,hi.tr,hi.keep,fun h i h3=> .inr (hi.da h i h3),hi.wm,by rw[put_defers];exact hi.defers,by rw[nQ];exact hi.size,hi.sizec,fun t ht=>?_,fun i o' t pG gy hd Q4=>?_,hi.cm⟩)
  ·rw[←hi.dt i h3 h4];exact⟨fun h=>h.resolve_left (by omega),.inr⟩
  ·rw[iv];by_cases e:o.dst=some t
   ·rw[if_pos e,hi.cm t (fun k ok tx Ba hok It=>by have:=fP dv hok ho It e;omega),Hh.done j o v t hj ho hv hj e];exact tz hi.size
   ·rw[if_neg e];exact hi.done t fun i o' pG gy hd=>(ht i o' pG gy hd).resolve_left (fun h=>by subst h;rw[ho]at gy;cases gy;exact e hd)
  ·rw[iv,if_neg (fun e=>Q4 (.inl (fP dv gy ho hd e)))];exact hi.pend i o' t pG gy hd (fun h=>Q4 (.inr h))
 ·have hjp:j=p:=by
   have h1:p≤j:=by
    rcases Nat.lt_or_ge j p with h|h
    ·exact absurd ((hi.dt j hj wU).2 h) pE
    ·exact h
   rcases Nat.lt_or_ge m j with h|h
   ·have h2:=hp _ (kP xH (j:=j) (by omega) ho);have:=(hi.dt (j-1) (by omega) (by omega)).1 h2;omega
   ·have:=hi.p0;omega
  subst hjp;obtain⟨hto,Ku⟩:=ET j o hj ho
  have il:∀i,i<m→i∉fl→D i:=fun i pG hif=>by
   rcases Nat.eq_or_lt_of_le hi.p0 with h|h
   ·rw[h,ho]at Ks;exact mW (D:=D) lz j (cv o) Ks hp i (by omega) hif
   ·exact hi.df h i pG hif
  have Cj:∀t∈asks l o,a.tmps[t]? =ac.tmps[t]? :=fun t ht=>hi.done t fun i o' pG gy hd=>hp i (Ku t ht i o' pG gy hd)
  obtain⟨JQ,CA⟩:=nS Cj
  have Xl:m+c<j+1→∀i,i<m→D i:=fun dV i pG=>by
   rcases Nat.lt_or_ge (m+c) j with h|h
   ·exact hi.da h i pG
   ·have rG:j=m+c:=by omega
    rcases Xj with h5|h5
    ·omega
    ·refine oO (D:=D) lz m _ h5 (fun k hk=>?_) i pG;simp only[uO,List.mem_flatMap,List.mem_range'_1]at hk;obtain⟨q,⟨Td,hq2⟩,Q5⟩:=hk;rcases Nat.eq_or_lt_of_le (show q≤j by omega)with e|e
     ·rw[e,ho]at Q5;exact hp k Q5
     ·have hDq:=(hi.dt q Td (by omega)).2 e
      cases gP:l[q]? with
      |none=>rw[gP]at Q5;cases Q5
      |some oq=>rw[gP]at Q5;exact lz q oq gP hDq k Q5
  have vU:=hi.tr;rw[List.drop_eq_getElem_cons wU,(List.getElem?_eq_some_iff.1 ho).2]at vU;have h1:=Rg.run vU ac hi.ag;refine CI (by simpa using ho) hto JQ CA (by rw[hi.defers,hi.ag.defers]) h1 (fun e a w ⟨_,_,_,he,_⟩=>he) (fun v w' ⟨L',qh,hA,_,Kq,hkp,Tf⟩=>?_) (fun d w' ⟨L',qh,hA,_,Kq,_⟩=>?_)
  ·rw[Kq]at hA;refine hk _ _ ⟨j+1,ac.put o.dst v,L',by omega,by omega,fun i h3 h4=>?_,fun _ i h3 h4=> .inr (il i h3 h4),hA,by rw[show c+m-(j+1)=c+m-j-1 from by omega];exact Tf,fun h=>hkp (by omega),fun h i pG=> .inr (Xl h i pG),fun h=>by omega,by rw[put_defers];exact hi.defers,by rw[nQ];exact hi.size,by rw[nQ];exact hi.sizec,fun t ht=>?_,fun i o' t pG gy hd Q4=>?_,fun t ht=>?_⟩
   ·constructor
    ·rintro(h|h)
     ·omega
     ·have:=(hi.dt i h3 h4).1 h;omega
    ·intro h;rcases Nat.eq_or_lt_of_le (show i≤j by omega)with h5|h5
     ·exact .inl h5
     ·exact .inr ((hi.dt i h3 h4).2 h5)
   ·rw[iv,iv]
    split
    ·exact tz (hi.size.trans hi.sizec.symm)
    ·exact hi.done t fun i o' pG gy hd=>(ht i o' pG gy hd).resolve_left (by omega)
   ·rw[iv,if_neg (fun e=>by have:=fP dv gy ho hd e;omega)];exact hi.pend i o' t pG gy hd (fun h=>Q4 (.inr h))
   ·rw[iv,if_neg (ht j o hj (by omega) ho)];exact hi.cm t fun i o' h3 h4 h5=>ht i o' h3 (by omega) h5
  ·have h3:=hA.defers;rw[put_defers,Kq]at h3;have h4:=congrArg List.length h3;rw[hi.ag.defers]at h4;simp at h4
theorem T.pH {id:Nat} {l:List Oper} (m:Nat) (fl:List Nat) (c:Nat) (N:aD) (hm:P.follows .mixedOrders=true) (qj:Nat.blt m l.length=true) (dv:eH l 0=true) (mQ:kq l m=true) (ES:ll l m fl c=true)
  (h:∀wD,(∀M,Step M w M wD aC)→lh P r n l.toArray (l.take m) L ds wD (fun L'=>(∀j o,j∈fl→l[j]? =some o→bX P N wD L' o)∧sx P r n l.toArray N wD K c (l.drop m) L' ds wD)):T P r n (.region id l.toArray true) L ds w K:=by
 refine⟨fun a ha=>wpIn_region_draw fun t=>?_⟩;simp only[Region.schedule,hm,Bool.true_or,if_true,Region.linearise];have Ag:m<l.length:=by simpa[Nat.blt_eq]using qj
 have hQ:=h _ (oQ w);have iU:∀j,j<m→(l.take m)[j]? =l[j]? :=fun j hj=>by rw[List.getElem?_take,if_pos hj]
 obtain⟨am,Lm,vs,vU,hA,hF,hT⟩:=hQ.trace (fun o ho=>by
  obtain⟨j,hj⟩:=List.mem_iff_getElem?.1 ho
  have Ah:j<m:=by
   have:=(List.getElem?_eq_some_iff.1 hj).1;rw[List.length_take]at this;omega
  exact(lj mQ Ah (by rw[←iU j Ah];exact hj)).1) ha
 obtain⟨st,h0,hl,kF⟩:=vU.Bc;have hlen:(l.take m).length=m:=by rw[List.length_take];omega
 rw[hlen]at hl;have wX:∀j o,j<m→l[j]? =some o→∃v,vs[j]? =some v∧One P r l.toArray _ o (st j) v∧st (j+1)=(st j).put o.dst v:=fun j o hj ho=>kF j o (by rw[iU j hj];exact ho)
 have jV:∀i,i<m→∃v,vs[i]? =some v:=fun i hi=>by
  obtain⟨v,hv,_⟩:=wX i l[i] hi (List.getElem?_eq_getElem (by omega));exact⟨v,hv⟩
 have Is:=nR dv h0 wX;have Hh:=Is m (Nat.le_refl _) (by omega);rw[hl]at Hh
 refine oP (J:=fun D a' w'=>∃p ac Lp,GJ P r n l m fl c N K ds a am {w with drawn:=w.drawn+1} D a' w' p ac Lp) dv (fun {D D' a' w'} ⟨p,ac,Lp,hi⟩ hD=>⟨p,ac,Lp,hi.p0,hi.p1,fun i h3 h4=>(hD i h4).trans (hi.dt i h3 h4),fun h i h3 h4=>(hD i (by omega)).2 (hi.df h i h3 h4),hi.ag,hi.tr,hi.keep,fun h i h3=>(hD i (by omega)).2 (hi.da h i h3),hi.wm,hi.defers,hi.size,hi.sizec,fun t ht=>hi.done t fun i o h3 h4 h5=>(hD i (by omega)).1 (ht i o h3 h4 h5),fun i o t h3 h4 h5 h6=>hi.pend i o t h3 h4 h5 (fun h=>h6 ((hD i (by omega)).2 h)),hi.cm⟩)
  (fun {D a' w' j o rest} hj ho pE hp lz hi hk=>GJ.next dv mQ ES Ag jV (fun j o hj ho=>by obtain⟨v,h1,h2,_⟩:=wX j o hj ho;exact⟨v,h1,h2⟩) (fun j hj=>Is j (by omega) (by omega)) Hh hA hF ho pE hp lz hi hk) (fun a' w' hJ=>?_) _ t _ a _ (by simp) (by simp[List.countP_replicate]) (fun i o h1 h2=>?_) ⟨m,am,Lm,Nat.le_refl _,by omega,fun i h3 h4=>?_,fun h=>by omega,hA,by rw[Nat.add_sub_cancel];exact hT,fun _=>eN.refl _ _,fun h=>by omega,fun _=>rfl,ha.defers,rfl,Hh.size,fun t ht=>?_,fun i o t _ _ _ _=>rfl,fun t _=>rfl⟩
 ·obtain⟨p,ac,Lp,hi⟩:=hJ
  have rH:p=l.length:=by
   rcases Nat.lt_or_ge p l.length with h3|h3
   ·have:=(hi.dt p hi.p0 h3).1 h3;omega
   ·have:=hi.p1;omega
  have vU:=hi.tr;rw[rH,List.drop_eq_nil_of_le (Nat.le_refl _)]at vU;refine⟨Lp,ds,⟨?_,hi.defers,fun t v ht=>?_⟩,vU⟩
  ·rw[hi.size];exact ha.size
  ·rw[hi.done t fun i o h3 h4 _=>by omega];exact hi.ag.at_ t v ht
 ·simp[Array.getElem?_replicate]at h2
 ·simp[Array.getElem?_replicate];omega
 ·rw[Hh.base t fun i o h3 h4 _ h5=>?_];have:=ht i o h3 h4 h5;simp[Array.getElem?_replicate]at this
def ib (P:Program) (N:aD) (wd:World) (L:Sl) (l:List Oper):List Nat→Prop
 |[]=>True
 |j::js=>(match l[j]? with|some o=>bX P N wd L o|none=>True)∧ib P N wd L l js
theorem ib.all {N:aD} {wd:World} {l:List Oper}:∀{fl:List Nat},ib P N wd L l fl→∀j o,j∈fl→l[j]? =some o→bX P N wd L o
 |[],_,j,o,hj,_=>absurd hj (List.not_mem_nil)
 |k::fl,h,j,o,hj,ho=>by
  rcases List.mem_cons.1 hj with e|hj
  ·have h1:=h.1;rw[←e,ho]at h1;exact h1
  ·exact ib.all h.2 j o hj ho
variable {N:aD} {wd:World} {dst:Option Nat} {ty:TypeId} {pos:String} {af:Array Edge} {gd:Option (Nat×Bool)} {x y i:Operand}
theorem bX.move:bX P N wd L {dst,op:= .move x,type:=ty,pos,after:=af,guard:=gd}:=fun ρ _ v w' _ h=>by
 have h:Result.ok (Next.value (ρ x)) wd= .ok (.value v) wd:=h
 cases h;rfl
def Loc {α:Type} (s:Sem α):Prop:=∀(P:Program) (w1:World) (a:α) (w':World),s.run P w1= .ok a w'→w'=w1∧∀w2,s.run P w2= .ok a w2
theorem Loc.bind {α β:Type} {s:Sem α} {f:α→Sem β} (h:Loc s) (hf:∀a,Loc (f a)):Loc (s >>= f):=fun P w1 b w' hr=>by
 rw[Sem.run_bind]at hr
 cases hs:s.run P w1 with
 |ok a wa=>
  rw[hs]at hr;obtain⟨rfl,h2⟩:=h P w1 a wa hs;obtain⟨h3,h4⟩:=hf a P _ b w' hr;exact⟨h3,fun w2=>by rw[Sem.run_bind,h2 w2];exact h4 w2⟩
 |halt e wa=>rw[hs]at hr;simp[Result.andThen]at hr
theorem Loc.pure {α:Type} (a:α):Loc (Pure.pure a:Sem α):=fun P w1 b w' hr=>by
 simp only[Sem.run_pure,Result.ok.injEq]at hr;exact⟨hr.2.symm,fun w2=>by rw[←hr.1];rfl⟩
theorem Loc.val {s:Sem Value} (h:Loc s):Loc (do Pure.pure (Next.value (←s)):Sem Next):=h.bind fun v=> .pure _
theorem Loc.halt {α:Type} {s:Sem α} (h:∀(P:Program) (w:World) a w',s.run P w≠ .ok a w'):Loc s:=fun P w1 a w' hr=>absurd hr (h P w1 a w')
theorem Loc.stuck {α:Type} (e:Halt):Loc (.halt e:Sem α):= .halt fun P w a w' h=>by simp[Sem.run]at h
theorem bX.free {o:Oper} (h:∀ρ:Operand→Value,(∀x u,ev L x=some u→ρ x=u)→Loc (execOp ρ o)):bX P N wd L o:=fun ρ hρ v w' _ hr=>(h ρ hρ P wd _ _ hr).2 w'
theorem Aj (t:TypeId):Loc (underlying t):=fun P w1 a w' hr=>by
 simp only[underlying,Sem.run_bind,program,Sem.run,Result.andThen]at hr ⊢
 cases hu:P.underlying t with
 |none=>rw[hu]at hr;simp[stuck,Sem.run]at hr
 |some d=>rw[hu]at hr;simp only[Sem.run_pure,Result.ok.injEq]at hr ⊢;exact⟨hr.2.symm,fun w2=>⟨hr.1,trivial⟩⟩
theorem Kv (t:TypeId):Loc (typeInfo t):=fun P w1 a w' hr=>by
 simp only[typeInfo,Sem.run_bind,program,Sem.run,Result.andThen]at hr ⊢
 cases hu:P.info? t with
 |none=>rw[hu]at hr;simp[stuck,Sem.run]at hr
 |some d=>rw[hu]at hr;simp only[Sem.run_pure,Result.ok.injEq]at hr ⊢;exact⟨hr.2.symm,fun w2=>⟨hr.1,trivial⟩⟩
theorem Kw (t:TypeId):Loc (sizeOf t):=(Kv t).bind fun _=> .pure _
theorem vV {α:Type} (e:RuntimeError) (w w':World) (a:α):(runtimePanic e:Sem α).run P w≠ .ok a w':=fun h=>by
 cases e<;>simp only[runtimePanic,program,goPanic,Sem.run,Sem.run_bind,Result.andThen]at h<;>repeat' (first|(cases h;done)|(simp at h;done)|split at h)
theorem xI {α:Type} (k:IntKind) (i:Int) (n:Int) (c:BoundsCode):Loc (boundsPanic k i n c:Sem α):= .halt fun P w a w' h=>by
 unfold boundsPanic at h;simp only at h
 split at h
 ·rw[Sem.run_bind]at h;generalize ((· ==1) <$> choose (.extern "runtime.boundsError.signed" 2):Sem Bool).run P w=res at h
  cases res with
  |ok b w1=>
   have h:(runtimePanic (.bounds (IntKind.i64.wrap i) n b c):Sem α).run P w1= .ok a w':=h;exact vV _ _ _ _ h
  |halt e w1=>simp[Result.andThen]at h
 ·have h:(runtimePanic (.bounds (IntKind.i64.wrap i) n (k != IntKind.u64) c):Sem α).run P w= .ok a w':=by rw[Sem.run_bind]at h;exact h
  exact vV _ _ _ _ h
theorem Kx (v:Value):Loc (Instr.sureAddr v):=by
 unfold Instr.sureAddr
 split
 ·exact .pure _
 ·exact .stuck _
theorem Iu (v:Value):Loc (asIntOf v):=by
 unfold asIntOf
 split
 ·exact .pure _
 ·exact .stuck _
 ·exact .stuck _
theorem bX.idx {t:TypeId}:bX P N wd L {dst,op:= .indexAddr t x i,type:=ty,pos,after:=af,guard:=gd}:= .free fun ρ _=>by
 simp only[execOp];refine Loc.val ?_;unfold Instr.indexAt
 have key:∀(base:Option Addr) (len:Nat) (elem:TypeId) (k:IntKind) (j:Int) (f:TypeDesc→Bool),Loc (underlying t >>= fun u=>match base with
   |some a=>if 0≤j∧j<len then(sizeOf elem >>= fun sz=>Pure.pure (Value.pointer (some (a.add (j.toNat*sz)))))else if(decide (len≤1)&&f u)=true then unsupported (.noEntry "op/indexAddr.an index out of range at an array of length 0 or 1 (ledger 616)")else boundsPanic k j len .index
   |none=>boundsPanic k j 0 .index:Sem Value):=fun base len elem k j f=>(Aj t).bind fun d2=>by
  split
  ·split
   ·exact(Kw _).bind fun _=> .pure _
   ·split
    ·exact .stuck _
    ·exact xI _ _ _ _
  ·exact xI _ _ _ _
 refine (Iu _).bind fun ki=>(Aj t).bind fun d=> ?_
 simp only
 split
 ·exact(Kx _).bind fun a=>(Loc.pure _).bind fun bl=>by obtain⟨base,len,elem⟩:=bl;exact key base len elem _ _ (fun d=>match d with| .array .. =>true|_=>false)
 ·exact(Loc.pure _).bind fun bl=>by obtain⟨base,len,elem⟩:=bl;exact key base len elem _ _ (fun d=>match d with| .array .. =>true|_=>false)
 ·exact(Loc.stuck _).bind fun bl=>by obtain⟨base,len,elem⟩:=bl;exact key base len elem _ _ (fun d=>match d with| .array .. =>true|_=>false)
theorem bX.nilCheck {a:Addr} (hx:ev L x=some (.pointer (some a))):bX P N wd L {dst,op:= .nilCheck x,type:=ty,pos,after:=af,guard:=gd}:= .free fun ρ hρ=>by
 simp only[execOp,hρ x _ hx];exact .pure _
theorem mf {w w':World} {b:Nat} (hb:∃cs e fr,w.heap[b]? =some (.cells cs e fr)) (hs:w'.heap[b]? =w.heap[b]?):∀(n o i:Nat) (acc a:Array Value) (w1:World),(loadCellsFrom ⟨b,o,none⟩ i n acc).run P w= .ok a w1→w1=w∧(loadCellsFrom ⟨b,o,none⟩ i n acc).run P w'= .ok a w'
 |0,o,i,acc,a,w1,h=>by
  simp only[loadCellsFrom,Sem.run_pure,Result.ok.injEq]at h ⊢;exact⟨h.2.symm,h.1,trivial⟩
 |n+1,o,i,acc,a,w1,h=>by
  obtain⟨cs,e,fr,hc⟩:=hb;simp only[loadCellsFrom,Sem.run_bind]at h ⊢;have lp:∀k,w'.cell? ⟨b,k,none⟩=w.cell? ⟨b,k,none⟩:=fun k=>by simp only[World.cell?,hs]
  have Tg:(⟨b,o,none⟩:Addr).add i=⟨b,o+i,none⟩:=by simp[Addr.add]
  rw[Tg]at h ⊢;simp only[load,Sem.run]at h ⊢;rw[lp]
  cases hv:w.cell? ⟨b,o+i,none⟩with
  |some v=>
   rw[hv]at h;simp only[Result.andThen]at h ⊢;exact mf ⟨cs,e,fr,hc⟩ hs n o (i+1) (acc.push v) a w1 h
  |none=>
   rw[hv]at h;simp[World.farLoad,hc,Result.andThen]at h
theorem bX.load {t:TypeId} {b o:Nat} {cs:Array Value} {e:TypeId} {fr:Nat×Nat} (hx:ev L x=some (.pointer (some ⟨b,o,none⟩))) (hb:wd.heap[b]? =some (.cells cs e fr)) (hn: ¬N b):bX P N wd L {dst,op:= .load t x,type:=ty,pos,after:=af,guard:=gd}:=fun ρ hρ v w' hk hr=>by
 have hs:=hk.2 b (ak hb) hn;simp only[execOp,hρ x _ hx]at hr ⊢;rw[Sem.run_bind]at hr ⊢
 have key:∀v w1,(Instr.loadAt t (.pointer (some ⟨b,o,none⟩))).run P wd= .ok v w1→(Instr.loadAt t (.pointer (some ⟨b,o,none⟩))).run P w'= .ok v w':=fun v w1 h=>by
  simp only[Instr.loadAt,Instr.sureAddr,Sem.run_bind,Sem.run_pure,Result.andThen_ok,loadVar]at h ⊢
  have Cj:∀w:World,(isAgg t).run P w=match P.underlying t with|some (.struct _)|some (.array _ _)=>Result.ok true w|some _=>Result.ok false w|none=>Result.halt (.stuck "no such type") w:=fun w=>by
   simp only[isAgg,underlying,Sem.run_bind,program,Sem.run,Result.andThen]
   cases P.underlying t with
   |none=>simp[stuck,Sem.run]
   |some d=>cases d<;>simp
  rw[Cj]at h ⊢
  cases hu:P.underlying t with
  |none=>rw[hu]at h;simp[Result.andThen]at h
  |some d=>
   have jJ:∀w:World,(sizeOf t).run P w=match P.info? t with|some i=>Result.ok i.size w|none=>Result.halt (.stuck "no such type") w:=fun w=>by
    simp only[sizeOf,typeInfo,Sem.run_bind,program,Sem.run,Result.andThen]
    cases P.info? t<;>simp[stuck,Sem.run]
   have su:∀v w1,(Go.load ⟨b,o,none⟩).run P wd= .ok v w1→(Go.load ⟨b,o,none⟩).run P w'= .ok v w':=fun v w1 h=>by
    have lp:w'.cell? ⟨b,o,none⟩=wd.cell? ⟨b,o,none⟩:=by simp only[World.cell?,hs]
    simp only[Go.load,Sem.run]at h ⊢;rw[lp]
    cases hv:wd.cell? ⟨b,o,none⟩with
    |some u=>rw[hv]at h;simp only[Result.ok.injEq]at h ⊢;exact⟨h.1,trivial⟩
    |none=>rw[hv]at h;simp[World.farLoad,hb]at h
   have E2:∀v w1,(do Pure.pure (Value.agg (←loadCells ⟨b,o,none⟩ (←sizeOf t))):Sem Value).run P wd= .ok v w1→(do Pure.pure (Value.agg (←loadCells ⟨b,o,none⟩ (←sizeOf t))):Sem Value).run P w'= .ok v w':=fun v w1 h=>by
    simp only[Sem.run_bind,jJ]at h ⊢
    cases hi:P.info? t with
    |none=>rw[hi]at h;simp[Result.andThen]at h
    |some inf=>
     rw[hi]at h;simp only[Result.andThen]at h ⊢
     cases hl:(loadCells ⟨b,o,none⟩ inf.size).run P wd with
     |ok a w2=>
      rw[hl]at h;obtain⟨_,h2⟩:=mf ⟨cs,e,fr,hb⟩ hs _ _ _ _ _ _ hl;have h2:(loadCells ⟨b,o,none⟩ inf.size).run P w'= .ok a w':=h2;rw[h2];simp only[Sem.run_pure,Result.ok.injEq]at h ⊢;exact⟨h.1,trivial⟩
     |halt x w2=>rw[hl]at h;simp at h
   rw[hu]at h
   cases d<;>simp only[Result.andThen_ok,if_true,Bool.false_eq_true,if_false]at h ⊢ <;>first|exact su v w1 h|exact E2 v w1 h
 cases hl:(Instr.loadAt t (.pointer (some ⟨b,o,none⟩))).run P wd with
 |ok u w1=>
  rw[hl]at hr;rw[key u w1 hl];simp only[Result.andThen_ok,Sem.run_pure,Result.ok.injEq]at hr ⊢;exact⟨hr.1,trivial⟩
 |halt x w1=>rw[hl]at hr;simp[Result.andThen]at hr
theorem cQ.float {α:Type} {A:RT α} {M:aD} {w:World} {v:Value} {x:α} (h:cQ A M w v x) (hn:0<A.n:=by decide):∃b o cs e fr,v= .pointer (some ⟨b,o,none⟩)∧w.heap[b]? =some (.cells cs e fr)∧¬M b:=by
 obtain⟨b,o,vs,h1,h2,h3,h4⟩:=h;have hp:0<vs.length:=by rw[A.len h3];exact hn
 have hc:=h4 0 vs[0] (List.getElem?_eq_getElem hp);simp only[World.cell?]at hc
 cases hb:w.heap[b]? with
 |none=>rw[hb]at hc;cases hc
 |some ob=>
  rw[hb]at hc
  cases ob with
  |cells cs e fr=>exact⟨b,o,cs,e,fr,h1,hb,h2⟩
  |_=>cases hc
theorem bX.field {s:TypeId} {fs:Array Field} {fd:Field} {j:Nat} {zv:Value} {size bytes:Nat} (hs:P.underlying s=some (.struct fs)) (hj:fs[j]? =some fd) (hi:TI P fd.type zv size bytes) (h0:size≠0):bX P N wd L {dst,op:= .fieldAddr s x j,type:=ty,pos,after:=af,guard:=gd}:=fun ρ hρ v w' hk hr=>by
 simp only[execOp,Sem.run_bind]at hr ⊢
 have key:∀w,(Instr.fieldAt s (ρ x) j).run P w=match ρ x with| .pointer (some a)=>Result.ok (.pointer (some (a.add fd.offset))) w|_=>Result.halt (.stuck "an address expected (no nilCheck in front?)") w:=fun w=>by
  generalize ρ x=u;unfold Instr.fieldAt;simp only[Sem.run_bind,run_underlying hs,Result.andThen_ok,hj];unfold Instr.sureAddr
  split
  ·simp only[Sem.run_pure,Result.andThen_ok,Sem.run_bind,fieldPlace,hi.sizeOf,h0,if_false]
  ·simp[stuck,Sem.run,Result.andThen]
 rw[key]at hr ⊢
 split at hr
 ·simp only[Result.andThen_ok,Sem.run_pure,Result.ok.injEq]at hr ⊢;exact⟨hr.1,trivial⟩
 ·simp[Result.andThen]at hr
end
end Go.K
namespace Go.K
section
variable {P:Program} {r:Option Nat} {n:Nat} {L:Sl} {ds:List Deferred} {w:World} {K:Kt}
def gX (P:Program) (r:Option Nat) (n:Nat) (l:List Oper) (L:Sl) (ds:List Deferred) (wD:World) (K:Kt):Prop:=
 ∀a,iM n a L ds→∃J:(Nat→Prop)→Act→World→Prop,
  (∀(D D':Nat→Prop) a w,J D a w→(∀i,i<l.length→(D' i↔D i))→J D' a w)∧
  (∀(Q:Exit→Act→World→Prop) (D:Nat→Prop) a w j o rest,j<l.length→l[j]? =some o→¬D j→(∀k∈cv o,D k)→(∀i o,l[i]? =some o→D i→∀k∈cv o,D k)→J D a w→(∀a' w',J (fun i=>i=j∨D i) a' w'→wpOpsIn (FW r) 0 P l.toArray Q rest a' w')→wpOpsIn (FW r) 0 P l.toArray Q (j::rest) a w)∧
  (∀a w,J (fun i=>i<l.length) a w→up n K .normal a w)∧J (fun _=>False) a wD
theorem gX.t {id:Nat} {l:List Oper} (hm:P.follows .mixedOrders=true) (dv:eH l 0=true) (h:∀wD,(∀M,Step M w M wD aC)→gX P r n l L ds wD K):T P r n (.region id l.toArray true) L ds w K:=by
 refine⟨fun a ha=>wpIn_region_draw fun t=>?_⟩;simp only[Region.schedule,hm,Bool.true_or,if_true,Region.linearise];obtain⟨J,h1,h2,h3,h4⟩:=h _ (oQ w) a ha;refine oP (J:=J) dv (fun {D D' a w} hi hD=>h1 D D' a w hi hD) (fun {D a' w' j o rest} hj ho pE hp lz hi hk=>h2 _ _ _ _ _ _ _ hj ho pE hp lz hi hk) h3 _ t _ a _ (by simp) (by simp[List.countP_replicate]) (fun i o h1 h2=>?_) (h1 _ _ _ _ h4 fun i _=>?_)
 ·simp[Array.getElem?_replicate]at h2
 ·simp[Array.getElem?_replicate]
theorem xJ {l:List Oper} {wd:World} (m:Nat) (fl:List Nat) (c:Nat) (N:aD) (qj:Nat.blt m l.length=true) (dv:eH l 0=true) (mQ:kq l m=true) (ES:ll l m fl c=true)
  (h:lh P r n l.toArray (l.take m) L ds wd (fun L'=>(∀j o,j∈fl→l[j]? =some o→bX P N wd L' o)∧sx P r n l.toArray N wd K c (l.drop m) L' ds wd)):gX P r n l L ds wd K:=by
 intro a ha;have Ag:m<l.length:=by simpa[Nat.blt_eq]using qj
 have iU:∀j,j<m→(l.take m)[j]? =l[j]? :=fun j hj=>by rw[List.getElem?_take,if_pos hj]
 obtain⟨am,Lm,vs,vU,hA,hF,hT⟩:=h.trace (fun o ho=>by
  obtain⟨j,hj⟩:=List.mem_iff_getElem?.1 ho
  have Ah:j<m:=by
   have:=(List.getElem?_eq_some_iff.1 hj).1;rw[List.length_take]at this;omega
  exact(lj mQ Ah (by rw[←iU j Ah];exact hj)).1) ha
 obtain⟨st,h0,hl,kF⟩:=vU.Bc;have hlen:(l.take m).length=m:=by rw[List.length_take];omega
 rw[hlen]at hl;have wX:∀j o,j<m→l[j]? =some o→∃v,vs[j]? =some v∧One P r l.toArray wd o (st j) v∧st (j+1)=(st j).put o.dst v:=fun j o hj ho=>kF j o (by rw[iU j hj];exact ho)
 have jV:∀i,i<m→∃v,vs[i]? =some v:=fun i hi=>by
  obtain⟨v,hv,_⟩:=wX i l[i] hi (List.getElem?_eq_getElem (by omega));exact⟨v,hv⟩
 have Is:=nR dv h0 wX;have Hh:=Is m (Nat.le_refl _) (by omega);rw[hl]at Hh
 refine⟨fun D a' w'=>∃p ac Lp,GJ P r n l m fl c N K ds a am wd D a' w' p ac Lp,fun D D' a' w' ⟨p,ac,Lp,hi⟩ hD=>⟨p,ac,Lp,hi.p0,hi.p1,fun i h3 h4=>(hD i h4).trans (hi.dt i h3 h4),fun h i h3 h4=>(hD i (by omega)).2 (hi.df h i h3 h4),hi.ag,hi.tr,hi.keep,fun h i h3=>(hD i (by omega)).2 (hi.da h i h3),hi.wm,hi.defers,hi.size,hi.sizec,fun t ht=>hi.done t fun i o h3 h4 h5=>(hD i (by omega)).1 (ht i o h3 h4 h5),fun i o t h3 h4 h5 h6=>hi.pend i o t h3 h4 h5 (fun h=>h6 ((hD i (by omega)).2 h)),hi.cm⟩,
  fun Q D a' w' j o rest hj ho pE hp lz hi hk=>GJ.next dv mQ ES Ag jV (fun j o hj ho=>by obtain⟨v,h1,h2,_⟩:=wX j o hj ho;exact⟨v,h1,h2⟩) (fun j hj=>Is j (by omega) (by omega)) Hh hA hF ho pE hp lz hi hk,fun a' w' hJ=>?_,⟨m,am,Lm,Nat.le_refl _,by omega,fun i h3 h4=>?_,fun h=>by omega,hA,by rw[Nat.add_sub_cancel];exact hT,fun _=>eN.refl _ _,fun h=>by omega,fun _=>rfl,ha.defers,rfl,Hh.size,fun t ht=>?_,fun i o t _ _ _ _=>rfl,fun t _=>rfl⟩⟩
 ·obtain⟨p,ac,Lp,hi⟩:=hJ
  have rH:p=l.length:=by
   rcases Nat.lt_or_ge p l.length with h3|h3
   ·have:=(hi.dt p hi.p0 h3).1 h3;omega
   ·have:=hi.p1;omega
  have vU:=hi.tr;rw[rH,List.drop_eq_nil_of_le (Nat.le_refl _)]at vU;refine⟨Lp,ds,⟨?_,hi.defers,fun t v ht=>?_⟩,vU⟩
  ·rw[hi.size];exact ha.size
  ·rw[hi.done t fun i o h3 h4 _=>by omega];exact hi.ag.at_ t v ht
 ·exact⟨False.elim,fun h=>by omega⟩
 ·rw[Hh.base t fun i o h3 h4 _ h5=>(ht i o h3 h4 h5)]
def sy (π:List Nat) (o:Oper):Oper:=⟨o.dst,o.op,o.type,o.pos,o.after.map fun e=>{e with on:=π.idxOf e.on},o.guard.map fun g=>(π.idxOf g.1,g.2)⟩
def xK (π:List Nat) (l:List Oper):List Oper:=π.map fun i=>sy π (l.getD i default)
def lA (π:List Nat) (k:Nat):Bool:=π.length==k&&π.all (Nat.blt · k)&&(List.range k).all (π.contains ·)&&(List.range k).all fun i=>π.idxOf (π.getD i 0)==i
theorem oR {π:List Nat} {k:Nat} (h:lA π k=true):π.length=k∧(∀(i j:Nat),π[i]? =some j→j<k)∧(∀j,j<k→π[π.idxOf j]? =some j)∧(∀(i j:Nat),π[i]? =some j→π.idxOf j=i)∧(∀j,k≤j→π.idxOf j=k):=by
 simp only[lA,Bool.and_eq_true,beq_iff_eq,List.all_eq_true,Nat.blt_eq,List.mem_range,List.contains_iff_mem]at h;obtain⟨⟨⟨h1,h2⟩,h3⟩,h4⟩:=h;refine⟨h1,fun i j jr=>h2 j (List.mem_of_getElem? jr),fun j hj=>?_,fun i j jr=>?_,fun j hj=>?_⟩
 ·have dV:=List.idxOf_lt_length_of_mem (h3 j hj);rw[List.getElem?_eq_getElem dV,List.getElem_idxOf dV]
 ·have hi:i<k:=by have:=(List.getElem?_eq_some_iff.1 jr).1;omega
  have:=h4 i hi
  rwa [List.getD_eq_getElem?_getD,jr,Option.getD_some]at this
 ·rw[List.idxOf_eq_length (fun hm=>by have:=h2 j hm;omega),h1]
theorem Be {π:List Nat} {l:List Oper} (hπ:lA π l.length=true) {j:Nat} {o:Oper} (ho:l[j]? =some o):(xK π l)[π.idxOf j]? =some (sy π o):=by
 obtain⟨_,_,h3,_⟩:=oR hπ;have hj:=(List.getElem?_eq_some_iff.1 ho).1;simp only[xK,List.getElem?_map,h3 j hj,Option.map_some,List.getD_eq_getElem?_getD,ho,Option.getD_some]
theorem OY {π:List Nat} {l:List Oper} (hπ:lA π l.length=true) {i:Nat} {o':Oper} (ho:(xK π l)[i]? =some o'):∃j o,π[i]? =some j∧l[j]? =some o∧o'=sy π o:=by
 obtain⟨_,h2,_⟩:=oR hπ;simp only[xK,List.getElem?_map,Option.map_eq_some_iff]at ho;obtain⟨j,hj,rfl⟩:=ho;refine⟨j,_,hj,List.getElem?_eq_getElem (h2 i j hj),?_⟩;rw[List.getD_eq_getElem?_getD,List.getElem?_eq_getElem (h2 i j hj),Option.getD_some]
theorem xL (π:List Nat) (o:Oper):cv (sy π o)=(cv o).map π.idxOf:=by
 simp only[cv,sy,Array.toList_map,List.filter_map,List.map_map];rfl
theorem CJ {π:List Nat} {l:List Oper} (hπ:lA π l.length=true) (tmps:Array Value) (j:Nat):yielded (xK π l).toArray tmps (π.idxOf j)=yielded l.toArray tmps j:=by
 unfold yielded
 have:((xK π l).toArray[π.idxOf j]?).bind (·.dst)=(l.toArray[j]?).bind (·.dst):=by
  simp only[List.getElem?_toArray]
  cases ho:l[j]? with
  |some o=>rw[Be hπ ho];rfl
  |none=>
   have hj:l.length≤j:=List.getElem?_eq_none_iff.1 ho;obtain⟨h1,_,_,_,h5⟩:=oR hπ;rw[h5 j hj,List.getElem?_eq_none (by simp[xK,h1])]
 rw[this]
theorem Fe {π:List Nat} {l:List Oper} (hπ:lA π l.length=true) (tmps:Array Value) (o:Oper):Region.wanted (sy π o) (yielded (xK π l).toArray tmps)=Region.wanted o (yielded l.toArray tmps):=by
 unfold Region.wanted sy
 cases o.guard with
 |none=>rfl
 |some g=>simp only[Option.map_some,CJ hπ]
theorem OZ {π:List Nat} {l:List Oper} (hπ:lA π l.length=true) {Q:Exit→Act→World→Prop} {j:Nat} {o:Oper} {rest:List Nat} {a:Act} (ho:l[j]? =some o)
  (h:wpOpsIn (FW r) 0 P (xK π l).toArray (fun e a w=>match e with| .normal=>wpOpsIn (FW r) 0 P l.toArray Q rest a w|e=>Q e a w) [π.idxOf j] a w):wpOpsIn (FW r) 0 P l.toArray Q (j::rest) a w:=by
 simp only[wpOpsIn,List.getElem?_toArray,ho,Be hπ ho,Fe hπ]at h ⊢
 split at h
 ·rename_i hw
  rw[if_pos hw];refine⟨h.1,?_⟩;have h2:=h.2;rw[show Oper.semAt (FW r).round a.eval (sy π o)=Oper.semAt (FW r).round a.eval o from rfl]at h2;generalize (Oper.semAt (FW r).round a.eval o).run P w=res at h2 ⊢
  cases res with
  |ok nx w'=>
   cases nx with
   |enter f args=>exact⟨h2.1,h2.2.mono fun e wV he=>by cases e<;>exact he⟩
   |round l f tmps rE body=>exact⟨h2.1,h2.2.mono fun e wV he=>by cases e<;>exact he⟩
   |_=>exact h2
  |halt x w'=>cases x<;>exact h2
 ·rename_i hw
  rw[if_neg hw];exact⟨h.1,h.2⟩
theorem gX.perm {l:List Oper} {wd:World} (π:List Nat) (hπ:lA π l.length=true) (dv:eH l 0=true) (h:gX P r n (xK π l) L ds wd K):gX P r n l L ds wd K:=by
 intro a ha;obtain⟨J,h1,h2,h3,h4⟩:=h a ha;obtain⟨p1,p2,p3,p4,_⟩:=oR hπ;have hlen:(xK π l).length=l.length:=by simp[xK,p1]
 refine⟨fun D a w=>J (fun i=>∃j,π[i]? =some j∧D j) a w,fun D D' a w hJ hD=>h1 _ _ _ _ hJ fun i _=>⟨fun⟨j,hj,h⟩=>⟨j,hj,(hD j (p2 i j hj)).1 h⟩,fun⟨j,hj,h⟩=>⟨j,hj,(hD j (p2 i j hj)).2 h⟩⟩,fun Q D a w j o rest hj ho pE hp lz hJ hk=>?_,fun a w hJ=>h3 _ _ (h1 _ _ _ _ hJ fun i hi=>?_),h1 _ _ _ _ h4 fun i _=>⟨fun⟨j,_,h⟩=>h,False.elim⟩⟩
 ·refine OZ hπ ho (h2 _ _ _ _ _ _ _ (by rw[hlen,←p1];exact(List.getElem?_eq_some_iff.1 (p3 j hj)).1) (Be hπ ho) ?_ ?_ ?_ hJ fun a' w' SG=>hk _ _ (h1 _ _ _ _ SG fun i hi=>?_))
  ·rintro⟨k,tx,Ba⟩;rw[p3 j hj]at tx
   cases tx;exact pE Ba
  ·intro k' tw;rw[xL,List.mem_map]at tw;obtain⟨k,tx,rfl⟩:=tw;have:=cR dv j o ho k tx;exact⟨k,p3 k (by omega),hp k tx⟩
  ·rintro i o' gy ⟨k,tx,Ba⟩ k' tw;obtain⟨k2,ok,h5,h6,rfl⟩:=OY hπ gy;rw[h5]at tx;cases tx;rw[xL,List.mem_map]at tw;obtain⟨q,Td,rfl⟩:=tw;have:=cR dv k ok h6 q Td;have:=p2 i k h5;exact⟨q,p3 q (by omega),lz k ok h6 Ba q Td⟩
  ·constructor
   ·rintro⟨k,tx,h|h⟩
    ·subst h;exact .inl (p4 i k tx).symm
    ·exact .inr ⟨k,tx,h⟩
   ·rintro(h|⟨k,tx,h⟩)
    ·subst h;exact⟨j,p3 j hj,.inl rfl⟩
    ·exact⟨k,tx,.inr h⟩
 ·rw[hlen]at hi;have hp:π[i]? =some (π[i]'(by omega)):=List.getElem?_eq_getElem _;exact⟨fun _=>⟨_,hp,p2 i _ hp⟩,fun _=>by omega⟩
theorem T.Ky {id:Nat} {l l':List Oper} (π:List Nat) (m:Nat) (fl:List Nat) (c:Nat) (N:aD) (hm:P.follows .mixedOrders=true) (Ff:xK π l=l') (rI:eH l 0=true) (hπ:lA π l.length=true) (qj:Nat.blt m l'.length=true) (dv:eH l' 0=true) (mQ:kq l' m=true) (ES:ll l' m fl c=true)
  (h:∀wD,(∀M,Step M w M wD aC)→lh P r n l'.toArray (l'.take m) L ds wD (fun L'=>(∀j o,j∈fl→l'[j]? =some o→bX P N wD L' o)∧sx P r n l'.toArray N wD K c (l'.drop m) L' ds wD)):T P r n (.region id l.toArray true) L ds w K:=by
 subst Ff;exact gX.t hm rI fun wD hD=> .perm π hπ rI (xJ m fl c N qj dv mQ ES (h wD hD))
end
end Go.K
namespace Go.K
def vW (P:Program) (l:Nat) (args:Array Value) (w:World) (Q:Value→World→Prop):Prop:=YieldAt (FW none) 0 P l args w (fun e w'=>∃v,e= .returned v∧Q v w')
section
variable {P:Program} {r:Option Nat} {n:Nat} {L:Sl} {ds:List Deferred} {w:World} {K:Kt} {ops:Array Oper} {rest:List Oper} {d:Nat} {ty:TypeId} {pos:String} {af:Array Edge}
theorem Rg.yield {x:Operand} {l:Nat} {xs:List Operand} {vs:List Value} {Cw:Array TypeId} {Q:Value→World→Prop} (hx:ev L x=some (.func (.yield l) #[] #[]))
  (jS:Ov L xs=some vs) (hd:Nat.blt d n=true) (hs:vW P l vs.toArray w Q) (k:∀v w',Q v w'→Rg P r n ops rest ((d,v)::L) ds w' K):
  Rg P r n ops ({dst:=some d,op:= .call {callee:= .value x,args:=xs.toArray,argTypes:=Cw},type:=ty,pos,after:=af,guard:=none}::rest) L ds w K:=by
 refine⟨fun a ha=>wpListIn_plain rfl fun K' OL=>Cu (fun _ h=>by cases h) ?_⟩;obtain⟨fn,tmps,rE,body,hy,hr⟩:=hs
 have gN:(execOp a.eval {dst:=some d,op:= .call {callee:= .value x,args:=xs.toArray,argTypes:=Cw},type:=ty,pos,after:=af,guard:=none}).run P w= .ok (.round l fn tmps rE body) w:=by
  have h1:=oJ (ρ:=a.eval) (fun x u hx=>ha.eval hx) jS;simp only[execOp,resolve,List.map_toArray,h1,ha.eval hx];simpa[Deferred.ofValue,invoke]using hy
 rw[gN,Oper.uponIn_round];refine⟨fun h=>by simp[FW,Fence.wide]at h,?_⟩;have hr':RoundIn (FW r) (0-1) P l fn tmps rE body w (fun e w'=>∃v,e= .returned v∧Q v w'):=hr;refine hr'.mono ?_;rintro e w' ⟨v,rfl,hv⟩;exact OL _ _ ((k v w' hv).run _ (ha.put (by simpa[Nat.blt_eq]using hd) v))
end
def sC (fn:FuncId) (tm:Array Value) (ps:Array Tmp) (rE body:Code) (D:Nat) (st:LoopState) (pe:Option Code):Loop:={state:=st,pending:=pe,fn:=fn,tmps:=tm,params:=ps,assign:=rE,body:=body,defers:=D}
structure Tm (n:Nat) (tm:Array Value) (L:Sl):Prop where
 size:n≤tm.size
 at_:∀t v,lk L t=some v→tm[t]? =some v
def Iv:List Tmp→List Value→Sl→Sl
 |p::ps,v::vs,L=>Iv ps vs ((p,v)::L)
 |_,_,L=>L
theorem Ak {n:Nat}:∀(ps:List Tmp) (vs:List Value) (tm:Array Value) (L:Sl),Tm n tm L→(∀p∈ps,p<n)→iM n {tmps:=(ps.zip vs).foldl (fun tmps (t,a)=>tmps.setIfInBounds t a) tm,defers:=[]} (Iv ps vs L) []
 |[],vs,tm,L,h,_=>⟨by simpa using h.size,rfl,by simpa[Iv]using h.at_⟩
 |p::ps,[],tm,L,h,_=>⟨by simpa using h.size,rfl,by simpa[Iv]using h.at_⟩
 |p::ps,v::vs,tm,L,h,hp=>by
  have h0:iM n {tmps:=tm,defers:=[]} L []:=⟨h.size,rfl,h.at_⟩;have h1:=h0.put (hp p (List.mem_cons_self ..)) v;exact Ak ps vs (tm.setIfInBounds p v) ((p,v)::L) ⟨by simpa using h.size,h1.at_⟩ (fun q hq=>hp q (List.mem_cons_of_mem _ hq))
def Ti (l:Nat) (rec:LoopState→Option Code→Loop) (Q:Value→World→Prop):Kt
 |.normal,_,_,w=>w.heap[l]? =some (.loop (rec .busy none))∧Q (.bool true) (w.putObj l (.loop (rec .ready none)))
 |.ret,_,_,w=>w.heap[l]? =some (.loop (rec .busy none))∧Q (.bool false) (w.putObj l (.loop (rec .done (some .ret))))
 |.exit id,_,_,w=>w.heap[l]? =some (.loop (rec .busy none))∧Q (.bool false) (w.putObj l (.loop (rec .done (some (.exit id)))))
 |.goto id,_,_,w=>w.heap[l]? =some (.loop (rec .busy none))∧Q (.bool false) (w.putObj l (.loop (rec .done (some (.goto id)))))
 |_,_,_,_=>False
@[reducible] def Xm (P:Program) (l n:Nat) (rec:LoopState→Option Code→Loop) (body:Code) (Q:Value→World→Prop):Kt:=fun e L ds w=>
 e= .normal∧w.heap[l]? =some (.loop (rec .ready none))∧T P (some l) n body L ds (w.putObj l (.loop (rec .busy none))) (Ti l rec Q)
theorem Kz {P:Program} {n l D:Nat} {fn:FuncId} {tm:Array Value} {ps:List Tmp} {rE body:Code} {vs:List Value} {L:Sl} {w:World} {Q:Value→World→Prop}
  (hl:w.heap[l]? =some (.loop (sC fn tm ps.toArray rE body D .ready none))) (Hi:Tm n tm L) (hlen:vs.length=ps.length) (jT:∀p∈ps,p<n)
  (h:T P (some l) n rE (Iv ps vs L) [] w (Xm P l n (sC fn tm ps.toArray rE body D) body Q)):vW P l vs.toArray w Q:=by
 have hy:=run_yield (P:=P) (args:=vs.toArray) hl (by simp[sC,hlen]);refine⟨_,_,_,_,hy,roundIn_of_wpIn trivial ?_⟩
 have hz:((sC fn tm ps.toArray rE body D .ready none).params.zip vs.toArray).foldl (fun tmps (t,a)=>tmps.setIfInBounds t a) (sC fn tm ps.toArray rE body D .ready none).tmps=(ps.zip vs).foldl (fun tmps (t,a)=>tmps.setIfInBounds t a) tm:=by
  simp[sC,←Array.foldl_toList]
 rw[hz];refine wpIn_mono (h.run _ (Ak ps vs tm L Hi jT)) ?_;rintro e a w1 ⟨L1,ds1,ha1,rfl,O0,hb⟩;refine⟨_,run_beginRound O0 rfl,wpIn_mono (hb.run a ha1) ?_⟩;rintro e a2 w2 ⟨L2,ds2,ha2,hK⟩
 cases e with
 |normal=>exact⟨_,_,run_endRound none hK.1,_,rfl,hK.2⟩
 |ret=>exact⟨_,_,run_endRound (some .ret) hK.1,_,rfl,hK.2⟩
 |exit id=>exact⟨_,_,run_endRound (some (.exit id)) hK.1,_,rfl,hK.2⟩
 |goto id=>exact⟨_,_,run_endRound (some (.goto id)) hK.1,_,rfl,hK.2⟩
 |panic c=>exact hK.elim
 |outgrown=>exact hK.elim
def Q6 (n D:Nat) (ps:Array Tmp) (rE body:Code) (L:Sl) (rec:LoopState→Option Code→Loop):Prop:=∃fn tm,Tm n tm L∧rec=sC fn tm ps rE body D
theorem nT {P:Program} {n l D:Nat} {ps:List Tmp} {rE body:Code} {vs:List Value} {L:Sl} {w:World} {Q:Value→World→Prop} {rec:LoopState→Option Code→Loop} (pS:Q6 n D ps.toArray rE body L rec)
  (hl:w.heap[l]? =some (.loop (rec .ready none))) (hlen:vs.length=ps.length) (jT:∀p∈ps,p<n)
  (h:T P (some l) n rE (Iv ps vs L) [] w (Xm P l n rec body Q)):vW P l vs.toArray w Q:=by
 obtain⟨fn,tm,Hi,rfl⟩:=pS;exact Kz hl Hi hlen jT h
def mark (D:Nat):Deferred:={target:= .collected D,args:= #[]}
theorem T.Tj {P:Program} {n:Nat} {L:Sl} {ds:List Deferred} {w:World} {K:Kt} {g:Operand} {ps:Array Tmp} {rE body:Code} {gf:FuncId} {lb:Array Value} (hg:ev L g=some (.func (.func gf) #[] lb)) (he:Enters P gf)
  (h:∀fn tm,Tm n tm L→Spec P gf (#[.func (.yield (w.heap.size+1)) #[] #[]]++lb)
   ((w.alloc (.deferred (some []))).alloc (.loop (sC fn tm ps rE body w.heap.size .ready none))) (fun _ w3=>
    (w3.heap[w.heap.size+1]? =some (.loop (sC fn tm ps rE body w.heap.size .ready none))∧K .normal L (mark w.heap.size::ds) (w3.putObj (w.heap.size+1) (.loop (sC fn tm ps rE body w.heap.size .exhausted none))))∨
    ∃c,w3.heap[w.heap.size+1]? =some (.loop (sC fn tm ps rE body w.heap.size .done (some c)))∧T P none n c L (mark w.heap.size::ds) (w3.putObj (w.heap.size+1) (.loop (sC fn tm ps rE body w.heap.size .exhausted (some c)))) K)):
  T P none n (.rangeFunc g ps rE body) L ds w K:=by
 refine⟨fun a ha=>wpIn_rangeFunc fun fn hfn=>?_⟩;have hs:=h fn a.tmps ⟨ha.size,ha.at_⟩;have rh:iM n {a with defers:=[mark w.heap.size]++a.defers} L (mark w.heap.size::ds):=⟨ha.size,by simp[ha.defers],ha.at_⟩
 let W1:World:=(w.alloc (.deferred (some []))).alloc (.loop (sC fn a.tmps ps rE body w.heap.size .ready none))
 refine⟨w.heap.size+1,[mark w.heap.size],W1,{target:= .fn (.func gf) lb,args:= #[.func (.yield (w.heap.size+1)) #[] #[]]},W1,gf,#[.func (.yield (w.heap.size+1)) #[] #[]]++lb,W1,run_enterLoop_outer _ _ _ _ _,?_,?_,?_,?_,?_⟩
 ·simp only[resolve,ha.eval hg];simp[go_sem]
 ·exact fun _ _=>trivial
 ·simpa[invoke,go_sem]using he (#[.func (.yield (w.heap.size+1)) #[] #[]]++lb) _
 ·exact fun h=>by simp[FW,Fence.wide]at h
 ·refine (callsIn_wide.2 hs).mono ?_;rintro e w3 ⟨v,rfl,⟨hl,hk⟩|⟨c,hl,hk⟩⟩
  ·exact⟨none,_,run_endLoop hl (by simp[sC]),_,_,rh,hk⟩
  ·exact⟨some c,_,run_endLoop hl (by simp[sC]),hk.run _ rh⟩
theorem T.range {P:Program} {n:Nat} {L:Sl} {ds:List Deferred} {w:World} {K:Kt} {g:Operand} {ps:Array Tmp} {rE body:Code} {gf:FuncId} {lb:Array Value} (hg:ev L g=some (.func (.func gf) #[] lb)) (he:Enters P gf)
  (h:∀rec,Q6 n w.heap.size ps rE body L rec→Spec P gf (#[.func (.yield (w.heap.size+1)) #[] #[]]++lb)
   ((w.alloc (.deferred (some []))).alloc (.loop (rec .ready none))) (fun _ w3=>
    (w3.heap[w.heap.size+1]? =some (.loop (rec .ready none))∧K .normal L (mark w.heap.size::ds) (w3.putObj (w.heap.size+1) (.loop (rec .exhausted none))))∨
    ∃c,w3.heap[w.heap.size+1]? =some (.loop (rec .done (some c)))∧T P none n c L (mark w.heap.size::ds) (w3.putObj (w.heap.size+1) (.loop (rec .exhausted (some c)))) K)):
  T P none n (.rangeFunc g ps rE body) L ds w K:= .Tj hg he fun fn tm Hi=>h _ ⟨fn,tm,Hi,rfl⟩
def Marks (P:Program):List Deferred→World→World→Prop
 |[],w,w'=>w'=w
 |d::ds,w,w'=>∃r w1,d.target= .collected r∧(Instr.takeDeferred r).run P w= .ok [] w1∧Marks P ds w1 w'
def Hj (P:Program) (fn:Func) (Q:Value→World→Prop):Kt
 |.normal,L,ds,w| .ret,L,ds,w=>∃w',Marks P ds w w'∧∀a:Act,(∀t v,lk L t=some v→a.tmps[t]? =some v)→∃v,(results fn a.tmps).run P w'= .ok v w'∧Q v w'
 |_,_,_,_=>False
theorem tA {P:Program} {fn:Func} {tmps:Array Value} {R:Ending→World→Prop} {w':World}:∀(ds:List Deferred) (w:World),Marks P ds w w'→(∃v,(results fn tmps).run P w'= .ok v w'∧R (.returned v) w')→LeavesInM (FW none) 0 P fn tmps R ds .returning w
 |[],w,h,hr=>by cases h;exact hr
 |d::ds,w,⟨r,w1,h1,h2,h3⟩,hr=>⟨by simp,.inl ⟨r,w1,h1,h2,tA ds w1 h3 hr⟩⟩
theorem qn {P:Program} {f:FuncId} {fn:Func} {c:Code} {args:List Value} {w:World} {Q:Value→World→Prop} (hf:P.funcs[f]? =some fn) (hb:fn.body=some c) {n:Nat} (hn:fn.ntmps=n)
  (h:T P none n c (uJ 0 args) [] w (Hj P fn Q)):Spec P f args.toArray w Q:=by
 refine(callsIn_wide (n:=0)).1 (callsIn_of_wp_marks (F:=FW none) hf hb trivial ?_);refine wpIn_mono (h.run _ ⟨?_,rfl,?_⟩) ?_
 ·simp[hn];omega
 ·intro t v ht;obtain⟨_,h2⟩:=zZ args 0 t v ht;simp only[Nat.sub_zero]at h2;have dV:t<args.length:=(List.getElem?_eq_some_iff.1 h2).1;simp only;rw[Array.getElem?_append_left (by simpa using dV)];simpa using h2
 ·rintro e a w' ⟨L,ds,ha,hK⟩
  have go:(∃wV,Marks P ds w' wV∧∀a:Act,(∀t v,lk L t=some v→a.tmps[t]? =some v)→∃v,(results fn a.tmps).run P wV= .ok v wV∧Q v wV)→LeavesInM (FW none) 0 P fn a.tmps (fun e w'=>∃v,e= .returned v∧Q v w') a.defers .returning w':=by
   rintro⟨wV,h1,h2⟩;obtain⟨v,h3,h4⟩:=h2 a ha.at_;rw[ha.defers];exact tA ds w' h1 ⟨v,h3,v,rfl,h4⟩
  cases e with
  |normal=>exact go hK
  |ret=>exact go hK
  |exit id=>exact hK.elim
  |goto id=>exact hK.elim
  |panic c=>exact hK.elim
  |outgrown=>exact hK.elim
theorem Al {P:Program} {D:Nat} {w:World} (h:w.heap[D]? =some (.deferred (some []))):Marks P [mark D] w (w.putObj D (.deferred none)):=⟨D,_,rfl,run_takeDeferred h,rfl⟩
section
variable {P:Program} {fn:Func} {L:Sl} {w:World} {Q:Value→World→Prop}
theorem fU (hr:fn.results= #[]) (h:Q (.tuple #[]) w):wR P fn Q .normal L [] w:=⟨rfl,fun a ha=>⟨_,by simp[results,hr],h⟩⟩
theorem Bf {t D:Nat} {v:Value} (hr:fn.results= #[.tmp t]) (hv:lk L t=some v) (hD:w.heap[D]? =some (.deferred (some []))) (h:Q v (w.putObj D (.deferred none))):
  Hj P fn Q .ret L [mark D] w:=⟨_,Al hD,fun a ha=>⟨v,by simp[results,hr,ha t v hv],h⟩⟩
theorem Tk {t u D:Nat} {x y:Value} (hr:fn.results= #[.tmp t,.tmp u]) (hx:lk L t=some x) (hy:lk L u=some y) (hD:w.heap[D]? =some (.deferred (some []))) (h:Q (.tuple #[x,y]) (w.putObj D (.deferred none))):
  Hj P fn Q .ret L [mark D] w:=⟨_,Al hD,fun a ha=>⟨_,by simp[results,hr,ha _ _ hx,ha _ _ hy],h⟩⟩
theorem O1 {t u:Nat} {x y:Value} (hr:fn.results= #[.tmp t,.tmp u]) (hx:lk L t=some x) (hy:lk L u=some y) (h:Q (.tuple #[x,y]) w):
  Hj P fn Q .ret L [] w:=⟨w,rfl,fun a ha=>⟨_,by simp[results,hr,ha _ _ hx,ha _ _ hy],h⟩⟩
end
theorem eC {M:aD} {w:World} {b:Nat} {o:Obj} (hM:M b):Step M w M (w.putObj b o) (fun k=>k=b):=
 ⟨fun h k hk=>by simpa[World.putObj]using h k hk,rfl,rfl,rfl,by simp[World.putObj],fun _ _=>Iff.rfl,fun k _ hn=>World.putObj_heap_other (fun e=>hn e),fun k hk=>by subst hk;exact hM⟩
end Go.K
namespace Go.K
section
variable {P:Program} {r:Option Nat} {n:Nat} {L:Sl} {ds:List Deferred} {w:World} {K:Kt} {ops:Array Oper} {rest:List Oper} {d:Nat} {ty:TypeId} {pos:String} {af:Array Edge} {x y:Operand} {α:Type} {A:RT α}
theorem cQ.ij {M:aD} {v:Value} {a:α} (h:cQ A M w v a):∃p,v= .pointer (some p):=by
 obtain⟨b,o,vs,h1,_⟩:=h;exact⟨_,h1⟩
theorem Rg.nilCheck {v:Value} (hx:ev L x=some v) (hv:∃p,v= .pointer (some p)) (hd:Nat.blt d n=true) (k:Rg P r n ops rest ((d,v)::L) ds w K):
  Rg P r n ops ({dst:=some d,op:= .nilCheck x,type:=ty,pos,after:=af,guard:=none}::rest) L ds w K:=by
 obtain⟨p,rfl⟩:=hv;exact .op (fun _ h=>by cases h) rfl rfl hd _ w (fun ρ h=>by simp only[execOp,h x _ hx];simp) k
theorem Rg.cB {s:TypeId} {fs:Array Field} {fd:Field} {j size o o' b:Nat} {zv:Value} {bytes:Nat} (hu:P.underlying s=some (.struct fs)) (QV:fs[j]? =some fd) (ho:o+fd.offset=o') (hi:TI P fd.type zv size bytes) (hs:size≠0)
  (hx:ev L x=some (.pointer (some ⟨b,o,none⟩))) (hd:Nat.blt d n=true) (k:Rg P r n ops rest ((d,.pointer (some ⟨b,o',none⟩))::L) ds w K):
  Rg P r n ops ({dst:=some d,op:= .fieldAddr s x j,type:=ty,pos,after:=af,guard:=none}::rest) L ds w K:=
 .op (fun _ h=>by cases h) rfl rfl hd _ w (fun ρ h=>by
  simp only[execOp,h x _ hx];simp[Instr.fieldAt,run_underlying hu,QV,Instr.sureAddr,fieldPlace,hi.sizeOf,hs,←ho,Addr.add_mid]) k
theorem Rg.gA {t:TypeId} {fs:TypeDesc} {zv:Value} {bytes size b:Nat} {vs:List Value} {e:TypeId} {fr:Nat×Nat} (hu:P.underlying t=some fs) (hf:fs.isRow=true) (hi:TI P t zv size bytes) (hl:vs.length=size)
  (hx:ev L x=some (.pointer (some ⟨b,0,none⟩))) (hd:Nat.blt d n=true) (hb:w.heap[b]? =some (.cells vs.toArray e fr)) (k:Rg P r n ops rest ((d,.agg vs.toArray)::L) ds w K):
  Rg P r n ops ({dst:=some d,op:= .load t x,type:=ty,pos,after:=af,guard:=none}::rest) L ds w K:=by
 refine .op (fun _ h=>by cases h) rfl rfl hd (.agg vs.toArray) w (fun ρ h=>?_) k;simp only[execOp,h x _ hx];obtain⟨i,zm,_,Ac,_⟩:=hi.get;have hr:w.rangeAt b 0 vs:=fun j v hj=>fM hb (by simpa using hj)
 have:=run_loadAt_mid (P:=P) w b 0 t vs fs hr hu hf (by simp[zm,Ac,hl]);simp[this]
theorem mX:∀(vs:List Value) (w:World) (b o:Nat) (cs:Array Value) (e:TypeId) (fr:Nat×Nat),w.heap[b]? =some (.cells cs e fr)→
  ∃EU:Array Value,(w.setCells b o vs).heap[b]? =some (.cells EU e fr)∧EU.size=cs.size∧(∀j,EU[j]? =if o≤j∧j<o+vs.length∧j<cs.size then vs[j-o]? else cs[j]?)∧∀M:aD,M b→Step M w M (w.setCells b o vs) (fun k=>k=b)
 |[],w,b,o,cs,e,fr,h=>⟨cs,by simpa[World.setCells]using h,rfl,fun j=>by rw[if_neg (by simp;omega)],fun M hM=>(Step.refl M w).cH (fun _ h=>h.elim) (fun k hk=>by subst hk;exact hM)⟩
 |v::vs,w,b,o,cs,e,fr,h=>by
  have h1:=xB (o:=o) (v:=v) h;obtain⟨EU,h2,h3,h4,h5⟩:=mX vs (w.setCell ⟨b,o,none⟩ v) b (o+1) _ e fr h1;refine⟨EU,h2,by rw[h3];simp,fun j=>?_,fun M hM=>(tu M hM).trans (h5 M hM) fun _ _ h=>h⟩;rw[h4 j,Array.getElem?_setIfInBounds];simp only[Array.size_setIfInBounds,List.length_cons];by_cases hj:o=j
  ·subst hj;rw[if_neg (by omega),if_pos rfl];by_cases dV:o<cs.size
   ·rw[if_pos dV,if_pos ⟨Nat.le_refl _,by omega,dV⟩];simp
   ·rw[if_neg dV,if_neg (by omega),Array.getElem?_eq_none (by omega)]
  ·rw[if_neg hj];by_cases h6:o+1≤j∧j<o+1+vs.length∧j<cs.size
   ·rw[if_pos h6,if_pos (by omega),show j-o=(j-(o+1))+1 from by omega];simp
   ·rw[if_neg h6,if_neg (by omega)]
theorem Rg.eo {t:TypeId} {zv:Value} {bytes size b:Nat} {cs:Array Value} {vs:List Value} {e:TypeId} {M:aD} (hi:TI P t zv size bytes) (hl:vs.length=size) (hcs:cs.size=size) (h1:∀u∈vs,u.oneCell'=true)
  (hx:ev L x=some (.pointer (some ⟨b,0,none⟩))) (hy:ev L y=some (.agg vs.toArray)) (hb:w.heap[b]? =some (.cells cs e (0,0))) (hm:M b)
  (k:∀w',w'.heap[b]? =some (.cells vs.toArray e (0,0))→Step M w M w' (fun k=>k=b)→Rg P r n ops rest L ds w' K):
  Rg P r n ops ({dst:=none,op:= .store t x y,type:=ty,pos,after:=af,guard:=none}::rest) L ds w K:=by
 obtain⟨EU,h2,h3,h4,h5⟩:=mX vs w b 0 cs e (0,0) hb
 have acJ:EU=vs.toArray:=Array.ext_getElem? fun j=>by
  rw[h4 j];by_cases hj:j<cs.size
  ·rw[if_pos (by omega)];simp
  ·rw[if_neg (by omega),Array.getElem?_eq_none (by omega)];simp;omega
 subst acJ;refine .QU (fun _ h=>by cases h) rfl rfl (w.setCells b 0 vs) (fun ρ hρ=>?_) (k _ h2 (h5 M hm));simp only[execOp,hρ x _ hx,hρ y _ hy];obtain⟨i,zm,_,Ac,_⟩:=hi.get
 have:=run_storeAt_mid (P:=P) w b 0 t vs.toArray (fun j hj=>by
  have Q7:j<cs.size:=by simp at hj;omega
  exact⟨by rw[fM hb (v:=cs[j]) (by simp[Q7])];rfl,by simp[World.frozen?,hb]⟩) (by simp[zm,Ac,hl]) (by simpa[Array.all_eq_true_iff_forall_mem]using h1)
 simp[this]
theorem Rg.lB {t e:TypeId} {zv v:Value} {bytes:Nat} {M M1:aD} {w1:World} {a:α} {ty2:TypeId} {acK:String} {af2:Array Edge} (hi:TI P e zv A.n bytes) (hz:zv.cells.size=A.n) (hg:A.agg=true) (hd:Nat.blt d n=true) (Iw:t=e) (hdy:ev ((d,.pointer (some ⟨w.heap.size,0,none⟩))::L) y=some v)
  (hv:A.V M1 w1 a v) (hle:Le M1 w1 M w) (hm:Lt M w) (k:∀u w',cQ A M w' u a→Step M w M w' aC→w.heap.size<w'.heap.size→Rg P r n ops rest ((d,u)::L) ds w' K):
  Rg P r n ops ({dst:=some d,op:= .alloc e,type:=ty,pos,after:=af,guard:=none}::{dst:=none,op:= .store t (.tmp d) y,type:=ty2,pos:=acK,after:=af2,guard:=none}::rest) L ds w K:=by
 subst Iw;obtain⟨vs,h1,rfl⟩:=hv.le hle;have hdd:lk ((d,.pointer (some ⟨w.heap.size,0,none⟩))::L) d=some (.pointer (some ⟨w.heap.size,0,none⟩)):=by simp[lk,Nat.beq_refl]
 obtain⟨i,i1,i2,i3,i4⟩:=hi.get;refine .op (fun _ h=>by cases h) rfl rfl hd (.pointer (some ⟨w.heap.size,0,none⟩)) (w.alloc (.cells zv.cells t)) (fun ρ hρ=>?_) ?_
 ·simp only[execOp];simp[Instr.alloc,zeroValue,typeInfo,i1,i2,newVar,newRow,newObj,Sem.run]
 ·have s1:=(dm M w (.cells zv.cells t)).own (Nat.le_refl _) (by simp);refine .eo (M:=ins M w.heap.size) hi (A.len h1) hz (A.one h1) hdd (by simpa[RT.val,hg]using hdy) (cr w _) (.inl rfl) (fun w' h2 s2=>?_);have E4:=s2.size;have kF:Step M w M w' aC:=⟨fun h b hb=>Nat.lt_of_lt_of_le (h b hb) (Nat.le_trans s1.size E4),s2.os.trans s1.os,s2.tape.trans s1.tape,s2.output.trans s1.output,Nat.le_trans s1.size E4,fun _ _=>Iff.rfl,fun k hk _=>(s2.same k (Nat.lt_of_lt_of_le hk s1.size) (fun e=>by subst e;omega)).trans (s1.same k hk fun h=>h.elim),fun _ h=>h.elim⟩;refine k _ w' ⟨w.heap.size,0,vs,rfl,fun h=>by have:=hm _ h;omega,A.le kF.le h1,fun j u hj=>fM h2 (by simpa using hj)⟩ kF (by simp at E4;omega)
def Fg (place:Nat→Option (Nat×Nat)):List Value→List (Nat×Value)→List Value→Prop
 |zs,[],out=>out=zs
 |zs,(i,v)::rest,out=>∃off vs,place i=some (off,vs.length)∧v.cells=vs.toArray∧off+vs.length≤zs.length∧Fg place (zs.take off++vs++zs.drop (off+vs.length)) rest out
theorem vX {place:Nat→Option (Nat×Nat)}:∀(ps:List (Nat×Value)) (zs out:List Value),Fg place zs ps out→Instr.fill place zs.toArray ps=some out.toArray
 |[],zs,out,h=>by cases h;rfl
 |(i,v)::rest,zs,out,⟨off,vs,h1,h2,h3,h4⟩=>by
  rw[←vX rest _ out h4]
  have key:∀(l:List Value) (k:Nat) (cs:Array Value),off+k+l.length≤cs.size→((l.zipIdx k).foldl (fun(cs:Array Value) (x:Value×Nat)=>cs.setIfInBounds (off+x.2) x.1) cs).size=cs.size∧
    ∀j:Nat,((l.zipIdx k).foldl (fun(cs:Array Value) (x:Value×Nat)=>cs.setIfInBounds (off+x.2) x.1) cs)[j]? =if off+k≤j∧j<off+k+l.length then l[j-(off+k)]? else cs[j]? :=by
   intro l
   induction l with
   |nil=>
    intro k cs hk;refine⟨rfl,fun j=>?_⟩;simp;intro h1 h2;omega
   |cons a l ih=>
    intro k cs hk;simp only[List.zipIdx_cons,List.foldl_cons];simp only[List.length_cons]at hk;obtain⟨h1,h2⟩:=ih (k+1) (cs.setIfInBounds (off+k) a) (by simp;omega);refine⟨by rw[h1];simp,fun j=>?_⟩;rw[h2 j,Array.getElem?_setIfInBounds,List.length_cons];by_cases h3:off+(k+1)≤j∧j<off+(k+1)+l.length
    ·rw[if_pos h3,if_pos (by omega),show j-(off+k)=(j-(off+(k+1)))+1 from by omega];simp
    ·rw[if_neg h3];by_cases h4:off+k=j
     ·subst h4;rw[if_pos rfl,if_pos (by omega),if_pos (by omega)];simp
     ·rw[if_neg h4,if_neg (by omega)]
  obtain⟨k1,k2⟩:=key vs 0 zs.toArray (by simpa using h3)
  conv=>lhs;rw[Instr.fill]
  simp only[h1,h2];simp[show¬(zs.length<off+vs.length) by omega];congr 1;refine Array.ext_getElem? fun j=>?_
  rw[k2 j,Nat.add_zero,List.getElem?_toArray,List.getElem?_toArray];by_cases hj:j<off
  ·rw[if_neg (by omega),List.getElem?_append_left (by simp;omega),List.getElem?_take,if_pos hj]
  ·have ht:(zs.take off).length=off:=by simp;omega
   rw[List.getElem?_append_right (by omega),ht];by_cases rG:j<off+vs.length
   ·rw[if_pos (by omega),List.getElem?_append_left (by omega)]
   ·rw[if_neg (by omega),List.getElem?_append_right (by omega),List.getElem?_drop];congr 1;omega
def placesOf (P:Program) (t:TypeId):List (Option (Nat×Nat)):=match P.underlying t with
 |some (.struct fs)=>fs.toList.map fun f=>(P.info? f.type).map fun i=>(f.offset,i.size)
 |_=>[]
def CK (L:Sl):List (Nat×Operand)→List (Nat×Value)→Prop
 |[],vs=>vs=[]
 |p::ps,vs=>∃v r,vs=(p.1,v)::r∧ev L p.2=some v∧CK L ps r
theorem CK.use {ρ:Operand→Value} (h:∀x v,ev L x=some v→ρ x=v):∀{ps:List (Nat×Operand)} {vs:List (Nat×Value)},CK L ps vs→ps.map (fun p=>(p.1,ρ p.2))=vs
 |[],_,hp=>by cases hp;rfl
 |p::ps,_,⟨v,r,h1,h2,h3⟩=>by rw[List.map_cons,h p.2 v h2,CK.use h h3,h1]
theorem Rg.build {t:TypeId} {fs:Array Field} {zv:Value} {bytes size:Nat} {ps:List (Nat×Operand)} {gO:List (Nat×Value)} {out:List Value} {places:List (Nat×Nat)} (hu:P.underlying t=some (.struct fs)) (hi:TI P t zv size bytes)
  (Tl:placesOf P t=places.map some) (hd:Nat.blt d n=true)
  (jS:CK L ps gO) (hf:Fg (fun i=>places[i]?) zv.cells.toList gO out) (k:Rg P r n ops rest ((d,.agg out.toArray)::L) ds w K):
  Rg P r n ops ({dst:=some d,op:= .build t ps.toArray,type:=ty,pos,after:=af,guard:=none}::rest) L ds w K:=by
 have rH:fs.toList.map (fun f=>(P.info? f.type).map fun i=>(f.offset,i.size))=places.map some:=by
  unfold placesOf at Tl;rw[hu]at Tl;exact Tl
 obtain⟨i,i1,i2,i3,i4⟩:=hi.get;refine .op (fun _ h=>by cases h) rfl rfl hd (.agg out.toArray) w (fun ρ hρ=>?_) k;have hm:(Array.map (fun(i,x)=>(i,ρ x)) ps.toArray).toList=gO:=by rw[Array.toList_map];exact jS.use hρ
 have hp:∀(l:List Field) (acc:List (Nat×Nat)),l.map (fun f=>(P.info? f.type).map fun i=>(f.offset,i.size))=acc.map some→(l.mapM (fun f=>do let s ←Go.sizeOf f.type;pure (f.offset,s):Field→Sem (Nat×Nat))).run P w= .ok acc w:=by
  intro l
  induction l with
  |nil=>intro acc h;cases acc with
   |nil=>rfl
   |cons a acc=>simp at h
  |cons f l ih=>
   intro acc h
   cases acc with
   |nil=>simp at h
   |cons a acc=>
    simp only[List.map_cons,List.cons.injEq]at h;obtain⟨h1,h2⟩:=h;have:=ih acc h2
    cases hq:P.info? f.type with
    |none=>rw[hq]at h1;simp at h1
    |some i=>
     rw[hq]at h1;simp at h1;subst h1;have hs:(Go.sizeOf f.type).run P w= .ok i.size w:=by simp[Go.sizeOf,typeInfo,program,Sem.run,hq]
     simp only[List.mapM_cons,Sem.run_bind,hs,Result.andThen_ok,Sem.run_pure,this]
 have Hk:(fs.mapM (fun f=>do let s ←Go.sizeOf f.type;pure (f.offset,s):Field→Sem (Nat×Nat))).run P w= .ok places.toArray w:=by
  have h3:fs.mapM (fun f=>do let s ←Go.sizeOf f.type;pure (f.offset,s):Field→Sem (Nat×Nat))=List.toArray <$> fs.toList.mapM (fun f=>do let s ←Go.sizeOf f.type;pure (f.offset,s):Field→Sem (Nat×Nat)):=by
   exact Array.mapM_eq_mapM_toList
  rw[h3];simp only[map_eq_pure_bind,Sem.run_bind,hp _ _ rH,Result.andThen_ok,Sem.run_pure]
 have hf2:=vX gO _ out hf;have hz:(zeroValue t).run P w= .ok zv w:=by simp[zeroValue,typeInfo,program,Sem.run,i1,i2]
 have hf3:Instr.fill (fun x=>places.toArray[x]?) zv.cells gO=some out.toArray:=by simpa using hf2
 simp only[execOp,Instr.build,Sem.run_bind,hz,Result.andThen_ok,run_underlying hu,Hk,hm,hf3,Sem.run_pure]
theorem Rg.Ix {t e:TypeId} {l h m:Operand} {κ κ' κ'':IntKind} {lo hi mx:Int} {hn:0<A.n} {M:aD} {w1:World} {xs:List α} {v zv:Value} {bytes:Nat} (ht:P.underlying t=some (.slice e)) (A6:TI P e zv A.n bytes)
  (hx:ev L x=some v) (hl:ev L l=some (.int κ lo)) (hh:ev L h=some (.int κ' hi)) (hm:ev L m=some (.int κ'' mx)) (hd:Nat.blt d n=true) (hv:(A.sl hn).V M w1 xs v) (hb:0≤lo∧lo≤hi∧hi=mx∧hi≤xs.length)
  (k:∀u,(A.sl hn).V M w1 ((xs.take hi.toNat).drop lo.toNat) u→Rg P r n ops rest ((d,u)::L) ds w K):
  Rg P r n ops ({dst:=some d,op:= .slice t x (some l) (some h) (some m),type:=ty,pos,after:=af,guard:=none}::rest) L ds w K:=by
 obtain⟨a,cap,rfl,hc,hlen,hs⟩:=iB.1 hv;obtain⟨h1,h2,rfl,h3⟩:=hb;have xA:((xs.take hi.toNat).drop lo.toNat).length=hi.toNat-lo.toNat:=by rw[List.length_drop,List.length_take];omega
 refine .op (fun _ h=>by cases h) rfl rfl hd (sliced a lo.toNat hi.toNat hi.toNat A.n) w (fun ρ hρ=>?_) (k _ (iB.2 ⟨_,hi.toNat-lo.toNat,?_,by omega,by omega,hs.slice lo.toNat hi.toNat cap hi.toNat (by omega) (by omega) (by omega)⟩))
 ·simp only[execOp,hρ x _ hx,Option.map_some,hρ l _ hl,hρ h _ hh,hρ m _ hm];rw[Sem.run_bind,run_sliceAt_slice _ _ _ _ _ _ (iV ht),run_slice_lhm _ _ _ _ _ (iV ht) _ _ _ _ _ _ h1 h2 (Int.le_refl _) (by omega),oK ht,A6.sizeOf];simp
 ·rw[xA];rfl
theorem Rg.tB {t t' e:TypeId} {a:Option Addr} {l c:Nat} (ht:P.underlying t=some (.slice e)) (hx:ev L x=some (.slice a l c)) (hy:ev L y=some (.slice none 0 0)) (hd:Nat.blt d n=true)
  (k:Rg P r n ops rest ((d,.bool (decide (a=none)))::L) ds w K):
  Rg P r n ops ({dst:=some d,op:= .binOp .eql t x y t',type:=ty,pos,after:=af,guard:=none}::rest) L ds w K:=
 .op (fun _ h=>by cases h) rfl rfl hd _ w (fun ρ h=>by
  have he:=run_equal_slice_nil (P:=P) w t e a l c ht;simp only[execOp];rw[h x _ hx,h y _ hy]
  cases a<;>simp[eqGuard,binOp,run_underlying ht]<;>simp[he]) k
theorem Rg.CL {t t' e:TypeId} {v:Value} (ht:P.underlying t=some (.pointer e)) (hx:ev L x=some v) (hv:∃p,v= .pointer (some p)) (hy:ev L y=some (.pointer none)) (hd:Nat.blt d n=true)
  (k:Rg P r n ops rest ((d,.bool false)::L) ds w K):
  Rg P r n ops ({dst:=some d,op:= .binOp .eql t x y t',type:=ty,pos,after:=af,guard:=none}::rest) L ds w K:=by
 obtain⟨p,rfl⟩:=hv
 exact .op (fun _ h=>by cases h) rfl rfl hd _ w (fun ρ h=>by
  have hpe:P.underlying t=some (.pointer (P.pointee t)):=by simp[Program.pointee,ht]
  have he:=run_equal_pointer_nil (P:=P) w t (some p) hpe;simp only[execOp];rw[h x _ hx,h y _ hy];simp[eqGuard,binOp,run_underlying ht,he]) k
theorem Rg.sl0 {t e:TypeId} {zv:Value} {bytes size:Nat} (ht:P.underlying t=some (.slice e)) (hi:TI P e zv size bytes) (M:aD) (hd:Nat.blt d n=true)
  (k:∀a w',Step M w M w' aC→Rg P r n ops rest ((d,.slice (some a) 0 0)::L) ds w' K):
  Rg P r n ops ({dst:=some d,op:= .buildSlice t 0 #[],type:=ty,pos,after:=af,guard:=none}::rest) L ds w K:=by
 refine .op (fun _ h=>by cases h) rfl rfl hd (.slice (some ⟨w.heap.size,0,none⟩) 0 0) (w.alloc (.cells #[] e)) (fun ρ hρ=>?_) (k _ _ (dm M w _));simp only[execOp,Instr.buildSlice,Sem.run_bind,run_underlying ht,Result.andThen_ok,hi.sizeOf];simp[newRow,newObj,Sem.run,Instr.fill];have h0:Array.range 0= #[]:=by apply Array.ext<;>simp
 simp[h0]
theorem KA {fn:Func} {Q:Value→World→Prop} {c t u s b:Nat} {vs:List Value} {fs:TypeDesc} {e:TypeId} {fr:Nat×Nat} {y z zv:Value} {size bytes:Nat} (hr:fn.results= #[.cell c t,.tmp u,.tmp s]) (hc:lk L c=some (.pointer (some ⟨b,0,none⟩))) (hu:P.underlying t=some fs) (hf:fs.isRow=true) (hi:TI P t zv size bytes) (hl:vs.length=size)
  (hb:w.heap[b]? =some (.cells vs.toArray e fr)) (hy:lk L u=some y) (hz:lk L s=some z) (h:Q (.tuple #[.agg vs.toArray,y,z]) w):wR P fn Q .ret L [] w:=
 ⟨rfl,fun a ha=>⟨_,by
  obtain⟨i,zm,_,Ac,_⟩:=hi.get;have Tn:w.rangeAt b 0 vs:=fun j v hj=>fM hb (by simpa using hj)
  have:=run_loadVar_mid (P:=P) w b 0 t vs fs Tn hu hf (by simp[zm,Ac,hl]);simp[results,hr,ha _ _ hc,ha _ _ hy,ha _ _ hz,asAddr,this,Sem.run_bind],h⟩⟩
theorem Rg.qN {t e:TypeId} {zv:Value} {bytes:Nat} {hn:0<A.n} {M M2:aD} {w2:World} {a:Option Addr} {u:Value} {ys:List α} (ht:P.underlying t=some (.slice e)) (hi:TI P e zv A.n bytes) (hz:zv.cells.size=A.n)
  (hx:ev L x=some (.slice a 0 0)) (hy:ev L y=some u) (hd:Nat.blt d n=true) (hu:(A.sl hn).V M2 w2 ys u) (hle:Le M2 w2 M w) (hm:Lt M w) (hb:ys.length*bytes≤140737488355328)
  (k:∀v' w',(A.sl hn).V M w' ys v'→Step M w M w' aC→Rg P r n ops rest ((d,v')::L) ds w' K):
  Rg P r n ops ({dst:=some d,op:= .call {callee:= .builtin .append,args:= #[x,y],argTypes:= #[t,t]},type:=ty,pos,after:=af,guard:=none}::rest) L ds w K:=by
 have Fh:=ej hu;by_cases eQ:ys=[]
 ·subst eQ;obtain⟨b,c,rfl,_⟩:=iB.1 hu;refine .op (fun _ h=>by cases h) rfl rfl hd (.slice a 0 0) w (fun ρ hρ=>?_) (k _ w (iB.2 ⟨a,0,rfl,Nat.le_refl _,by simp,.inl rfl⟩) (Step.refl _ _));simp only[execOp,resolve,List.map_toArray,List.map_cons,List.map_nil,hρ x _ hx,hρ y _ hy];have:=pD (P:=P) (w:=w) (ty:=ty) ht hi a 0 0 c b (Nat.le_refl 0);simp only[List.length_nil]at this ⊢;simp[invoke,builtin,this]
 ·have hp:0<ys.length:=List.length_pos_iff.2 eQ;refine .xE (xs:=[]) (a:=a) ht hi hz hx hy hd (iB.2 ⟨a,0,rfl,Nat.le_refl _,by simp,.inl rfl⟩) (fun _=>rfl) hu hle hp (by simpa using Fh) (by simpa using hb) fun v' M' w' ho s=> ?_
  rw[List.nil_append]at ho;exact k v' w' (Own.close hm s ho Fh) s.back
theorem pI {M:aD} {a:α} {v:Value} (h:A.V M w a v) (hg:A.agg=false) (h1:A.n=1):v.oneCell'=true:=by
 obtain⟨vs,hR,rfl⟩:=h;have hl:=A.len hR
 match vs,hl with
 |[u],_=>simpa[RT.val,hg]using A.one hR u (by simp)
 |[],hl=>simp at hl;omega
 |_::_::_,hl=>simp at hl;omega
theorem mg {M:aD} {a:α} {v:Value} (h:A.V M w a v) (hg:A.agg=false) (h1:A.n=1):A.R M w a [v]:=by
 obtain⟨vs,hR,rfl⟩:=h;have hl:=A.len hR
 match vs,hl,hR with
 |[u],_,hR=>simpa[RT.val,hg]using hR
 |[],hl,_=>simp at hl;omega
 |_::_::_,hl,_=>simp at hl;omega
theorem fe {β:Type} {B:RT β} {M:aD} {a:α} {b:β} {u v:Value} (h:A.V M w a u) (h':B.V M w b v) (hg:A.agg=false) (h1:A.n=1) (Xn:B.agg=false) (Ww:B.n=1):(A.pair B).V M w (a,b) (.agg [u,v].toArray):=
 ⟨[u,v],⟨[u],[v],rfl,mg h hg h1,mg h' Xn Ww⟩,rfl⟩
theorem KB {x:Int}: -9223372036854775808≤IntKind.i64.wrap x∧IntKind.i64.wrap x≤9223372036854775807:=by
 rw[IntKind.wrap_i64];omega
end
end Go.K
namespace Go.K
section
variable {P:Program} {r:Option Nat} {n:Nat} {L:Sl} {ds:List Deferred} {w:World} {K:Kt} {ops:Array Oper} {rest:List Oper} {d:Nat} {x:Operand} {ty:TypeId} {pos:String} {af:Array Edge}
theorem Rg.mq {t e:TypeId} {a:Option Addr} {l c:Nat} (ht:P.underlying t=some (.slice e)) (hx:ev L x=some (.slice a l c)) (hd:Nat.blt d n=true)
  (k:Rg P r n ops rest ((d,.int .i64 (l:Int))::L) ds w K):
  Rg P r n ops ({dst:=some d,op:= .call {callee:= .builtin .len,args:= #[x],argTypes:= #[t]},type:=ty,pos,after:=af,guard:=none}::rest) L ds w K:=by
 refine .op (fun _ h=>by cases h) rfl rfl hd _ w (fun ρ h=>?_) k;simp only[execOp,resolve,List.map_toArray,List.map_cons,List.map_nil,h x _ hx];simp[invoke,builtin,Builtin.len_,run_underlying ht,goInt]
end
end Go.K

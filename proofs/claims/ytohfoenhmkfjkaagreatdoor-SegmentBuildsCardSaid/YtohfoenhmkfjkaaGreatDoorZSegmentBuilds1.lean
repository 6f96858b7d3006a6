/- What the law 'SegmentBuilds' needs of walks and plain Lean, part 1: nothing is assumed beyond the texts that it imports. -/
import Derived.ArgAppend
import Derived.Below
import Derived.ChangeOld
import Derived.Deep.MidRow
import Derived.IntWalk
import Derived.KernelRfl
import Derived.LaidByTextLater
import Derived.LaidHandle
import Derived.LaidLaws
import Derived.LaidMore
import Derived.Laws.AppendOwn
import Derived.Laws.BytesString
import Derived.Laws.Cover3
import Derived.Laws.NewBlocks
import Derived.Laws.Pointers
import Derived.Laws.Slices
import Derived.Laws.Small
import Derived.MakeChecks
import Derived.OpenShut
import Derived.Orders
import Derived.ProofKit
import Derived.RangeFuncLeaves
import Derived.RangeFuncNested
import Derived.SevenTiedAt
import Derived.ShutString
import Derived.SizedLaws
import Derived.Stop.Joined
import Derived.TacticsIn
import Derived.Test.YtohfoenhmkfjkaaGreatDoorProg
import Derived.WalkKit
set_option linter.unusedVariables false
set_option linter.unusedSimpArgs false
theorem aA {α:Type} {c:α} {P:α→Prop} (h:P c):∀x,x=c→P x:=fun x hx=>hx▸h
namespace Go.K
abbrev Sl:=List (Nat×Value)
def lk:Sl→Nat→Option Value
 |[],_=>none
 |(k,v)::l,t=>bif Nat.beq k t then some v else lk l t
structure gP (n:Nat) (a:Act) (L:Sl) (ds:List Deferred):Prop where
 size:n≤a.tmps.size
 defers:a.defers=ds
 at_:∀t v,lk L t=some v→a.tmps[t]? =some v
def ev (L:Sl):Operand→Option Value
 |.tmp t=>lk L t
 |.const v=>some v
 |.global g=>some (.pointer (some ⟨g,0,none⟩))
 |.func f=>some (.func (.func f) #[] #[])
theorem gP.eval {n a L ds} (h:gP n a L ds) {x:Operand} {v:Value} (hx:ev L x=some v):a.eval x=v:=by
 cases x with
 |tmp t=>simp only[ev]at hx;simp[Act.eval,h.at_ t v hx]
 |const u=>simp only[ev]at hx;cases hx;rfl
 |global g=>simp only[ev]at hx;cases hx;rfl
 |func f=>simp only[ev]at hx;cases hx;rfl
theorem gP.put {n a L ds} (h:gP n a L ds) {d:Nat} (hd:d<n) (v:Value):gP n (a.put (some d) v) ((d,v)::L) ds:=by
 refine⟨?_,h.defers,?_⟩
 ·simp only[Act.put,Array.size_setIfInBounds];exact h.size
 ·intro t u ht;simp only[lk]at ht;have hs:=h.size;by_cases e:d=t
  ·subst e;simp only[Nat.beq_refl,cond_true]at ht
   cases ht;simp only[Act.put];rw[Array.getElem?_setIfInBounds];simp;omega
  ·have e':Nat.beq d t=false:=by
    cases hb:Nat.beq d t with
    |false=>rfl
    |true=>exact absurd (Nat.eq_of_beq_eq_true hb) e
   rw[e']at ht;simp only[cond_false]at ht;simp only[Act.put];rw[Array.getElem?_setIfInBounds,if_neg e];exact h.at_ t u ht
def Sub:Sl→Sl→Prop
 |[],_=>True
 |(t,v)::A,B=>lk B t=some v∧Sub A B
theorem Sub.nil {B:Sl}:Sub [] B:=trivial
theorem Sub.cons {t:Nat} {v:Value} {A B:Sl} (h:lk B t=some v) (h':Sub A B):Sub ((t,v)::A) B:=⟨h,h'⟩
theorem Sub.lk {A B:Sl} (h:Sub A B) {t:Nat} {v:Value} (ht:lk A t=some v):lk B t=some v:=by
 induction A with
 |nil=>simp[K.lk]at ht
 |cons p A ih=>
  obtain⟨k,u⟩:=p;obtain⟨h1,h2⟩:=h;simp only[K.lk]at ht
  cases hb:Nat.beq k t with
  |true=>
   rw[hb]at ht;simp only[cond_true]at ht;cases ht;rw[←Nat.eq_of_beq_eq_true hb];exact h1
  |false=>rw[hb]at ht;exact ih h2 ht
theorem gP.sub {n a A B ds} (h:gP n a B ds) (hs:Sub A B):gP n a A ds:=⟨h.size,h.defers,fun t v ht=>h.at_ t v (hs.lk ht)⟩
abbrev FW (r:Option Nat):Fence:={Fence.wide with round:=r}
abbrev Kt:=Exit→Sl→List Deferred→World→Prop
def up (n:Nat) (K:Kt):Exit→Act→World→Prop:=fun e a w=>∃L ds,gP n a L ds∧K e L ds w
structure T (P:Program) (r:Option Nat) (n:Nat) (c:Code) (L:Sl) (ds:List Deferred) (w:World) (K:Kt):Prop where
 run:∀a,gP n a L ds→c.wpIn (FW r) 0 P (up n K) a w
structure Rg (P:Program) (r:Option Nat) (n:Nat) (ops:Array Oper) (rest:List Oper) (L:Sl) (ds:List Deferred) (w:World) (K:Kt):Prop where
 run:∀a,gP n a L ds→wpListIn (FW r) 0 P ops (up n K) rest a w
@[reducible] def yC (k:Sl→List Deferred→World→Prop) (K:Kt):Kt
 |.normal,L,ds,w=>k L ds w
 |e,L,ds,w=>K e L ds w
@[reducible] def nd (id:Nat) (K:Kt):Kt
 |.exit Xd,L,ds,w=>if Xd=id then K .normal L ds w else K (.exit Xd) L ds w
 |e,L,ds,w=>K e L ds w
section
variable {P:Program} {r:Option Nat} {n:Nat} {L:Sl} {ds:List Deferred} {w:World} {K:Kt}
theorem T.mono {c:Code} {K':Kt} (h:T P r n c L ds w K) (hK:∀e L ds w,K e L ds w→K' e L ds w):T P r n c L ds w K':=
 ⟨fun a ha=>wpIn_mono (h.run a ha) fun _ _ _ ⟨L,ds,h1,h2⟩=>⟨L,ds,h1,hK _ _ _ _ h2⟩⟩
theorem T.weaken {c:Code} (L':Sl) (hs:Sub L' L) (h:T P r n c L' ds w K):T P r n c L ds w K:=⟨fun a ha=>h.run a (ha.sub hs)⟩
theorem T.skip (h:K .normal L ds w):T P r n .skip L ds w K:=⟨fun a ha=>wpIn_skip ⟨L,ds,ha,h⟩⟩
theorem T.exit {id:Nat} (h:K (.exit id) L ds w):T P r n (.exit id) L ds w K:=⟨fun a ha=>wpIn_exit ⟨L,ds,ha,h⟩⟩
theorem T.ret (h:K .ret L ds w):T P r n .ret L ds w K:=⟨fun a ha=>wpIn_ret ⟨L,ds,ha,h⟩⟩
theorem T.seq {x y:Code} (h:T P r n x L ds w (yC (fun L ds w=>T P r n y L ds w K) K)):T P r n (.seq x y) L ds w K:=by
 refine⟨fun a ha=>wpIn_seq (wpIn_mono (h.run a ha) ?_)⟩;rintro e a' w' ⟨L',oC,qh,hK⟩
 cases e with
 |normal=>exact hK.run a' qh
 |exit id=>exact⟨L',oC,qh,hK⟩
 |goto id=>exact⟨L',oC,qh,hK⟩
 |ret=>exact⟨L',oC,qh,hK⟩
 |panic c=>exact⟨L',oC,qh,hK⟩
 |outgrown=>exact⟨L',oC,qh,hK⟩
theorem T.block {id:Nat} {c:Code} (h:T P r n c L ds w (nd id K)):T P r n (.block id c) L ds w K:=by
 refine⟨fun a ha=>wpIn_block (wpIn_mono (h.run a ha) ?_)⟩;rintro e a' w' ⟨L',oC,qh,hK⟩
 cases e with
 |normal=>exact⟨L',oC,qh,hK⟩
 |exit Xd=>
  simp only[Exit.inBlock];simp only[nd]at hK
  split
  ·rename_i e';rw[if_pos e']at hK;exact⟨L',oC,qh,hK⟩
  ·rename_i e';rw[if_neg e']at hK;exact⟨L',oC,qh,hK⟩
 |goto id=>exact⟨L',oC,qh,hK⟩
 |ret=>exact⟨L',oC,qh,hK⟩
 |panic c=>exact⟨L',oC,qh,hK⟩
 |outgrown=>exact⟨L',oC,qh,hK⟩
theorem T.cond {c:Operand} {x y:Code} {b:Bool} (hc:ev L c=some (.bool b)) (ht:b=true→T P r n x L ds w K) (hf:b=false→T P r n y L ds w K):
  T P r n (.cond c x y) L ds w K:=by
 refine⟨fun a ha=>?_⟩;have:=ha.eval hc
 cases b with
 |true=>exact wpIn_cond_true this ((ht rfl).run a ha)
 |false=>exact wpIn_cond_false this ((hf rfl).run a ha)
theorem T.dJ {c:Operand} {x y:Code} {p:Prop} [Decidable p] (hc:ev L c=some (.bool (decide p))) (ht:p→T P r n x L ds w K) (hf: ¬p→T P r n y L ds w K):
  T P r n (.cond c x y) L ds w K:= .cond hc (fun h=>ht (of_decide_eq_true h)) (fun h=>hf (of_decide_eq_false h))
theorem T.pO {c:Operand} {x y:Code} (hc:ev L c=some (.bool true)) (ht:T P r n x L ds w K):T P r n (.cond c x y) L ds w K:= .cond hc (fun _=>ht) (fun h=>by cases h)
theorem T.iff {c:Operand} {x y:Code} (hc:ev L c=some (.bool false)) (hf:T P r n y L ds w K):T P r n (.cond c x y) L ds w K:= .cond hc (fun h=>by cases h) (fun _=>hf)
theorem least {σ:Type} (m:σ→Nat) (p:σ→Prop):(∃s,p s)→∃s,p s∧∀s',p s'→m s≤m s':=by
 have key:∀k s,m s=k→p s→∃s,p s∧∀s',p s'→m s≤m s':=by
  intro k
  induction k using Nat.strongRecOn with
  |_ k ih=>
   intro s hs hp;by_cases h:∃s',p s'∧m s'<k
   ·obtain⟨s',Ni,dW⟩:=h;exact ih (m s') dW s' rfl Ni
   ·exact⟨s,hp,fun s' Ni=>by
     rcases Nat.lt_or_ge (m s') (m s)with h'|h'
     ·exact absurd ⟨s',Ni,hs▸h'⟩ h
     ·exact h'⟩
 rintro⟨s,hp⟩;exact key _ s rfl hp
theorem T.loop {σ:Type} {c:Code} (Lf:σ→Sl) (I:σ→World→Prop) (m:σ→Nat) (s0:σ) (hL:Sub (Lf s0) L) (h0:I s0 w)
  (round:∀s w,I s w→T P r n c (Lf s) ds w (yC (fun L' oC w'=>oC=ds∧∃s',Sub (Lf s') L'∧I s' w'∧m s'<m s) K)):T P r n (.loop c) L ds w K:=by
 classical
 refine⟨fun a ha=>?_⟩
 let J:σ→Act→World→Prop:=fun s a w=>gP n a (Lf s) ds∧I s w
 let μ:Act→World→Nat:=fun a w=>if h:∃s,J s a w then m (Classical.choose (least m (J · a w) h))else 0
 refine wpIn_loop (fun a w=>∃s,J s a w) μ ⟨s0,ha.sub hL,h0⟩ ?_;rintro a w hJ;have hc:=Classical.choose_spec (least m (J · a w) hJ);have hμ:μ a w=m (Classical.choose (least m (J · a w) hJ)):=by simp only[μ];rw[dif_pos hJ]
 rw[hμ];generalize Classical.choose (least m (J · a w) hJ)=s at hc;obtain⟨⟨hs,hi⟩,_⟩:=hc;refine wpIn_mono ((round s w hi).run a hs) ?_;rintro e a' w' ⟨L',oC,qh,hK⟩
 cases e with
 |normal=>
  obtain⟨rfl,s',JM,gy,dW⟩:=hK;have Ra:∃s,J s a' w':=⟨s',qh.sub JM,gy⟩;refine⟨Ra,?_⟩;have h2:=(Classical.choose_spec (least m (J · a' w') Ra)).2 s' ⟨qh.sub JM,gy⟩;simp only[μ];rw[dif_pos Ra];omega
 |exit id=>exact⟨L',oC,qh,hK⟩
 |goto id=>exact⟨L',oC,qh,hK⟩
 |ret=>exact⟨L',oC,qh,hK⟩
 |panic c=>exact⟨L',oC,qh,hK⟩
 |outgrown=>exact⟨L',oC,qh,hK⟩
theorem T.region {id:Nat} {l:List Oper} (h:Rg P r n l.toArray l L ds w K):T P r n (.region id l.toArray false) L ds w K:=
 ⟨fun a ha=>wpIn_region_lit (h.run a ha)⟩
variable {ops:Array Oper} {rest:List Oper} {o:Oper}
theorem Rg.nil (h:K .normal L ds w):Rg P r n ops [] L ds w K:=⟨fun _ ha=>wpListIn_nil ⟨L,ds,ha,h⟩⟩
theorem DE (pE:∀c,o.op≠ .defer c) {a:Act} {next:Act→World→Prop} {Q:Exit→Act→World→Prop}
  (h:o.uponIn (FW r) 0 P a next Q ((execOp a.eval o).run P w)):o.wpIn (FW r) 0 P a w next Q:=
 ⟨fun _ _=>trivial,by rw[Oper.semAt_eq _ _ _ pE];exact h⟩
theorem Rg.op (pE:∀c,o.op≠ .defer c) (hg:o.guard=none) {d:Nat} (hd:o.dst=some d) (Er:Nat.blt d n=true) (v:Value) (w':World)
  (gQ:∀ρ:Operand→Value,(∀x u,ev L x=some u→ρ x=u)→(execOp ρ o).run P w= .ok (.value v) w')
  (h:Rg P r n ops rest ((d,v)::L) ds w' K):Rg P r n ops (o::rest) L ds w K:=by
 refine⟨fun a ha=>wpListIn_plain hg fun K' Nj=>DE pE ?_⟩;rw[gQ a.eval (fun x u hx=>ha.eval hx),Oper.uponIn_value,hd];exact Nj _ _ (h.run _ (ha.put (by simpa[Nat.blt_eq]using Er) v))
theorem Rg.Rb (pE:∀c,o.op≠ .defer c) (hg:o.guard=none) (hd:o.dst=none) (w':World)
  (gQ:∀ρ:Operand→Value,(∀x u,ev L x=some u→ρ x=u)→(execOp ρ o).run P w= .ok .skip w')
  (h:Rg P r n ops rest L ds w' K):Rg P r n ops (o::rest) L ds w K:=by
 refine⟨fun a ha=>wpListIn_plain hg fun K' Nj=>DE pE ?_⟩;rw[gQ a.eval (fun x u hx=>ha.eval hx),Oper.uponIn_skip,hd];exact Nj _ _ (h.run _ ha)
def Spec (P:Program) (f:FuncId) (args:Array Value) (w:World) (Q:Value→World→Prop):Prop:=
 Calls P f args w fun e w'=>∃v,e= .returned v∧Q v w'
theorem Spec.mono {f:FuncId} {args:Array Value} {Q Q':Value→World→Prop} (h:Spec P f args w Q) (hq:∀v w',Q v w'→Q' v w'):Spec P f args w Q':=
 Calls.mono h fun _ _ ⟨v,he,hv⟩=>⟨v,he,hq _ _ hv⟩
theorem Rg.F0 (pE:∀c,o.op≠ .defer c) (hg:o.guard=none) {d:Nat} (hd:o.dst=some d) (Er:Nat.blt d n=true) {f:FuncId} {args:Array Value} {w1:World} {Q:Value→World→Prop}
  (gQ:∀ρ:Operand→Value,(∀x u,ev L x=some u→ρ x=u)→(execOp ρ o).run P w= .ok (.enter f args) w1)
  (hs:Spec P f args w1 Q) (h:∀v w',Q v w'→Rg P r n ops rest ((d,v)::L) ds w' K):Rg P r n ops (o::rest) L ds w K:=by
 refine⟨fun a ha=>wpListIn_plain hg fun K' Nj=>DE pE ?_⟩;rw[gQ a.eval (fun x u hx=>ha.eval hx),Oper.uponIn_enter,hd];refine⟨fun h=>by simp[FW,Fence.wide]at h,?_⟩
 have hc:CallsIn (FW r) (0-1) P f args w1 fun e w'=>∃v,e= .returned v∧Q v w':=by
  cases r with
  |none=>exact callsIn_wide.2 hs
  |some l=>exact CallsIn.inRound l (callsIn_wide.2 hs)
 refine hc.mono ?_;rintro e w' ⟨v,rfl,hv⟩;exact Nj _ _ ((h v w' hv).run _ (ha.put (by simpa[Nat.blt_eq]using Er) v))
def uz (ops:Array Oper) (j:Nat):Option Nat:=(ops[j]?).bind (·.dst)
theorem uA {a:Act} (ha:gP n a L ds) {j g:Nat} {b:Bool} (hj:uz ops j=some g) (hb:lk L g=some (.bool b)):yielded ops a.tmps j=some b:=by
 unfold yielded;unfold uz at hj;rw[hj];simp[ha.at_ g _ hb]
theorem Rg.Nk {g:Nat} {b:Bool} (hb:lk L g=some (.bool b)) (ht:b=true→Rg P r n ops rest ((g,.bool true)::L) ds w K) (hf:b=false→Rg P r n ops rest ((g,.bool false)::L) ds w K):
  Rg P r n ops rest L ds w K:=by
 have key:∀c,b=c→∀t v,lk ((g,.bool c)::L) t=some v→lk L t=some v:=by
  rintro c rfl t v h;simp only[lk]at h
  cases Rc:Nat.beq g t with
  |true=>rw[Rc]at h;simp only[cond_true]at h;rw[←Nat.eq_of_beq_eq_true Rc,hb];exact h
  |false=>rw[Rc]at h;exact h
 refine⟨fun a ha=>?_⟩
 cases b with
 |true=>exact(ht rfl).run a ⟨ha.size,ha.defers,fun t v h=>ha.at_ t v (key true rfl t v h)⟩
 |false=>exact(hf rfl).run a ⟨ha.size,ha.defers,fun t v h=>ha.at_ t v (key false rfl t v h)⟩
theorem Rg.bE {g:Nat} {p:Prop} [Decidable p] (hb:lk L g=some (.bool (decide p))) (ht:p→Rg P r n ops rest ((g,.bool true)::L) ds w K) (hf: ¬p→Rg P r n ops rest ((g,.bool false)::L) ds w K):
  Rg P r n ops rest L ds w K:= .Nk hb (fun h=>ht (of_decide_eq_true h)) (fun h=>hf (of_decide_eq_false h))
theorem Rg.pP {g:Nat} {p:Prop} [Decidable p] (hb:lk L g=some (.bool (decide p))) (hp:p) (k:Rg P r n ops rest ((g,.bool true)::L) ds w K):Rg P r n ops rest L ds w K:=
 .bE hb (fun _=>k) (fun h=>absurd hp h)
theorem Rg.Cb {g:Nat} {p:Prop} [Decidable p] (hb:lk L g=some (.bool (decide p))) (hp: ¬p) (k:Rg P r n ops rest ((g,.bool false)::L) ds w K):Rg P r n ops rest L ds w K:=
 .bE hb (fun h=>absurd h hp) (fun _=>k)
theorem T.Xe {c:Operand} {x y:Code} {p:Prop} [Decidable p] (hc:ev L c=some (.bool (decide p))) (hp:p) (h:T P r n x L ds w K):T P r n (.cond c x y) L ds w K:= .dJ hc (fun _=>h) (fun h=>absurd hp h)
theorem T.zZ {c:Operand} {x y:Code} {p:Prop} [Decidable p] (hc:ev L c=some (.bool (decide p))) (hp: ¬p) (h:T P r n y L ds w K):T P r n (.cond c x y) L ds w K:= .dJ hc (fun h=>absurd h hp) (fun _=>h)
theorem Rg.aI {dst:Option Nat} {op:Op} {ty:TypeId} {pos:String} {af:Array Edge} {j g:Nat} {b:Bool} (hj:uz ops j=some g) (hb:lk L g=some (.bool b))
  (h:Rg P r n ops ({dst,op,type:=ty,pos,after:=af,guard:=none}::rest) L ds w K):Rg P r n ops ({dst,op,type:=ty,pos,after:=af,guard:=some (j,b)}::rest) L ds w K:=by
 refine⟨fun a ha=>?_⟩;have h1:=h.run a ha;have hy:=uA ha hj hb;simp only[wpListIn,Region.wanted,if_true]at h1;simp only[wpListIn,Region.wanted,hy,beq_self_eq_true,if_true];exact h1
theorem Rg.bJ {d:Nat} {op:Op} {ty:TypeId} {pos:String} {af:Array Edge} {j g:Nat} {b c:Bool} (hj:uz ops j=some g) (hb:lk L g=some (.bool b)) (fg:(b==c)=false)
  (Er:Nat.blt d n=true) (h:Rg P r n ops rest ((d,undef)::L) ds w K):Rg P r n ops ({dst:=some d,op,type:=ty,pos,after:=af,guard:=some (j,c)}::rest) L ds w K:=by
 refine⟨fun a ha=>?_⟩;have hy:=uA ha hj hb;have Xf:b≠c:=by simpa using fg
 simp only[wpListIn,Region.wanted,hy];rw[if_neg (by simpa using Xf)];exact⟨fun _ _=>trivial,h.run _ (ha.put (by simpa[Nat.blt_eq]using Er) undef)⟩
end
section
variable {P:Program} {r:Option Nat} {n:Nat} {L:Sl} {ds:List Deferred} {w:World} {K:Kt} {ops:Array Oper} {rest:List Oper}
theorem xe {a:Act} (ha:gP n a L ds) {j g:Nat} (hj:uz ops j=some g) (hb:lk L g=some undef):yielded ops a.tmps j=none:=by
 unfold yielded;unfold uz at hj;rw[hj];simp[ha.at_ g _ hb,undef]
theorem Rg.ed {d:Nat} {op:Op} {ty:TypeId} {pos:String} {af:Array Edge} {j g:Nat} {c:Bool} (hj:uz ops j=some g) (hb:lk L g=some undef)
  (Er:Nat.blt d n=true) (h:Rg P r n ops rest ((d,undef)::L) ds w K):Rg P r n ops ({dst:=some d,op,type:=ty,pos,after:=af,guard:=some (j,c)}::rest) L ds w K:=by
 refine⟨fun a ha=>?_⟩;have hy:=xe ha hj hb;simp only[wpListIn,Region.wanted,hy];rw[if_neg (by simp)];exact⟨fun _ _=>trivial,h.run _ (ha.put (by simpa[Nat.blt_eq]using Er) undef)⟩
end
def rT:Nat→List Value→Sl
 |_,[]=>[]
 |i,v::l=>(i,v)::rT (i+1) l
theorem xF (l:List Value):∀(i t:Nat) (v:Value),lk (rT i l) t=some v→i≤t∧l[t-i]? =some v:=by
 induction l with
 |nil=>intro i t v h;simp[rT,lk]at h
 |cons u l ih=>
  intro i t v h;simp only[rT,lk]at h
  cases hb:Nat.beq i t with
  |true=>
   rw[hb]at h;simp only[cond_true]at h;cases h;have:=Nat.eq_of_beq_eq_true hb;subst this;exact⟨Nat.le_refl _,by simp⟩
  |false=>
   rw[hb]at h;obtain⟨h1,h2⟩:=ih (i+1) t v h;refine⟨by omega,?_⟩;rw[show t-i=(t-(i+1))+1 from by omega];simpa using h2
def xf (P:Program) (fn:Func) (Q:Value→World→Prop):Kt
 |.normal,L,ds,w| .ret,L,ds,w=>ds=[]∧∀a:Act,(∀t v,lk L t=some v→a.tmps[t]? =some v)→∃v,(results fn a.tmps).run P w= .ok v w∧Q v w
 |_,_,_,_=>False
theorem bu {P:Program} {f:FuncId} {fn:Func} {c:Code} {args:List Value} {w:World} {Q:Value→World→Prop} (hf:P.funcs[f]? =some fn) (hb:fn.body=some c) {n:Nat} (hn:fn.ntmps=n)
  (h:T P none n c (rT 0 args) [] w (xf P fn Q)):Spec P f args.toArray w Q:=by
 refine(callsIn_wide (n:=0)).1 (callsIn_of_wp hf hb trivial ?_);refine wpIn_mono (h.run _ ⟨?_,rfl,?_⟩) ?_
 ·simp[hn];omega
 ·intro t v ht;obtain⟨_,h2⟩:=xF args 0 t v ht;simp only[Nat.sub_zero]at h2;have dW:t<args.length:=(List.getElem?_eq_some_iff.1 h2).1;simp only;rw[Array.getElem?_append_left (by simpa using dW)];simpa using h2
 ·rintro e a w' ⟨L,ds,ha,hK⟩
  cases e with
  |normal=>obtain⟨h1,h2⟩:=hK;obtain⟨v,h3,h4⟩:=h2 a ha.at_;exact⟨ha.defers.trans h1,v,h3,v,rfl,h4⟩
  |ret=>obtain⟨h1,h2⟩:=hK;obtain⟨v,h3,h4⟩:=h2 a ha.at_;exact⟨ha.defers.trans h1,v,h3,v,rfl,h4⟩
  |exit id=>exact hK.elim
  |goto id=>exact hK.elim
  |panic c=>exact hK.elim
  |outgrown=>exact hK.elim
section
variable {P:Program} {fn:Func} {L:Sl} {w:World} {Q:Value→World→Prop}
theorem aV {t:Nat} {v:Value} (hr:fn.results= #[.tmp t]) (hv:lk L t=some v) (h:Q v w):
  xf P fn Q .ret L [] w:=
 ⟨rfl,fun a ha=>⟨v,by simp[results,hr,ha t v hv],h⟩⟩
theorem Aa (hr:fn.results= #[]) (h:Q (.tuple #[]) w):
  xf P fn Q .ret L [] w:=
 ⟨rfl,fun a ha=>⟨_,by simp[results,hr],h⟩⟩
theorem fa {t u:Nat} {x y:Value} (hr:fn.results= #[.tmp t,.tmp u]) (hx:lk L t=some x) (hy:lk L u=some y) (h:Q (.tuple #[x,y]) w):
  xf P fn Q .ret L [] w:=
 ⟨rfl,fun a ha=>⟨_,by simp[results,hr,ha _ _ hx,ha _ _ hy],h⟩⟩
theorem pQ {t u s:Nat} {x y z:Value} (hr:fn.results= #[.tmp t,.tmp u,.tmp s]) (hx:lk L t=some x) (hy:lk L u=some y) (hz:lk L s=some z) (h:Q (.tuple #[x,y,z]) w):
  xf P fn Q .ret L [] w:=
 ⟨rfl,fun a ha=>⟨_,by simp[results,hr,ha _ _ hx,ha _ _ hy,ha _ _ hz],h⟩⟩
end
end Go.K
namespace Go.K
open Go.RowKit (Below)
abbrev aL:=Nat→Prop
def aE:aL:=fun _=>False
def ins (M:aL) (b:Nat):aL:=fun k=>k=b∨M k
def Le (M:aL) (w:World) (M':aL) (w':World):Prop:=∀b,b<w.heap.size→¬M b→¬M' b∧w'.heap[b]? =w.heap[b]?
theorem an {w:World} {b:Nat} {o:Obj} (h:w.heap[b]? =some o):b<w.heap.size:=(Array.getElem?_eq_some_iff.1 h).1
theorem Le.refl (M:aL) (w:World):Le M w M w:=fun _ _ h=>⟨h,rfl⟩
theorem Le.trans {M1 M2 M3:aL} {w1 w2 w3:World} (h:Le M1 w1 M2 w2) (h':Le M2 w2 M3 w3):Le M1 w1 M3 w3:=fun b hb hm=>by
 obtain⟨h1,h2⟩:=h b hb hm
 have Jz:b<w2.heap.size:=by
  have:w1.heap[b]? =some w1.heap[b]:=Array.getElem?_eq_getElem hb;exact an (h2.trans this)
 obtain⟨h3,h4⟩:=h' b Jz h1;exact⟨h3,h4.trans h2⟩
def Lt (M:aL) (w:World):Prop:=∀b,M b→b<w.heap.size
theorem Lt.none (w:World):Lt aE w:=fun _ h=>h.elim
structure Step (M:aL) (w:World) (M':aL) (w':World) (N:aL):Prop where
 lt:Lt M w→Lt M' w'
 os:w'.os=w.os
 tape:w'.tape=w.tape
 output:w'.output=w.output
 size:w.heap.size≤w'.heap.size
 mem:∀b,b<w.heap.size→(M' b↔M b)
 same:∀b,b<w.heap.size→¬N b→w'.heap[b]? =w.heap[b]?
 sub:∀b,N b→M b
theorem Step.refl (M:aL) (w:World):Step M w M w aE:=⟨id,rfl,rfl,rfl,Nat.le_refl _,fun _ _=>Iff.rfl,fun _ _ _=>rfl,fun _ h=>h.elim⟩
theorem Step.le {M M' N:aL} {w w':World} (h:Step M w M' w' N):Le M w M' w':=fun b hb hm=>⟨fun tQ=>hm ((h.mem b hb).1 tQ),h.same b hb fun hn=>hm (h.sub b hn)⟩
theorem Step.trans {M1 M2 M3 N N':aL} {w1 w2 w3:World} (h:Step M1 w1 M2 w2 N) (h':Step M2 w2 M3 w3 N') (hN:∀b,b<w1.heap.size→N' b→N b):Step M1 w1 M3 w3 N:=
 ⟨fun h0=>h'.lt (h.lt h0),h'.os.trans h.os,h'.tape.trans h.tape,h'.output.trans h.output,Nat.le_trans h.size h'.size,
  fun b hb=>(h'.mem b (Nat.lt_of_lt_of_le hb h.size)).trans (h.mem b hb),
  fun b hb hn=>(h'.same b (Nat.lt_of_lt_of_le hb h.size) (fun h2=>hn (hN b hb h2))).trans (h.same b hb hn),h.sub⟩
theorem Step.aB {M1 M2 M3 N:aL} {w1 w2 w3:World} (h:Step M1 w1 M2 w2 N) (h':Step M2 w2 M3 w3 aE):Step M1 w1 M3 w3 N:=h.trans h' fun _ _ h=>h.elim
theorem Step.cw {M M' N N':aL} {w w':World} (h:Step M w M' w' N) (hN:∀b,N b→N' b) (hs:∀b,N' b→M b):Step M w M' w' N':=
 ⟨h.lt,h.os,h.tape,h.output,h.size,h.mem,fun b hb hn=>h.same b hb fun h2=>hn (hN b h2),hs⟩
theorem Step.any {M M':aL} {w w':World} (h:Step M w M' w' aE) (M1:aL):Step M1 w M1 w' aE:=
 ⟨fun h0 b hb=>Nat.lt_of_lt_of_le (h0 b hb) h.size,h.os,h.tape,h.output,h.size,fun _ _=>Iff.rfl,h.same,fun _ h=>h.elim⟩
theorem Step.back {M M' N:aL} {w w':World} (h:Step M w M' w' N):Step M w M w' N:=⟨fun h0 b hb=>Nat.lt_of_lt_of_le (h0 b hb) h.size,h.os,h.tape,h.output,h.size,fun _ _=>Iff.rfl,h.same,h.sub⟩
theorem Step.below {M:aL} {M':aL} {w w':World} (h:Step M w M' w' aE):Below w.heap.size w w':=⟨h.os,h.tape,h.output,h.size,fun k hk=>h.same k hk fun h=>h.elim⟩
theorem Step.aM {M M':aL} {w w':World} (h:Step M w M' w' aE) {b:Nat} {o:Obj} (hb:w.heap[b]? =some o):w'.heap[b]? =some o:=(h.same b (an hb) fun h=>h.elim).trans hb
theorem Step.bS {M M' N:aL} {w w':World} (h:Step M w M' w' N) {b:Nat} {o:Obj} (hb:w.heap[b]? =some o) (hn: ¬N b):w'.heap[b]? =some o:=(h.same b (an hb) hn).trans hb
theorem Le.close {M0 M N:aL} {w0 w:World} (hl:Lt M0 w0) (s:Step M0 w0 M w N):Le M w M0 w:=fun b _ hm=>
 ⟨fun h0=>hm ((s.mem b (hl b h0)).2 h0),rfl⟩
theorem dv (M:aL) (w:World) (o:Obj):Step M w M (w.alloc o) aE:=
 ⟨fun h b hb=>Nat.lt_of_lt_of_le (h b hb) (by simp),rfl,rfl,rfl,by simp,fun _ _=>Iff.rfl,fun k hk _=>Below.heap_alloc w o k hk,fun _ h=>h.elim⟩
theorem mC (M:aL) (w:World):Step M w M w.drew aE:=⟨fun h=>h,rfl,rfl,rfl,Nat.le_refl _,fun _ _=>Iff.rfl,fun _ _ _=>rfl,fun _ h=>h.elim⟩
theorem Step.own {M M' N:aL} {w w':World} (s:Step M w M' w' N) {b:Nat} (hb:w.heap.size≤b) (Xg:b<w'.heap.size):Step M w (ins M' b) w' N:=
 ⟨fun h k hk=>by
  rcases hk with rfl|hk
  ·exact Xg
  ·exact s.lt h k hk,s.os,s.tape,s.output,s.size,fun k hk=>⟨fun h=>by
  rcases h with rfl|h
  ·omega
  ·exact(s.mem k hk).1 h,fun h=> .inr ((s.mem k hk).2 h)⟩,s.same,s.sub⟩
structure RT (α:Type) where
 n:Nat
 agg:Bool
 R:aL→World→α→List Value→Prop
 len:∀{M w x vs},R M w x vs→vs.length=n
 one:∀{M w x vs},R M w x vs→∀v∈vs,v.oneCell'=true
 le:∀{M w M' w' x vs},Le M w M' w'→R M w x vs→R M' w' x vs
def RT.val {α:Type} (A:RT α) (vs:List Value):Value:=if A.agg then .agg vs.toArray else vs.headD undef
def RT.V {α:Type} (A:RT α) (M:aL) (w:World) (x:α) (v:Value):Prop:=∃vs,A.R M w x vs∧v=A.val vs
theorem RT.V.le {α:Type} {A:RT α} {M M':aL} {w w':World} {x:α} {v:Value} (hl:Le M w M' w') (h:A.V M w x v):A.V M' w' x v:=by
 obtain⟨vs,h1,h2⟩:=h;exact⟨vs,A.le hl h1,h2⟩
def RT.int (k:IntKind):RT Int where
 n:=1
 agg:=false
 R:=fun _ _ x vs=>vs=[.int k x]∧k.min≤x∧x≤k.max
 len:=by rintro _ _ x vs ⟨rfl,_⟩;rfl
 one:=by rintro _ _ x vs ⟨rfl,_⟩ v hv;simp at hv;subst hv;rfl
 le:=fun _ h=>h
def RT.u8:RT UInt8 where
 n:=1
 agg:=false
 R:=fun _ _ x vs=>vs=[.int .u8 x.toNat]
 len:=by rintro _ _ x vs rfl;rfl
 one:=by rintro _ _ x vs rfl v hv;simp at hv;subst hv;rfl
 le:=fun _ h=>h
def RT.str:RT (List UInt8) where
 n:=1
 agg:=false
 R:=fun _ _ x vs=>vs=[.string ⟨x.toArray⟩]∧x.length≤140737488355328
 len:=by rintro _ _ x vs ⟨rfl,_⟩;rfl
 one:=by rintro _ _ x vs ⟨rfl,_⟩ v hv;simp at hv;subst hv;rfl
 le:=fun _ h=>h
theorem qi {M M':aL} {w w':World} (hl:Le M w M' w') {b o:Nat} {vs:List Value} (hm: ¬M b) (h:w.rangeAt b o vs):w'.rangeAt b o vs:=by
 intro j v hv;have hc:=h j v hv;have hb:b<w.heap.size:=World.block_lt_of_cell? w ⟨b,o+j,none⟩ hc;rw[World.cell?_of_block (w:=w) (hl b hb hm).2];exact hc
def rU {α:Type} (A:RT α) (M:aL) (w:World) (a:Option Addr) (xs:List α):Prop:=
 xs=[]∨∃b o,a=some ⟨b,o,none⟩∧¬M b∧∀i x,xs[i]? =some x→∃vs,A.R M w x vs∧w.rangeAt b (o+i*A.n) vs
theorem rU.le {α:Type} {A:RT α} {M M':aL} {w w':World} {a:Option Addr} {xs:List α} (hn:0<A.n) (hl:Le M w M' w') (h:rU A M w a xs):rU A M' w' a xs:=by
 rcases h with h|⟨b,o,h1,h2,h3⟩
 ·exact .inl h
 ·cases xs with
  |nil=>exact .inl rfl
  |cons x xs=>
   obtain⟨vs,hv,hr⟩:=h3 0 x rfl;have Ab:0<vs.length:=by rw[A.len hv];exact hn
   have hc:=hr 0 vs[0] (List.getElem?_eq_getElem Ab);have hb:b<w.heap.size:=World.block_lt_of_cell? w _ hc;refine .inr ⟨b,o,h1,(hl b hb h2).1,fun i x hi=>?_⟩;obtain⟨vs,hv,hr⟩:=h3 i x hi;exact⟨vs,A.le hl hv,qi hl h2 hr⟩
def RT.sl {α:Type} (A:RT α) (hn:0<A.n:=by decide):RT (List α) where
 n:=1
 agg:=false
 R:=fun M w xs vs=>∃a cap,vs=[.slice a xs.length cap]∧xs.length≤cap∧xs.length≤140737488355328∧rU A M w a xs
 len:=by rintro _ _ x vs ⟨a,cap,rfl,_⟩;rfl
 one:=by rintro _ _ x vs ⟨a,cap,rfl,_⟩ v hv;simp at hv;subst hv;rfl
 le:=by
  rintro M w M' w' xs vs hl ⟨a,cap,h1,h2,h3,h4⟩;exact⟨a,cap,h1,h2,h3,h4.le hn hl⟩
def RT.pair {α β:Type} (A:RT α) (B:RT β):RT (α×β) where
 n:=A.n+B.n
 agg:=true
 R:=fun M w x vs=>∃va vb,vs=va++vb∧A.R M w x.1 va∧B.R M w x.2 vb
 len:=by rintro _ _ x vs ⟨va,vb,rfl,h1,h2⟩;rw[List.length_append,A.len h1,B.len h2]
 one:=by
  rintro _ _ x vs ⟨va,vb,rfl,h1,h2⟩ v hv;rcases List.mem_append.1 hv with hv|hv
  ·exact A.one h1 v hv
  ·exact B.one h2 v hv
 le:=by rintro M w M' w' x vs hl ⟨va,vb,h0,h1,h2⟩;exact⟨va,vb,h0,A.le hl h1,B.le hl h2⟩
theorem LH {k:IntKind} {M:aL} {w:World} {x:Int} {v:Value}:(RT.int k).V M w x v↔v= .int k x∧k.min≤x∧x≤k.max:=
 ⟨fun⟨_,⟨h1,h2⟩,h3⟩=>by subst h1;exact⟨h3,h2⟩,fun⟨h1,h2⟩=>⟨_,⟨rfl,h2⟩,h1⟩⟩
theorem F1 {M:aL} {w:World} {x:UInt8} {v:Value}:RT.u8.V M w x v↔v= .int .u8 x.toNat:=⟨fun⟨_,h1,h2⟩=>by cases h1;exact h2,fun h=>⟨_,rfl,h⟩⟩
theorem jG {M:aL} {w:World} {x:List UInt8} {v:Value}:RT.str.V M w x v↔v= .string ⟨x.toArray⟩∧x.length≤140737488355328:=
 ⟨fun⟨_,⟨h1,h2⟩,h3⟩=>by subst h1;exact⟨h3,h2⟩,fun⟨h1,h2⟩=>⟨_,⟨rfl,h2⟩,h1⟩⟩
theorem ix {α:Type} {A:RT α} {hn:0<A.n} {M:aL} {w:World} {xs:List α} {v:Value}:
  (A.sl hn).V M w xs v↔∃a cap,v= .slice a xs.length cap∧xs.length≤cap∧xs.length≤140737488355328∧rU A M w a xs:=
 ⟨fun⟨_,⟨a,cap,h1,h2⟩,h3⟩=>by subst h1;exact⟨a,cap,h3,h2⟩,fun⟨a,cap,h1,h2⟩=>⟨_,⟨a,cap,rfl,h2⟩,h1⟩⟩
theorem iO {α:Type} {A:RT α} {hn:0<A.n} {M:aL} {w:World}:(A.sl hn).V M w [] (.slice none 0 0):=ix.2 ⟨none,0,rfl,Nat.zero_le _,Nat.zero_le _,.inl rfl⟩
theorem dK {α:Type} {A:RT α} {hn:0<A.n} {M:aL} {w:World} {xs:List α} {v:Value} (h:(A.sl hn).V M w xs v):xs.length≤140737488355328:=by
 obtain⟨_,_,_,_,h,_⟩:=ix.1 h;exact h
def fu {α:Type} (A:RT α) (M:aL) (w:World):List α→List Value→Prop
 |[],C=>C=[]
 |x::xs,C=>∃vs rest,C=vs++rest∧A.R M w x vs∧fu A M w xs rest
theorem fu.le {α:Type} {A:RT α} {M M':aL} {w w':World} (hl:Le M w M' w'):∀{xs:List α} {C:List Value},fu A M w xs C→fu A M' w' xs C
 |[],_,h=>h
 |_::_,_,⟨vs,rest,h1,h2,h3⟩=>⟨vs,rest,h1,A.le hl h2,fu.le hl h3⟩
theorem fu.length {α:Type} {A:RT α} {M:aL} {w:World}:∀{xs:List α} {C:List Value},fu A M w xs C→C.length=xs.length*A.n
 |[],_,h=>by cases h;simp
 |x::xs,_,⟨vs,rest,h1,h2,h3⟩=>by subst h1;rw[List.length_append,A.len h2,fu.length h3,List.length_cons,Nat.add_mul];omega
theorem fu.one {α:Type} {A:RT α} {M:aL} {w:World}:∀{xs:List α} {C:List Value},fu A M w xs C→∀u∈C,u.oneCell'=true
 |[],_,h,u,hu=>by cases h;cases hu
 |x::xs,_,⟨vs,rest,h1,h2,h3⟩,u,hu=>by
  subst h1;rcases List.mem_append.1 hu with hu|hu
  ·exact A.one h2 u hu
  ·exact fu.one h3 u hu
theorem fu.append {α:Type} {A:RT α} {M:aL} {w:World} {ys:List α} {D:List Value} (hd:fu A M w ys D):∀{xs:List α} {C:List Value},fu A M w xs C→fu A M w (xs++ys) (C++D)
 |[],_,h=>by cases h;simpa using hd
 |_::_,_,⟨vs,rest,h1,h2,h3⟩=>⟨vs,rest++D,by subst h1;simp,h2,fu.append hd h3⟩
theorem fu.at_ {α:Type} {A:RT α} {M:aL} {w:World}:∀{xs:List α} {C:List Value},fu A M w xs C→∀i x,xs[i]? =some x→∃vs,A.R M w x vs∧∀j v,vs[j]? =some v→C[i*A.n+j]? =some v
 |[],_,_,i,x,hi=>by simp at hi
 |y::xs,_,⟨vs,rest,h1,h2,h3⟩,0,x,hi=>by
  simp at hi;subst hi;subst h1;refine⟨vs,h2,fun j v hv=>?_⟩;have hj:j<vs.length:=(List.getElem?_eq_some_iff.1 hv).1;rw[Nat.zero_mul,Nat.zero_add,List.getElem?_append_left hj];exact hv
 |y::xs,_,⟨vs,rest,h1,h2,h3⟩,i+1,x,hi=>by
  subst h1;obtain⟨us,hu,hr⟩:=fu.at_ h3 i x (by simpa using hi);refine⟨us,hu,fun j v hv=>?_⟩;have:=hr j v hv;have hl:=A.len h2;rw[List.getElem?_append_right (by rw[hl,Nat.add_mul];omega),hl,Nat.add_mul];rw[show i*A.n+1*A.n+j-A.n=i*A.n+j from by omega];exact this
theorem rU.all {α:Type} {A:RT α} {M:aL} {w:World} {b o:Nat}:∀{xs:List α},(∀i x,xs[i]? =some x→∃vs,A.R M w x vs∧w.rangeAt b (o+i*A.n) vs)→
  ∃C,fu A M w xs C∧w.rangeAt b o C:=by
 intro xs
 induction xs generalizing o with
 |nil=>intro _;exact⟨[],rfl,fun j v hv=>by simp at hv⟩
 |cons x xs ih=>
  intro h;obtain⟨vs,hv,hr⟩:=h 0 x rfl
  obtain⟨C,hC,hD⟩:=ih (o:=o+A.n) (fun i y hi=>by
   obtain⟨us,hu,hs⟩:=h (i+1) y (by simpa using hi);refine⟨us,hu,?_⟩;rw[show o+A.n+i*A.n=o+(i+1)*A.n from by rw[Nat.add_mul];omega];exact hs)
  refine⟨vs++C,⟨vs,C,rfl,hv,hC⟩,fun j v hj=>?_⟩;have hl:=A.len hv;rcases Nat.lt_or_ge j vs.length with dW|iH
  ·rw[List.getElem?_append_left dW]at hj;have:=hr j v hj;simpa using this
  ·rw[List.getElem?_append_right iH]at hj;have:=hD (j-vs.length) v hj;rw[show o+A.n+(j-vs.length)=o+j from by omega]at this;exact this
structure Own {α:Type} (A:RT α) (e:TypeId) (M:aL) (w:World) (base:Nat) (v:Value) (xs:List α):Prop where
 row:∃C,w.ownsRow base e A.n v xs.length C∧fu A M w xs C
 mut_:∀b,v.ownBlock=some b→M b
theorem Own.nil {α:Type} (A:RT α) (e:TypeId) (M:aL) (w:World) (base:Nat):Own A e M w base (.slice none 0 0) []:=
 ⟨⟨[],World.ownsRow_nil w base e A.n,rfl⟩,fun b h=>by simp[Value.ownBlock]at h⟩
theorem Own.isSlice {α:Type} {A:RT α} {e:TypeId} {M:aL} {w:World} {base:Nat} {v:Value} {xs:List α} (h:Own A e M w base v xs):∃a cap,v= .slice a xs.length cap∧xs.length≤cap:=by
 obtain⟨⟨C,hr,_⟩,_⟩:=h;rcases hr.2 with⟨h1,h2⟩|⟨g,cap,cur,h1,_,_,h4,_⟩
 ·exact⟨none,0,by rw[h1,h2],by omega⟩
 ·exact⟨_,cap,h1,h4⟩
theorem Own.base {α:Type} {A:RT α} {e:TypeId} {M:aL} {w:World} {base:Nat} {v:Value} {xs:List α} (h:Own A e M w base v xs):∀b,v.ownBlock=some b→base≤b∧b<w.heap.size:=by
 obtain⟨⟨C,hr,_⟩,_⟩:=h;exact hr.lt
theorem Own.step {α:Type} {A:RT α} {e:TypeId} {M M' N:aL} {w w':World} {base:Nat} {v:Value} {xs:List α} (h:Own A e M w base v xs) (s:Step M w M' w' N)
  (hn:∀b,v.ownBlock=some b→¬N b):Own A e M' w' base v xs:=by
 obtain⟨⟨C,hr,ha⟩,hm⟩:=h;refine⟨⟨C,⟨hr.1,?_⟩,ha.le s.le⟩,fun b hb=>(s.mem b (hr.lt b hb).2).2 (hm b hb)⟩;rcases hr.2 with h1|⟨g,cap,cur,h1,h2,h3,h4⟩
 ·exact .inl h1
 ·exact .inr ⟨g,cap,cur,h1,h2,s.bS h3 (hn g (by rw[h1];rfl)),h4⟩
theorem Own.a8 {α:Type} {A:RT α} {e:TypeId} {M M':aL} {w w':World} {base:Nat} {v:Value} {xs:List α} (h:Own A e M w base v xs) (s:Step M w M' w' aE):Own A e M' w' base v xs:=h.step s fun _ _ h=>h
theorem Own.sl {α:Type} {A:RT α} {hn:0<A.n} {e:TypeId} {M:aL} {w:World} {base:Nat} {v:Value} {xs:List α} (h:Own A e M w base v xs) {M0:aL} (hle:Le M w M0 w)
  (hb:∀b,v.ownBlock=some b→¬M0 b) (hlen:xs.length≤140737488355328):(A.sl hn).V M0 w xs v:=by
 obtain⟨⟨C,hr,ha⟩,hm⟩:=h;rcases hr.2 with⟨h1,h2⟩|⟨g,cap,cur,h1,h2,h3,h4,h5,h6,h7⟩
 ·have:xs=[]:=List.eq_nil_of_length_eq_zero h2;subst this;subst h1;exact iO
 ·subst h1;refine ix.2 ⟨_,cap,rfl,h4,hlen,.inr ⟨g,0,rfl,hb g rfl,fun i x hi=>?_⟩⟩;obtain⟨vs,hv,hj⟩:=ha.at_ i x hi;refine⟨vs,A.le hle hv,fun j u hu=>?_⟩;have h8:=hj j u hu;rw[←h7,List.getElem?_take]at h8
  split at h8
  ·simp only[World.cell?,h3];simpa using h8
  ·cases h8
theorem Own.close {α:Type} {A:RT α} {hn:0<A.n} {e:TypeId} {M0 M N:aL} {w0 w:World} {v:Value} {xs:List α} (hl:Lt M0 w0) (s:Step M0 w0 M w N) (h:Own A e M w w0.heap.size v xs)
  (hlen:xs.length≤140737488355328):(A.sl hn).V M0 w xs v:=
 h.sl (Le.close hl s) (fun b hb h0=>by have:=(h.base b hb).1;have:=hl b h0;omega) hlen
def TI (P:Program) (t:TypeId) (z:Value) (size bytes:Nat):Prop:=(P.info? t).map (fun i=>(i.zero,i.size,i.bytes))=some (some z,size,bytes)
theorem TI.get {P:Program} {t:TypeId} {z:Value} {size bytes:Nat} (h:TI P t z size bytes):∃i,P.info? t=some i∧i.zero=some z∧i.size=size∧i.bytes=bytes:=by
 unfold TI at h
 cases hi:P.info? t with
 |none=>simp[hi]at h
 |some i=>simp[hi]at h;exact⟨i,rfl,h.1,h.2.1,h.2.2⟩
theorem TI.sizeOf {P:Program} {t:TypeId} {z:Value} {size bytes:Nat} (h:TI P t z size bytes) (w:World):(Go.sizeOf t).run P w= .ok size w:=by
 obtain⟨i,h1,h2,h3,h4⟩:=h.get;simp[Go.sizeOf,typeInfo,h1,h3]
end Go.K
namespace Go.K
section
variable {P:Program} {r:Option Nat} {n:Nat} {L:Sl} {ds:List Deferred} {w:World} {K:Kt} {ops:Array Oper} {rest:List Oper}
variable {d:Nat} {ty:TypeId} {pos:String} {af:Array Edge} {x y z:Operand}
theorem Rg.eqv {d:Nat} {v v':Value} (h:v=v') (k:Rg P r n ops rest ((d,v')::L) ds w K):Rg P r n ops rest ((d,v)::L) ds w K:=by subst h;exact k
theorem Rg.move {v:Value} (hx:ev L x=some v) (hd:Nat.blt d n=true) (k:Rg P r n ops rest ((d,v)::L) ds w K):
  Rg P r n ops ({dst:=some d,op:= .move x,type:=ty,pos,after:=af,guard:=none}::rest) L ds w K:=
 .op (fun _ h=>by cases h) rfl rfl hd v w (fun ρ h=>by simp only[execOp];rw[h x v hx];simp) k
theorem Rg.assign {v:Value} (hx:ev L x=some v) (hd:Nat.blt d n=true) (k:Rg P r n ops rest ((d,v)::L) ds w K):
  Rg P r n ops ({dst:=some d,op:= .assign x,type:=ty,pos,after:=af,guard:=none}::rest) L ds w K:=
 .op (fun _ h=>by cases h) rfl rfl hd v w (fun ρ h=>by simp only[execOp];rw[h x v hx];simp) k
theorem Rg.bY {v:Value} (hx:ev L x=some (.bool true)) (hy:ev L y=some v) (hd:Nat.blt d n=true) (k:Rg P r n ops rest ((d,v)::L) ds w K):
  Rg P r n ops ({dst:=some d,op:= .pick x y z,type:=ty,pos,after:=af,guard:=none}::rest) L ds w K:=
 .op (fun _ h=>by cases h) rfl rfl hd v w (fun ρ h=>by simp only[execOp];rw[h x _ hx,h y v hy];simp[asBool]) k
theorem Rg.bD {v:Value} (hx:ev L x=some (.bool false)) (hz:ev L z=some v) (hd:Nat.blt d n=true) (k:Rg P r n ops rest ((d,v)::L) ds w K):
  Rg P r n ops ({dst:=some d,op:= .pick x y z,type:=ty,pos,after:=af,guard:=none}::rest) L ds w K:=
 .op (fun _ h=>by cases h) rfl rfl hd v w (fun ρ h=>by simp only[execOp];rw[h x _ hx,h z v hz];simp[asBool]) k
theorem Rg.not {b:Bool} {xt:TypeId} (hx:ev L x=some (.bool b)) (hd:Nat.blt d n=true) (k:Rg P r n ops rest ((d,.bool (!b))::L) ds w K):
  Rg P r n ops ({dst:=some d,op:= .unOp .not xt x,type:=ty,pos,after:=af,guard:=none}::rest) L ds w K:=
 .op (fun _ h=>by cases h) rfl rfl hd _ w (fun ρ h=>by simp only[execOp];rw[h x _ hx];simp[Op.unary]) k
theorem JN {op:BinOp} {k:IntKind} {p q:Int} {t:TypeId} {x y:Operand} {v:Value} {s:Sem Value} (hs:binOp op t (.int k p) (.int k q)=s) (hr:s.run P w= .ok v w):
  Sem.run P (do eqGuard op t x y (.int k p) (.int k q);binOp op t (.int k p) (.int k q)) w= .ok v w:=by
 rw[hs];have:(eqGuard op t x y (.int k p) (.int k q)).run P w= .ok () w:=by unfold eqGuard;cases op<;>simp
 simp[Sem.run_bind,this,hr]
theorem Rg.bin {op:BinOp} {t t':TypeId} {k:IntKind} {p q:Int} {v:Value} (hx:ev L x=some (.int k p)) (hy:ev L y=some (.int k q)) (hd:Nat.blt d n=true)
  (hr:(binOp op t (.int k p) (.int k q)).run P w= .ok v w) (kk:Rg P r n ops rest ((d,v)::L) ds w K):
  Rg P r n ops ({dst:=some d,op:= .binOp op t x y t',type:=ty,pos,after:=af,guard:=none}::rest) L ds w K:=
 .op (fun _ h=>by cases h) rfl rfl hd v w (fun ρ h=>by
  simp only[execOp];rw[h x _ hx,h y _ hy,Sem.run_bind,JN rfl hr];simp) kk
theorem Rg.dd {t t':TypeId} {p q:Int} (hx:ev L x=some (.int .i64 p)) (hy:ev L y=some (.int .i64 q)) (hd:Nat.blt d n=true)
  (hb: -9223372036854775808≤p+q∧p+q≤9223372036854775807) (k:Rg P r n ops rest ((d,.int .i64 (p+q))::L) ds w K):
  Rg P r n ops ({dst:=some d,op:= .binOp .add t x y t',type:=ty,pos,after:=af,guard:=none}::rest) L ds w K:=
 .bin hx hy hd (by simp[binOp,Op.intArith,IntWalk.i64_in _ hb]) k
theorem Rg.jB {t t':TypeId} {p q:Int} (hx:ev L x=some (.int .i64 p)) (hy:ev L y=some (.int .i64 q)) (hd:Nat.blt d n=true)
  (hb: -9223372036854775808≤p-q∧p-q≤9223372036854775807) (k:Rg P r n ops rest ((d,.int .i64 (p-q))::L) ds w K):
  Rg P r n ops ({dst:=some d,op:= .binOp .sub t x y t',type:=ty,pos,after:=af,guard:=none}::rest) L ds w K:=
 .bin hx hy hd (by simp[binOp,Op.intArith,IntWalk.i64_in _ hb]) k
theorem Rg.Nl {t t':TypeId} {p q:Int} (hx:ev L x=some (.int .i64 p)) (hy:ev L y=some (.int .i64 q)) (hd:Nat.blt d n=true)
  (hb: -9223372036854775808≤p*q∧p*q≤9223372036854775807) (k:Rg P r n ops rest ((d,.int .i64 (p*q))::L) ds w K):
  Rg P r n ops ({dst:=some d,op:= .binOp .mul t x y t',type:=ty,pos,after:=af,guard:=none}::rest) L ds w K:=
 .bin hx hy hd (by simp[binOp,Op.intArith,IntWalk.i64_in _ hb]) k
theorem Rg.yD {t t':TypeId} {κ:IntKind} {p q:Int} (hx:ev L x=some (.int κ p)) (hy:ev L y=some (.int κ q)) (hd:Nat.blt d n=true)
  (k:Rg P r n ops rest ((d,.int κ (κ.wrap (p+q)))::L) ds w K):
  Rg P r n ops ({dst:=some d,op:= .binOp .add t x y t',type:=ty,pos,after:=af,guard:=none}::rest) L ds w K:= .bin hx hy hd (by simp[binOp,Op.intArith]) k
theorem Rg.Re {t t':TypeId} {κ:IntKind} {p q:Int} (hx:ev L x=some (.int κ p)) (hy:ev L y=some (.int κ q)) (hd:Nat.blt d n=true)
  (k:Rg P r n ops rest ((d,.int κ (κ.wrap (p-q)))::L) ds w K):
  Rg P r n ops ({dst:=some d,op:= .binOp .sub t x y t',type:=ty,pos,after:=af,guard:=none}::rest) L ds w K:= .bin hx hy hd (by simp[binOp,Op.intArith]) k
theorem Rg.Ac {t t':TypeId} {p q:Int} (hx:ev L x=some (.int .i64 p)) (hy:ev L y=some (.int .i64 q)) (hd:Nat.blt d n=true)
  (hb:0≤p∧p≤9223372036854775807∧1≤q) (k:Rg P r n ops rest ((d,.int .i64 (p/q))::L) ds w K):
  Rg P r n ops ({dst:=some d,op:= .binOp .quo t x y t',type:=ty,pos,after:=af,guard:=none}::rest) L ds w K:=
 .bin hx hy hd (by simp[binOp,Op.intDiv,show q≠0 from by omega,IntWalk.i64_quo p q hb]) k
theorem Rg.Ad {t t':TypeId} {κ:IntKind} {p q:Int} (hx:ev L x=some (.int κ p)) (hy:ev L y=some (.int κ q)) (hd:Nat.blt d n=true)
  (hb:0≤p∧1≤q) (k:Rg P r n ops rest ((d,.int κ (p%q))::L) ds w K):
  Rg P r n ops ({dst:=some d,op:= .binOp .rem t x y t',type:=ty,pos,after:=af,guard:=none}::rest) L ds w K:=
 .bin hx hy hd (by simp[binOp,Op.intDiv,show q≠0 from by omega,IntWalk.rem_in p q hb.1]) k
theorem Rg.neg {xt:TypeId} {p:Int} (hx:ev L x=some (.int .i64 p)) (hd:Nat.blt d n=true) (hb: -9223372036854775808≤ -p∧ -p≤9223372036854775807)
  (k:Rg P r n ops rest ((d,.int .i64 (-p))::L) ds w K):
  Rg P r n ops ({dst:=some d,op:= .unOp .neg xt x,type:=ty,pos,after:=af,guard:=none}::rest) L ds w K:=
 .op (fun _ h=>by cases h) rfl rfl hd _ w (fun ρ h=>by simp only[execOp];rw[h x _ hx];simp[Op.unary,Op.intArith,IntWalk.i64_in _ hb]) k
theorem Rg.shr {t t':TypeId} {κ κ':IntKind} {p q:Int} (hx:ev L x=some (.int κ p)) (hy:ev L y=some (.int κ' q)) (hd:Nat.blt d n=true) (hq:0≤q)
  (k:Rg P r n ops rest ((d,.int κ (p.fdiv (2^min q.toNat κ.bits)))::L) ds w K):
  Rg P r n ops ({dst:=some d,op:= .binOp .shr t x y t',type:=ty,pos,after:=af,guard:=none}::rest) L ds w K:=
 .op (fun _ h=>by cases h) rfl rfl hd _ w (fun ρ h=>by
  simp only[execOp];rw[h x _ hx,h y _ hy];simp[eqGuard,binOp,Op.shift,show¬q<0 from by omega]) k
theorem Rg.shl {t t':TypeId} {κ κ':IntKind} {p q:Int} (hx:ev L x=some (.int κ p)) (hy:ev L y=some (.int κ' q)) (hd:Nat.blt d n=true) (hq:0≤q)
  (k:Rg P r n ops rest ((d,.int κ (κ.wrap (p*2^min q.toNat κ.bits)))::L) ds w K):
  Rg P r n ops ({dst:=some d,op:= .binOp .shl t x y t',type:=ty,pos,after:=af,guard:=none}::rest) L ds w K:=
 .op (fun _ h=>by cases h) rfl rfl hd _ w (fun ρ h=>by
  simp only[execOp];rw[h x _ hx,h y _ hy];simp[eqGuard,binOp,Op.shift,show¬q<0 from by omega]) k
theorem Rg.or {t t':TypeId} {κ:IntKind} {p q:Int} (hx:ev L x=some (.int κ p)) (hy:ev L y=some (.int κ q)) (hd:Nat.blt d n=true)
  (k:Rg P r n ops rest ((d,.int κ (κ.wrap (BitVec.ofInt κ.bits p|||BitVec.ofInt κ.bits q).toNat))::L) ds w K):
  Rg P r n ops ({dst:=some d,op:= .binOp .or t x y t',type:=ty,pos,after:=af,guard:=none}::rest) L ds w K:= .bin hx hy hd (by simp[binOp,Op.intBits]) k
theorem Rg.andNot {t t':TypeId} {κ:IntKind} {p q:Int} (hx:ev L x=some (.int κ p)) (hy:ev L y=some (.int κ q)) (hd:Nat.blt d n=true)
  (k:Rg P r n ops rest ((d,.int κ (κ.wrap (BitVec.ofInt κ.bits p&&& ~~~ BitVec.ofInt κ.bits q).toNat))::L) ds w K):
  Rg P r n ops ({dst:=some d,op:= .binOp .andNot t x y t',type:=ty,pos,after:=af,guard:=none}::rest) L ds w K:= .bin hx hy hd (by simp[binOp,Op.intBits]) k
theorem Rg.wY {t t':TypeId} {κ:IntKind} {p q:Int} (hx:ev L x=some (.int κ p)) (hy:ev L y=some (.int κ q)) (hd:Nat.blt d n=true)
  (k:Rg P r n ops rest ((d,.bool (decide (p=q)))::L) ds w K):
  Rg P r n ops ({dst:=some d,op:= .binOp .eql t x y t',type:=ty,pos,after:=af,guard:=none}::rest) L ds w K:=
 .bin hx hy hd (by simp[binOp,Op.intCmp];rfl) k
theorem Rg.l0 {t t':TypeId} {κ:IntKind} {p q:Int} (hx:ev L x=some (.int κ p)) (hy:ev L y=some (.int κ q)) (hd:Nat.blt d n=true)
  (k:Rg P r n ops rest ((d,.bool (decide (p≠q)))::L) ds w K):
  Rg P r n ops ({dst:=some d,op:= .binOp .neq t x y t',type:=ty,pos,after:=af,guard:=none}::rest) L ds w K:=
 .bin hx hy hd (by simp[binOp,Op.intCmp];by_cases h:p=q<;>simp[h]) k
theorem Rg.fN {t t':TypeId} {κ:IntKind} {p q:Int} (hx:ev L x=some (.int κ p)) (hy:ev L y=some (.int κ q)) (hd:Nat.blt d n=true)
  (k:Rg P r n ops rest ((d,.bool (decide (p<q)))::L) ds w K):
  Rg P r n ops ({dst:=some d,op:= .binOp .lss t x y t',type:=ty,pos,after:=af,guard:=none}::rest) L ds w K:= .bin hx hy hd (by simp[binOp,Op.intCmp]) k
theorem Rg.nN {t t':TypeId} {κ:IntKind} {p q:Int} (hx:ev L x=some (.int κ p)) (hy:ev L y=some (.int κ q)) (hd:Nat.blt d n=true)
  (k:Rg P r n ops rest ((d,.bool (decide (p≤q)))::L) ds w K):
  Rg P r n ops ({dst:=some d,op:= .binOp .leq t x y t',type:=ty,pos,after:=af,guard:=none}::rest) L ds w K:= .bin hx hy hd (by simp[binOp,Op.intCmp]) k
theorem Rg.tf {t t':TypeId} {κ:IntKind} {p q:Int} (hx:ev L x=some (.int κ p)) (hy:ev L y=some (.int κ q)) (hd:Nat.blt d n=true)
  (k:Rg P r n ops rest ((d,.bool (decide (q<p)))::L) ds w K):
  Rg P r n ops ({dst:=some d,op:= .binOp .gtr t x y t',type:=ty,pos,after:=af,guard:=none}::rest) L ds w K:= .bin hx hy hd (by simp[binOp,Op.intCmp]) k
theorem Rg.kM {t t':TypeId} {κ:IntKind} {p q:Int} (hx:ev L x=some (.int κ p)) (hy:ev L y=some (.int κ q)) (hd:Nat.blt d n=true)
  (k:Rg P r n ops rest ((d,.bool (decide (q≤p)))::L) ds w K):
  Rg P r n ops ({dst:=some d,op:= .binOp .geq t x y t',type:=ty,pos,after:=af,guard:=none}::rest) L ds w K:= .bin hx hy hd (by simp[binOp,Op.intCmp]) k
theorem Rg.conv {s t:TypeId} {κ κ':IntKind} {p:Int} {u:TypeDesc} (hs:P.underlying s=some u) (ht:P.underlying t=some (.int κ')) (hx:ev L x=some (.int κ p)) (hd:Nat.blt d n=true)
  (k:Rg P r n ops rest ((d,.int κ' (κ'.wrap p))::L) ds w K):
  Rg P r n ops ({dst:=some d,op:= .convert s t x,type:=ty,pos,after:=af,guard:=none}::rest) L ds w K:=
 .op (fun _ h=>by cases h) rfl rfl hd _ w (fun ρ h=>by
  simp only[execOp];rw[h x _ hx];simp[convert,run_underlying hs,run_underlying ht,Conv.intToInt]) k
theorem Rg.yE {s t:TypeId} {κ:IntKind} {p:Int} {u:TypeDesc} (hs:P.underlying s=some u) (ht:P.underlying t=some (.int .i64)) (hx:ev L x=some (.int κ p)) (hd:Nat.blt d n=true)
  (hb: -9223372036854775808≤p∧p≤9223372036854775807) (k:Rg P r n ops rest ((d,.int .i64 p)::L) ds w K):
  Rg P r n ops ({dst:=some d,op:= .convert s t x,type:=ty,pos,after:=af,guard:=none}::rest) L ds w K:=
 .conv hs ht hx hd (by rw[IntWalk.i64_in _ hb];exact k)
theorem Rg.min2 {Es:Array TypeId} {κ κ':IntKind} {p q:Int} (hx:ev L x=some (.int κ p)) (hy:ev L y=some (.int κ' q)) (hd:Nat.blt d n=true)
  (k:Rg P r n ops rest ((d,.int κ (min p q))::L) ds w K):
  Rg P r n ops ({dst:=some d,op:= .call {callee:= .builtin .min,args:= #[x,y],argTypes:=Es},type:=ty,pos,after:=af,guard:=none}::rest) L ds w K:=
 .op (fun _ h=>by cases h) rfl rfl hd _ w (fun ρ h=>by
  simp only[execOp,resolve,List.map_toArray,List.map_cons,List.map_nil,h x _ hx,h y _ hy];simp[invoke,builtin,Builtin.min_,Builtin.min2];rw[Int.min_def];split<;>split<;>omega) k
theorem Rg.max2 {Es:Array TypeId} {κ κ':IntKind} {p q:Int} (hx:ev L x=some (.int κ p)) (hy:ev L y=some (.int κ' q)) (hd:Nat.blt d n=true)
  (k:Rg P r n ops rest ((d,.int κ (max p q))::L) ds w K):
  Rg P r n ops ({dst:=some d,op:= .call {callee:= .builtin .max,args:= #[x,y],argTypes:=Es},type:=ty,pos,after:=af,guard:=none}::rest) L ds w K:=
 .op (fun _ h=>by cases h) rfl rfl hd _ w (fun ρ h=>by
  simp only[execOp,resolve,List.map_toArray,List.map_cons,List.map_nil,h x _ hx,h y _ hy];simp[invoke,builtin,Builtin.max_,Builtin.max2];rw[Int.max_def];split<;>split<;>omega) k
theorem Rg.extract {vs:Array Value} {i:Nat} {v:Value} (hx:ev L x=some (.tuple vs)) (hv:vs[i]? =some v) (hd:Nat.blt d n=true) (k:Rg P r n ops rest ((d,v)::L) ds w K):
  Rg P r n ops ({dst:=some d,op:= .extract x i,type:=ty,pos,after:=af,guard:=none}::rest) L ds w K:=
 .op (fun _ h=>by cases h) rfl rfl hd v w (fun ρ h=>by simp only[execOp];rw[h x _ hx];simp[Instr.extract,hv]) k
theorem Rg.cG {t e:TypeId} {α:Type} {A:RT α} {hn:0<A.n} {M:aL} {w1:World} {xs:List α} {v:Value} (ht:P.underlying t=some (.slice e)) (hx:ev L x=some v) (hv:(A.sl hn).V M w1 xs v) (hd:Nat.blt d n=true)
  (k:Rg P r n ops rest ((d,.int .i64 xs.length)::L) ds w K):
  Rg P r n ops ({dst:=some d,op:= .call {callee:= .builtin .len,args:= #[x],argTypes:= #[t]},type:=ty,pos,after:=af,guard:=none}::rest) L ds w K:=by
 obtain⟨a,cap,rfl,_⟩:=ix.1 hv
 exact .op (fun _ h=>by cases h) rfl rfl hd _ w (fun ρ h=>by
  simp only[execOp,resolve,List.map_toArray,List.map_cons,List.map_nil,h x _ hx];simp[invoke,builtin,Builtin.len_,run_underlying ht,goInt]) k
theorem Rg.gp {t e e':TypeId} {α:Type} {A:RT α} {M:aL} {w1:World} {base:Nat} {xs:List α} {v:Value} (ht:P.underlying t=some (.slice e)) (hx:ev L x=some v) (hv:Own A e' M w1 base v xs) (hd:Nat.blt d n=true)
  (k:Rg P r n ops rest ((d,.int .i64 xs.length)::L) ds w K):
  Rg P r n ops ({dst:=some d,op:= .call {callee:= .builtin .len,args:= #[x],argTypes:= #[t]},type:=ty,pos,after:=af,guard:=none}::rest) L ds w K:=by
 obtain⟨a,cap,rfl,_⟩:=hv.isSlice
 exact .op (fun _ h=>by cases h) rfl rfl hd _ w (fun ρ h=>by
  simp only[execOp,resolve,List.map_toArray,List.map_cons,List.map_nil,h x _ hx];simp[invoke,builtin,Builtin.len_,run_underlying ht,goInt]) k
theorem Rg.mh {t:TypeId} {s:ByteArray} (ht:P.underlying t=some .string) (hx:ev L x=some (.string s)) (hd:Nat.blt d n=true)
  (k:Rg P r n ops rest ((d,.int .i64 s.size)::L) ds w K):
  Rg P r n ops ({dst:=some d,op:= .call {callee:= .builtin .len,args:= #[x],argTypes:= #[t]},type:=ty,pos,after:=af,guard:=none}::rest) L ds w K:=
 .op (fun _ h=>by cases h) rfl rfl hd _ w (fun ρ h=>by
  simp only[execOp,resolve,List.map_toArray,List.map_cons,List.map_nil,h x _ hx];simp[invoke,builtin,Builtin.len_,run_underlying ht,goInt]) k
theorem iI (l:List UInt8):(⟨l.toArray⟩:ByteArray).toList=l:=by
 have key:∀(k i:Nat) (acc:List UInt8),i≤l.length→l.length-i=k→ByteArray.toList.loop ⟨l.toArray⟩ i acc=acc.reverse++l.drop i:=by
  intro k
  induction k with
  |zero=>
   intro i acc hi hk;unfold ByteArray.toList.loop;rw[if_neg (by simp[ByteArray.size];omega),List.drop_eq_nil_of_le (by omega)];simp
  |succ k ih=>
   intro i acc hi hk;unfold ByteArray.toList.loop;rw[if_pos (by simp[ByteArray.size];omega),ih (i+1) _ (by omega) (by omega)];have dW:i<l.length:=by omega
   rw[List.drop_eq_getElem_cons dW];simp[ByteArray.get!,getElem!_pos,dW]
 have:=key l.length 0 [] (Nat.zero_le _) (by omega);simpa[ByteArray.toList]using this
theorem Rg.cat {t t':TypeId} {p q:List UInt8} (hx:ev L x=some (.string ⟨p.toArray⟩)) (hy:ev L y=some (.string ⟨q.toArray⟩)) (hd:Nat.blt d n=true) (hb:p.length+q.length≤9223372036854775807)
  (k:Rg P r n ops rest ((d,.string ⟨(p++q).toArray⟩)::L) ds w K):
  Rg P r n ops ({dst:=some d,op:= .binOp .add t x y t',type:=ty,pos,after:=af,guard:=none}::rest) L ds w K:=by
 have e:(⟨p.toArray⟩:ByteArray)++⟨q.toArray⟩=⟨(p++q).toArray⟩:=by apply ByteArray.ext;simp
 refine .op (fun _ h=>by cases h) rfl rfl hd _ w (fun ρ h=>?_) k;simp only[execOp];rw[h x _ hx,h y _ hy];have: ¬(IntKind.max .i64<((ByteArray.size ⟨p.toArray⟩+ByteArray.size ⟨q.toArray⟩:Nat):Int)):=by simp[ByteArray.size,IntKind.max,IntKind.signed,IntKind.bits];omega
 simp[eqGuard,binOp,Op.stringOp,this,e];simp[ByteArray.size];omega
theorem Rg.qJ {t t':TypeId} {p q:List UInt8} (hx:ev L x=some (.string ⟨p.toArray⟩)) (hy:ev L y=some (.string ⟨q.toArray⟩)) (hd:Nat.blt d n=true)
  (k:Rg P r n ops rest ((d,.bool (decide (p=q)))::L) ds w K):
  Rg P r n ops ({dst:=some d,op:= .binOp .eql t x y t',type:=ty,pos,after:=af,guard:=none}::rest) L ds w K:=
 .op (fun _ h=>by cases h) rfl rfl hd _ w (fun ρ h=>by
  simp only[execOp];rw[h x _ hx,h y _ hy];simp[eqGuard,binOp,Op.stringOp,iI];by_cases h:p=q<;>simp[h]) k
theorem Rg.LI {t t':TypeId} {p q:List UInt8} (hx:ev L x=some (.string ⟨p.toArray⟩)) (hy:ev L y=some (.string ⟨q.toArray⟩)) (hd:Nat.blt d n=true)
  (k:Rg P r n ops rest ((d,.bool (decide (p≠q)))::L) ds w K):
  Rg P r n ops ({dst:=some d,op:= .binOp .neq t x y t',type:=ty,pos,after:=af,guard:=none}::rest) L ds w K:=
 .op (fun _ h=>by cases h) rfl rfl hd _ w (fun ρ h=>by
  simp only[execOp];rw[h x _ hx,h y _ hy];simp[eqGuard,binOp,Op.stringOp,iI];by_cases h:p=q<;>simp[h]) k
def JO (L:Sl):List Operand→Option (List Value)
 |[]=>some []
 |x::xs=>match ev L x,JO L xs with
  |some v,some vs=>some (v::vs)
  |_,_=>none
theorem pg {L:Sl} {ρ:Operand→Value} (h:∀x u,ev L x=some u→ρ x=u):∀{xs:List Operand} {vs:List Value},JO L xs=some vs→xs.map ρ=vs
 |[],vs,he=>by simp only[JO]at he;cases he;rfl
 |x::xs,vs,he=>by
  simp only[JO]at he
  split at he
  ·rename_i v us h1 h2
   cases he;simp[h x v h1,pg h h2]
  ·cases he
def Enters (P:Program) (f:FuncId):Prop:=∀args w,(callFunc f args).run P w= .ok (.enter f args) w
theorem enters {f:FuncId} {fn:Func} (hf:P.funcs[f]? =some fn) (hb:fn.body.isNone=false) (hn:(fn.name== "runtime.NumGoroutine")=false):Enters P f:=fun args w=>by
 unfold callFunc;simp only[Sem.run_bind,program,Sem.run,Result.andThen,hf,hn];simp[hb]
theorem Rg.call {f:FuncId} {xs:List Operand} {vs:List Value} {Es:Array TypeId} {Q:Value→World→Prop} (oe:JO L xs=some vs) (hd:Nat.blt d n=true) (he:Enters P f)
  (hs:Spec P f vs.toArray w Q) (k:∀v w',Q v w'→Rg P r n ops rest ((d,v)::L) ds w' K):
  Rg P r n ops ({dst:=some d,op:= .call {callee:= .value (.func f),args:=xs.toArray,argTypes:=Es},type:=ty,pos,after:=af,guard:=none}::rest) L ds w K:=
 .F0 (w1:=w) (fun _ h=>by cases h) rfl rfl hd (fun ρ h=>by
  have h1:=pg h oe;have h2:ρ (.func f)= .func (.func f) #[] #[]:=h _ _ rfl;simp only[execOp,resolve,List.map_toArray,h1,h2];simpa[Deferred.ofValue,invoke]using he _ _) hs k
theorem Rg.qK {f:FuncId} {first captured:List Value} {xs:List Operand} {vs:List Value} {Es:Array TypeId} {Q:Value→World→Prop} (hx:ev L x=some (.func (.func f) first.toArray captured.toArray))
  (oe:JO L xs=some vs) (hd:Nat.blt d n=true) (he:Enters P f)
  (hs:Spec P f (first++vs++captured).toArray w Q) (k:∀v w',Q v w'→Rg P r n ops rest ((d,v)::L) ds w' K):
  Rg P r n ops ({dst:=some d,op:= .call {callee:= .value x,args:=xs.toArray,argTypes:=Es},type:=ty,pos,after:=af,guard:=none}::rest) L ds w K:=
 .F0 (w1:=w) (fun _ h=>by cases h) rfl rfl hd (fun ρ h=>by
  have h1:=pg h oe;simp only[execOp,resolve,List.map_toArray,h1,h x _ hx];simpa[Deferred.ofValue,invoke]using he _ _) hs k
theorem Rg.makeFunc {f:FuncId} {xs ys:List Operand} {vs us:List Value} (oe:JO L xs=some vs) (zM:JO L ys=some us) (hd:Nat.blt d n=true)
  (k:Rg P r n ops rest ((d,.func (.func f) vs.toArray us.toArray)::L) ds w K):
  Rg P r n ops ({dst:=some d,op:= .makeFunc (.func f) xs.toArray ys.toArray,type:=ty,pos,after:=af,guard:=none}::rest) L ds w K:=
 .op (fun _ h=>by cases h) rfl rfl hd _ w (fun ρ h=>by
  simp only[execOp,List.map_toArray,pg h oe,pg h zM];simp[Instr.makeFunc]) k
end
end Go.K
namespace Go.K
def cc {α:Type} (A:RT α) (M:aL) (w:World) (v:Value) (x:α):Prop:=∃b o vs,v= .pointer (some ⟨b,o,none⟩)∧¬M b∧A.R M w x vs∧w.rangeAt b o vs
theorem cc.le {α:Type} {A:RT α} (hn:0<A.n) {M M':aL} {w w':World} {v:Value} {x:α} (hl:Le M w M' w') (h:cc A M w v x):cc A M' w' v x:=by
 obtain⟨b,o,vs,h1,h2,h3,h4⟩:=h;have hp:0<vs.length:=by rw[A.len h3];exact hn
 have hc:=h4 0 (vs[0]'hp) (List.getElem?_eq_getElem hp);exact⟨b,o,vs,h1,(hl b (World.block_lt_of_cell? w _ hc) h2).1,A.le hl h3,qi hl h2 h4⟩
structure Part {α β:Type} (A:RT α) (B:RT β) (f:α→β) (off:Nat):Prop where
 get:∀{M w x vs},A.R M w x vs→∃a b c,vs=a++b++c∧a.length=off∧B.R M w (f x) b
theorem Part.fst {α β:Type} (A:RT α) (B:RT β):Part (A.pair B) A Prod.fst 0:=⟨fun {_ _ _ _} ⟨va,vb,h0,h1,_⟩=>⟨[],va,vb,by simpa using h0,rfl,h1⟩⟩
theorem Part.snd {α β:Type} (A:RT α) (B:RT β):Part (A.pair B) B Prod.snd A.n:=⟨fun {_ _ _ _} ⟨va,vb,h0,h1,h2⟩=>⟨va,vb,[],by simpa using h0,A.len h1,h2⟩⟩
theorem Part.trans {α β γ:Type} {A:RT α} {B:RT β} {C:RT γ} {f:α→β} {g:β→γ} {i j:Nat} (h:Part A B f i) (h':Part B C g j):Part A C (g∘f) (i+j):=
 ⟨fun {_ _ _ _} hx=>by
  obtain⟨a,b,c,h1,h2,h3⟩:=h.get hx;obtain⟨a',b',c',h4,h5,h6⟩:=h'.get h3;exact⟨a++a',b',c'++c,by rw[h1,h4];simp,by rw[List.length_append,h2,h5],h6⟩⟩
theorem cc.part {α β:Type} {A:RT α} {B:RT β} {f:α→β} {off:Nat} (hp:Part A B f off) {M:aL} {w:World} {b o:Nat} {x:α} {vs:List Value} (hm: ¬M b) (hx:A.R M w x vs) (hr:w.rangeAt b o vs):
  cc B M w (.pointer (some ⟨b,o+off,none⟩)) (f x):=by
 obtain⟨a,c,e,h1,h2,h3⟩:=hp.get hx;refine⟨b,o+off,c,rfl,hm,h3,fun j v hv=>?_⟩;have hj:j<c.length:=(List.getElem?_eq_some_iff.1 hv).1
 have:=hr (off+j) v (by
  rw[h1,List.append_assoc,List.getElem?_append_right (by omega),h2,List.getElem?_append_left (by omega)];rw[show off+j-off=j from by omega];exact hv)
 rwa [show o+(off+j)=o+off+j from by omega]at this
def flat:TypeDesc→Bool
 |.struct _| .array _ _=>false
 |_=>true
theorem qL {P:Program} {w:World} {t:TypeId} {u:TypeDesc} (hu:P.underlying t=some u) (hf:flat u=true) {b o:Nat} {v:Value} (hc:w.cell? ⟨b,o,none⟩=some v):
  (Instr.loadAt t (.pointer (some ⟨b,o,none⟩))).run P w= .ok v w:=by
 have F2:(isAgg t).run P w= .ok false w:=by
  unfold isAgg;rw[Sem.run_bind,run_underlying hu w]
  cases u<;>simp_all [flat,Result.andThen]
 simp[Instr.loadAt,Instr.sureAddr,loadVar,F2,load,Sem.run,hc]
theorem xg {P:Program} {w:World} {t:TypeId} {z:Value} {bytes:Nat} (ht:TI P t z 1 bytes) {b o:Nat} {v:Value} (h1:v.oneCell'=true) (hc:(w.cell? ⟨b,o,none⟩).isSome=true) (hf:w.frozen? ⟨b,o,none⟩=false):
  (Instr.storeAt t (.pointer (some ⟨b,o,none⟩)) v).run P w= .ok () (w.setCell ⟨b,o,none⟩ v):=by
 obtain⟨u,hu⟩:=Option.isSome_iff_exists.1 hc;have hv:v.cells= #[v]:=by cases v<;>simp_all [Value.oneCell',Value.cells]
 simp only[Instr.storeAt,Instr.sureAddr,storeVar,Sem.run_bind,Sem.run_pure,Result.andThen_ok,ht.sizeOf,hv];simp only[List.size_toArray,List.length_cons,List.length_nil,ne_eq,not_true_eq_false,if_false,storeCells,Addr.add_mid]
 cases v<;>simp_all [store,Sem.run,Value.oneCell']
section
variable {P:Program} {r:Option Nat} {n:Nat} {L:Sl} {ds:List Deferred} {w:World} {K:Kt} {ops:Array Oper} {rest:List Oper}
variable {d:Nat} {ty:TypeId} {pos:String} {af:Array Edge} {x y z:Operand} {α:Type} {A:RT α}
theorem Rg.idx {t e:TypeId} {i:Operand} {κ:IntKind} {j:Int} {hn:0<A.n} {M M1:aL} {w1:World} {xs:List α} {v zv:Value} {bytes:Nat} (ht:P.underlying t=some (.slice e)) (hi:TI P e zv A.n bytes)
  (hx:ev L x=some v) (Nn:ev L i=some (.int κ j)) (hd:Nat.blt d n=true) (hv:(A.sl hn).V M1 w1 xs v) (hle:Le M1 w1 M w) (hj:0≤j∧j<xs.length)
  (k:∀u a,xs[j.toNat]? =some a→cc A M w u a→Rg P r n ops rest ((d,u)::L) ds w K):
  Rg P r n ops ({dst:=some d,op:= .indexAddr t x i,type:=ty,pos,after:=af,guard:=none}::rest) L ds w K:=by
 obtain⟨a,cap,rfl,hc,hl,hs⟩:=ix.1 (hv.le hle);have dW:j.toNat<xs.length:=by omega
 rcases hs with rfl|⟨b,o,rfl,hm,Et⟩
 ·simp at dW
 ·obtain⟨vs,h1,h2⟩:=Et _ _ (List.getElem?_eq_getElem dW);refine .op (fun _ h=>by cases h) rfl rfl hd (.pointer (some ⟨b,o+j.toNat*A.n,none⟩)) w (fun ρ h=>?_) (k _ xs[j.toNat] (List.getElem?_eq_getElem dW) ⟨b,_,vs,rfl,hm,h1,h2⟩);simp only[execOp,h x _ hx,h i _ Nn];simp[Instr.indexAt,run_underlying ht,asIntOf,hj,hi.sizeOf,Addr.add_mid]
theorem Rg.load {t:TypeId} {u:TypeDesc} {M M1:aL} {w1:World} {p:Value} {a:α} (hu:P.underlying t=some u) (hf:flat u=true) (hA:A.n=1) (hg:A.agg=false)
  (hx:ev L x=some p) (hd:Nat.blt d n=true) (hp:cc A M1 w1 p a) (hle:Le M1 w1 M w) (k:∀v,A.V M w a v→Rg P r n ops rest ((d,v)::L) ds w K):
  Rg P r n ops ({dst:=some d,op:= .load t x,type:=ty,pos,after:=af,guard:=none}::rest) L ds w K:=by
 obtain⟨b,o,vs,rfl,hm,h1,h2⟩:=hp.le (by omega) hle;have hl:=A.len h1
 match vs,hl with
 |[v],_=>
  refine .op (fun _ h=>by cases h) rfl rfl hd v w (fun ρ h=>?_) (k v ⟨[v],h1,by simp[RT.val,hg]⟩);simp only[execOp,h x _ hx];have:=qL (P:=P) hu hf (h2 0 v rfl);simp only[Nat.add_zero]at this;rw[Sem.run_bind,this];simp
 |[],hl=>simp at hl;omega
 |_::_::_,hl=>simp at hl;omega
theorem Rg.JP {t:TypeId} {κ:IntKind} {M1:aL} {w1:World} {p:Value} {a:Int} (hu:P.underlying t=some (.int κ)) (hx:ev L x=some p) (hd:Nat.blt d n=true) {M:aL} (hp:cc (RT.int κ) M1 w1 p a)
  (hle:Le M1 w1 M w) (k:κ.min≤a→a≤κ.max→Rg P r n ops rest ((d,.int κ a)::L) ds w K):
  Rg P r n ops ({dst:=some d,op:= .load t x,type:=ty,pos,after:=af,guard:=none}::rest) L ds w K:=
 .load hu rfl rfl rfl hx hd hp hle fun v hv=>by obtain⟨rfl,h1,h2⟩:=LH.1 hv;exact k h1 h2
theorem fM {hn:0<A.n} {M:aL} {w:World} {xs:List α} {v:Value} (h:(A.sl hn).V M w xs v):v.cells= #[v]:=by
 obtain⟨a,cap,rfl,_⟩:=ix.1 h;rfl
theorem gC {M:aL} {w:World} {x:Int} (h: -9223372036854775808≤x∧x≤9223372036854775807):(RT.int .i64).V M w x (.int .i64 x):=LH.2 ⟨rfl,h.1,h.2⟩
theorem Rg.cD {t:TypeId} {M1:aL} {w1:World} {p:Value} {a:Int} (hu:P.underlying t=some (.int .i64)) (hx:ev L x=some p) (hd:Nat.blt d n=true) {M:aL} (hp:cc (RT.int .i64) M1 w1 p a)
  (hle:Le M1 w1 M w) (k: -9223372036854775808≤a∧a≤9223372036854775807→Rg P r n ops rest ((d,.int .i64 a)::L) ds w K):
  Rg P r n ops ({dst:=some d,op:= .load t x,type:=ty,pos,after:=af,guard:=none}::rest) L ds w K:=
 .JP hu hx hd hp hle fun h1 h2=>k ⟨h1,h2⟩
theorem yF {hn:0<(RT.int .i64).n} {M:aL} {w:World} {xs:List Int} {v:Value} (h:((RT.int .i64).sl hn).V M w xs v) {i:Nat} {x:Int} (hx:xs[i]? =some x): -9223372036854775808≤x∧x≤9223372036854775807:=by
 obtain⟨a,cap,_,_,_,hs⟩:=ix.1 h;rcases hs with rfl|⟨b,o,_,_,Et⟩
 ·simp at hx
 ·obtain⟨vs,h1,_⟩:=Et i x hx;exact⟨h1.2.1,h1.2.2⟩
theorem Rg.No {t:TypeId} {M1:aL} {w1:World} {p:Value} {a:UInt8} (hu:P.underlying t=some (.int .u8)) (hx:ev L x=some p) (hd:Nat.blt d n=true) {M:aL} (hp:cc RT.u8 M1 w1 p a)
  (hle:Le M1 w1 M w) (k:Rg P r n ops rest ((d,.int .u8 a.toNat)::L) ds w K):
  Rg P r n ops ({dst:=some d,op:= .load t x,type:=ty,pos,after:=af,guard:=none}::rest) L ds w K:=
 .load hu rfl rfl rfl hx hd hp hle fun v hv=>by rw[F1.1 hv];exact k
theorem Rg.cN {t:TypeId} {fs:TypeDesc} {zv:Value} {bytes:Nat} {M M1:aL} {w1:World} {p:Value} {a:α} (hu:P.underlying t=some fs) (hf:fs.isRow=true) (hi:TI P t zv A.n bytes) (hA:0<A.n) (hg:A.agg=true)
  (hx:ev L x=some p) (hd:Nat.blt d n=true) (hp:cc A M1 w1 p a) (hle:Le M1 w1 M w) (k:∀v,A.V M w a v→Rg P r n ops rest ((d,v)::L) ds w K):
  Rg P r n ops ({dst:=some d,op:= .load t x,type:=ty,pos,after:=af,guard:=none}::rest) L ds w K:=by
 obtain⟨b,o,vs,rfl,hm,h1,h2⟩:=hp.le hA hle;refine .op (fun _ h=>by cases h) rfl rfl hd (.agg vs.toArray) w (fun ρ h=>?_) (k _ ⟨vs,h1,by simp[RT.val,hg]⟩);simp only[execOp,h x _ hx];obtain⟨i,wZ,_,zN,_⟩:=hi.get;have:=run_loadAt_mid (P:=P) w b o t vs fs h2 hu hf (by simp[wZ,zN,A.len h1]);simp[this]
theorem Rg.fieldAddr {β:Type} {B:RT β} {f:α→β} {off:Nat} {s:TypeId} {fs:Array Field} {fd:Field} {j:Nat} {zv:Value} {bytes:Nat} {M M1:aL} {w1:World} {p:Value} {a:α}
  (hu:P.underlying s=some (.struct fs)) (F3:fs[j]? =some fd) (ho:fd.offset=off) (hi:TI P fd.type zv B.n bytes) (hB:0<B.n) (hp:Part A B f off)
  (hx:ev L x=some p) (hd:Nat.blt d n=true) (hA:0<A.n) (Rf:cc A M1 w1 p a) (hle:Le M1 w1 M w) (k:∀u,cc B M w u (f a)→Rg P r n ops rest ((d,u)::L) ds w K):
  Rg P r n ops ({dst:=some d,op:= .fieldAddr s x j,type:=ty,pos,after:=af,guard:=none}::rest) L ds w K:=by
 obtain⟨b,o,vs,rfl,hm,h1,h2⟩:=Rf.le hA hle;refine .op (fun _ h=>by cases h) rfl rfl hd _ w (fun ρ h=>?_) (k _ (cc.part hp hm h1 h2));simp only[execOp,h x _ hx];simp[Instr.fieldAt,run_underlying hu,F3,Instr.sureAddr,fieldPlace,hi.sizeOf,show B.n≠0 from by omega,ho,Addr.add_mid]
theorem rU.slice {M:aL} {w:World} {a:Option Addr} {xs:List α} (lo hi cap m:Nat) (h1:lo≤hi) (h2:hi≤xs.length) (hm:hi≤m) (hs:rU A M w a xs):
  rU A M w (if m=lo then a else a.map (·.add (lo*A.n))) ((xs.take hi).drop lo):=by
 by_cases rV:m=lo
 ·left;apply List.drop_eq_nil_of_le;rw[List.length_take];omega
 ·rw[if_neg rV];rcases hs with rfl|⟨b,o,rfl,h3,h4⟩
  ·left;simp
  ·right;refine⟨b,o+lo*A.n,by simp[Addr.add_mid],h3,fun i x hx=>?_⟩;rw[List.getElem?_drop,List.getElem?_take]at hx
   split at hx
   ·obtain⟨vs,h5,h6⟩:=h4 _ _ hx;refine⟨vs,h5,?_⟩;rw[show o+lo*A.n+i*A.n=o+(lo+i)*A.n from by rw[Nat.add_mul];omega];exact h6
   ·cases hx
theorem kb {t e:TypeId} (ht:P.underlying t=some (.slice e)):P.underlying t=some (.slice (P.elem t)):=by simp[Program.elem,ht]
theorem qM {t e:TypeId} (ht:P.underlying t=some (.slice e)):P.elem t=e:=by simp[Program.elem,ht]
theorem Rg.F4 {t e:TypeId} {l h:Operand} {κ κ':IntKind} {lo hi:Int} {hn:0<A.n} {M:aL} {w1:World} {xs:List α} {v zv:Value} {bytes:Nat} (ht:P.underlying t=some (.slice e)) (JQ:TI P e zv A.n bytes)
  (hx:ev L x=some v) (hl:ev L l=some (.int κ lo)) (hh:ev L h=some (.int κ' hi)) (hd:Nat.blt d n=true) (hv:(A.sl hn).V M w1 xs v) (hb:0≤lo∧lo≤hi∧hi≤xs.length)
  (k:∀u,(A.sl hn).V M w1 ((xs.take hi.toNat).drop lo.toNat) u→Rg P r n ops rest ((d,u)::L) ds w K):
  Rg P r n ops ({dst:=some d,op:= .slice t x (some l) (some h) none,type:=ty,pos,after:=af,guard:=none}::rest) L ds w K:=by
 obtain⟨a,cap,rfl,hc,hlen,hs⟩:=ix.1 hv;have mD:((xs.take hi.toNat).drop lo.toNat).length=hi.toNat-lo.toNat:=by rw[List.length_drop,List.length_take];omega
 refine .op (fun _ h=>by cases h) rfl rfl hd (sliced a lo.toNat hi.toNat cap A.n) w (fun ρ hρ=>?_) (k _ (ix.2 ⟨_,cap-lo.toNat,?_,by omega,by omega,hs.slice lo.toNat hi.toNat cap cap (by omega) (by omega) (by omega)⟩))
 ·simp only[execOp,hρ x _ hx,Option.map_some,Option.map_none,hρ l _ hl,hρ h _ hh];rw[Sem.run_bind,run_sliceAt_slice _ _ _ _ _ _ (kb ht),run_slice_lh _ _ _ _ _ (kb ht) _ _ _ _ hb.1 hb.2.1 (by omega),qM ht,JQ.sizeOf];simp
 ·rw[mD];rfl
theorem Rg.qN {t e:TypeId} {h:Operand} {κ':IntKind} {hi:Int} {hn:0<A.n} {M:aL} {w1:World} {xs:List α} {v zv:Value} {bytes:Nat} (ht:P.underlying t=some (.slice e)) (JQ:TI P e zv A.n bytes)
  (hx:ev L x=some v) (hh:ev L h=some (.int κ' hi)) (hd:Nat.blt d n=true) (hv:(A.sl hn).V M w1 xs v) (hb:0≤hi∧hi≤xs.length)
  (k:∀u,(A.sl hn).V M w1 (xs.take hi.toNat) u→Rg P r n ops rest ((d,u)::L) ds w K):
  Rg P r n ops ({dst:=some d,op:= .slice t x none (some h) none,type:=ty,pos,after:=af,guard:=none}::rest) L ds w K:=by
 obtain⟨a,cap,rfl,hc,hlen,hs⟩:=ix.1 hv;have mD:(xs.take hi.toNat).length=hi.toNat:=by rw[List.length_take];omega
 have Cc:=hs.slice (A:=A) 0 hi.toNat cap cap (by omega) (by omega) (by omega);rw[List.drop_zero]at Cc;refine .op (fun _ h=>by cases h) rfl rfl hd (sliced a 0 hi.toNat cap A.n) w (fun ρ hρ=>?_) (k _ (ix.2 ⟨_,cap,?_,by omega,by omega,Cc⟩))
 ·simp only[execOp,hρ x _ hx,Option.map_some,Option.map_none,hρ h _ hh];rw[Sem.run_bind,run_sliceAt_slice _ _ _ _ _ _ (kb ht),run_slice_h _ _ _ _ _ (kb ht) _ _ hb.1 (by omega),qM ht,JQ.sizeOf];simp
 ·rw[mD];simp[sliced]
theorem Rg.nf {t e:TypeId} {l:Operand} {κ:IntKind} {lo:Int} {hn:0<A.n} {M:aL} {w1:World} {xs:List α} {v zv:Value} {bytes:Nat} (ht:P.underlying t=some (.slice e)) (JQ:TI P e zv A.n bytes)
  (hx:ev L x=some v) (hl:ev L l=some (.int κ lo)) (hd:Nat.blt d n=true) (hv:(A.sl hn).V M w1 xs v) (hb:0≤lo∧lo≤xs.length)
  (k:∀u,(A.sl hn).V M w1 (xs.drop lo.toNat) u→Rg P r n ops rest ((d,u)::L) ds w K):
  Rg P r n ops ({dst:=some d,op:= .slice t x (some l) none none,type:=ty,pos,after:=af,guard:=none}::rest) L ds w K:=by
 obtain⟨a,cap,rfl,hc,hlen,hs⟩:=ix.1 hv;have mD:(xs.drop lo.toNat).length=xs.length-lo.toNat:=by rw[List.length_drop]
 have Cc:=hs.slice (A:=A) lo.toNat xs.length cap cap (by omega) (by omega) (by omega);rw[List.take_length]at Cc;refine .op (fun _ h=>by cases h) rfl rfl hd (sliced a lo.toNat xs.length cap A.n) w (fun ρ hρ=>?_) (k _ (ix.2 ⟨_,cap-lo.toNat,?_,by omega,by omega,Cc⟩))
 ·simp only[execOp,hρ x _ hx,Option.map_some,Option.map_none,hρ l _ hl];rw[Sem.run_bind,run_sliceAt_slice _ _ _ _ _ _ (kb ht),run_slice_l _ _ _ _ _ (kb ht) _ _ hb.1 (by omega),qM ht,JQ.sizeOf];simp
 ·rw[mD];rfl
theorem Rg.Cd {t e:TypeId} {h m:Operand} {κ κ':IntKind} {hi mx:Int} {hn:0<A.n} {M:aL} {w1:World} {xs:List α} {v zv:Value} {bytes:Nat} (ht:P.underlying t=some (.slice e)) (JQ:TI P e zv A.n bytes)
  (hx:ev L x=some v) (hh:ev L h=some (.int κ hi)) (hm:ev L m=some (.int κ' mx)) (hd:Nat.blt d n=true) (hv:(A.sl hn).V M w1 xs v) (hb:hi=xs.length∧mx=xs.length)
  (k:∀a,(A.sl hn).V M w1 xs (.slice a xs.length xs.length)→(a=none→xs=[])→Rg P r n ops rest ((d,.slice a xs.length xs.length)::L) ds w K):
  Rg P r n ops ({dst:=some d,op:= .slice t x none (some h) (some m),type:=ty,pos,after:=af,guard:=none}::rest) L ds w K:=by
 obtain⟨a,cap,rfl,hc,hlen,hs⟩:=ix.1 hv;obtain⟨rfl,rfl⟩:=hb;refine .op (fun _ h=>by cases h) rfl rfl hd (.slice a xs.length xs.length) w (fun ρ hρ=>?_) (k a (ix.2 ⟨_,xs.length,rfl,Nat.le_refl _,hlen,hs⟩) ?_)
 ·simp only[execOp,hρ x _ hx,Option.map_some,Option.map_none,hρ h _ hh,hρ m _ hm];rw[Sem.run_bind,run_sliceAt_slice _ _ _ _ _ _ (kb ht),run_slice_hm _ _ _ _ _ (kb ht) _ _ _ _ (by omega) (by omega) (by omega),qM ht,JQ.sizeOf];simp only[Result.andThen_ok,sliced,Int.toNat_natCast,Nat.zero_mul,Nat.sub_zero,Sem.run_pure];by_cases h0:xs.length=0
  ·simp[h0]
  ·rw[if_neg h0];rcases hs with rfl|⟨b,o,rfl,_⟩
   ·simp at h0
   ·simp[Addr.add_mid]
 ·rintro rfl;rcases hs with h|⟨b,o,h,_⟩
  ·exact h
  ·cases h
theorem cJ (w:World) (o:Obj):(w.alloc o).heap[w.heap.size]? =some o:=heap_alloc_new w o
theorem Rg.box {e:TypeId} {v:Value} (M:aL) (hx:ev L x=some v) (hd:Nat.blt d n=true)
  (k:∀b w',w.heap.size≤b→b<w'.heap.size→w'.heap[b]? =some (.cells v.cells e (0,0))→Step M w (ins M b) w' aE→Rg P r n ops rest ((d,.pointer (some ⟨b,0,none⟩))::L) ds w' K):
  Rg P r n ops ({dst:=some d,op:= .box e x,type:=ty,pos,after:=af,guard:=none}::rest) L ds w K:=by
 refine .op (fun _ h=>by cases h) rfl rfl hd _ (w.alloc (.cells v.cells e)) (fun ρ hρ=>?_) (k w.heap.size _ (Nat.le_refl _) (by simp) (cJ w _) ((dv M w _).own (Nat.le_refl _) (by simp)));simp only[execOp,hρ x _ hx];simp[Instr.box,newVar,newRow,newObj,Sem.run]
theorem Rg.alloc {e:TypeId} {zv:Value} {size bytes:Nat} (M:aL) (hi:TI P e zv size bytes) (hd:Nat.blt d n=true)
  (k:∀b w',w.heap.size≤b→b<w'.heap.size→w'.heap[b]? =some (.cells zv.cells e (0,0))→Step M w (ins M b) w' aE→Rg P r n ops rest ((d,.pointer (some ⟨b,0,none⟩))::L) ds w' K):
  Rg P r n ops ({dst:=some d,op:= .alloc e,type:=ty,pos,after:=af,guard:=none}::rest) L ds w K:=by
 obtain⟨i,h1,h2,h3,h4⟩:=hi.get;refine .op (fun _ h=>by cases h) rfl rfl hd _ (w.alloc (.cells zv.cells e)) (fun ρ hρ=>?_) (k w.heap.size _ (Nat.le_refl _) (by simp) (cJ w _) ((dv M w _).own (Nat.le_refl _) (by simp)));simp only[execOp];simp[Instr.alloc,zeroValue,typeInfo,h1,h2,newVar,newRow,newObj,Sem.run]
theorem iJ {b o:Nat} {cs:Array Value} {e:TypeId} {fr:Nat×Nat} {v:Value} (hb:w.heap[b]? =some (.cells cs e fr)) (hv:cs[o]? =some v):w.cell? ⟨b,o,none⟩=some v:=by
 simp[World.cell?,hb,hv]
theorem Rg.b5 {t:TypeId} {u:TypeDesc} {b o:Nat} {cs:Array Value} {e:TypeId} {fr:Nat×Nat} {v:Value} (hu:P.underlying t=some u) (hf:flat u=true) (hx:ev L x=some (.pointer (some ⟨b,o,none⟩))) (hd:Nat.blt d n=true)
  (hb:w.heap[b]? =some (.cells cs e fr)) (hv:cs[o]? =some v) (k:Rg P r n ops rest ((d,v)::L) ds w K):
  Rg P r n ops ({dst:=some d,op:= .load t x,type:=ty,pos,after:=af,guard:=none}::rest) L ds w K:=
 .op (fun _ h=>by cases h) rfl rfl hd v w (fun ρ hρ=>by
  simp only[execOp,hρ x _ hx];rw[Sem.run_bind,qL (P:=P) hu hf (iJ hb hv)];simp) k
theorem uB {b o:Nat} {cs:Array Value} {e:TypeId} {fr:Nat×Nat} {v:Value} (hb:w.heap[b]? =some (.cells cs e fr)):(w.setCell ⟨b,o,none⟩ v).heap[b]? =some (.cells (cs.setIfInBounds o v) e fr):=by
 simp[World.setCell,Array.getElem?_modify,hb]
theorem qO (M:aL) {b o:Nat} {v:Value} (hm:M b):Step M w M (w.setCell ⟨b,o,none⟩ v) (fun k=>k=b):=
 ⟨fun h b hb=>by simpa[World.setCell]using h b hb,rfl,rfl,rfl,by simp[World.setCell],fun _ _=>Iff.rfl,fun k _ hn=>Go.RowKit.Below.heap_setCell w _ v k hn,fun k hk=>by subst hk;exact hm⟩
theorem Rg.dg {t:TypeId} {zv:Value} {bytes:Nat} {b o:Nat} {cs:Array Value} {e:TypeId} {u v:Value} {M:aL} (hi:TI P t zv 1 bytes) (hx:ev L x=some (.pointer (some ⟨b,o,none⟩))) (hy:ev L y=some v)
  (hb:w.heap[b]? =some (.cells cs e (0,0))) (hv:cs[o]? =some u) (h1:v.oneCell'=true) (hm:M b)
  (k:∀w',w'.heap[b]? =some (.cells (cs.setIfInBounds o v) e (0,0))→Step M w M w' (fun k=>k=b)→Rg P r n ops rest L ds w' K):
  Rg P r n ops ({dst:=none,op:= .store t x y,type:=ty,pos,after:=af,guard:=none}::rest) L ds w K:=by
 refine .Rb (fun _ h=>by cases h) rfl rfl (w.setCell ⟨b,o,none⟩ v) (fun ρ hρ=>?_) (k _ (uB hb) (qO M hm));simp only[execOp,hρ x _ hx,hρ y _ hy];have:=xg (P:=P) hi (w:=w) (b:=b) (o:=o) h1 (by rw[iJ hb hv];rfl) (by simp[World.frozen?,hb]);simp[this]
theorem F5 (size:Nat) (zs vs:Array Value) (v:Value) (hz:zs.size=size) (hv:v.cells=vs) (hs:vs.size=size):Instr.fill (fun i=>some (i*size,size)) zs [(0,v)]=some vs:=by
 simp only[Instr.fill,hv,hs,Nat.zero_mul,Nat.zero_add,hz];simp only[ne_eq,not_true_eq_false,decide_false,Bool.false_or,Nat.lt_irrefl,decide_false,gt_iff_lt,if_false,Bool.false_eq_true];congr 1
 have key:∀(l:List Value) (k:Nat) (cs:Array Value),k+l.length=cs.size→∀j:Nat,((l.zipIdx k).foldl (fun(cs:Array Value) (x:Value×Nat)=>cs.setIfInBounds x.2 x.1) cs)[j]? =if j<k then cs[j]? else l[j-k]? :=by
  intro l
  induction l with
  |nil=>
   intro k cs hk j;simp at hk ⊢;intro h;omega
  |cons a l ih=>
   intro k cs hk j;simp only[List.zipIdx_cons,List.foldl_cons];rw[ih (k+1) _ (by simp at hk ⊢;omega) j];rw[Array.getElem?_setIfInBounds];simp at hk;by_cases h1:j<k
   ·rw[if_pos (by omega),if_pos h1,if_neg (by omega)]
   ·by_cases h2:j=k
    ·subst h2;rw[if_pos (by omega),if_pos rfl,if_neg h1];simp;omega
    ·rw[if_neg (by omega),if_neg h1,show j-k=(j-(k+1))+1 from by omega];simp
 apply Array.ext_getElem?;intro j;have:=key vs.toList 0 zs (by simp[hs,hz]) j;simp only[Nat.not_lt_zero,if_false,Nat.sub_zero,Array.getElem?_toList]at this;rw[←this];rw[←Array.foldl_toList];simp[Array.toList_zipIdx]
theorem Rg.k8 {t e:TypeId} {zv v:Value} {bytes:Nat} {hn:0<A.n} {M:aL} {a:α} (ht:P.underlying t=some (.slice e)) (hi:TI P e zv A.n bytes) (yG:A.n≤1000) (hx:ev L x=some v) (hd:Nat.blt d n=true) (hm:Lt M w)
  (hv:A.V M w a v) (zO:A.agg=true∨A.n=1∧A.agg=false) (k:∀u w',(A.sl hn).V M w' [a] u→Step M w M w' aE→Rg P r n ops rest ((d,u)::L) ds w' K):
  Rg P r n ops ({dst:=some d,op:= .buildSlice t 1 #[(0,x)],type:=ty,pos,after:=af,guard:=none}::rest) L ds w K:=by
 obtain⟨vs,h1,h2⟩:=hv;have hl:=A.len h1;have rW:=A.one h1
 have hc:v.cells=vs.toArray:=by
  subst h2;rcases zO with hg|⟨h3,hg⟩
  ·simp[RT.val,hg,Value.cells]
  ·match vs,hl,h3 with
   |[u],_,_=>
    have:=rW u (by simp);simp only[RT.val,hg,List.headD_cons]
    cases u<;>simp_all [Value.cells,Value.oneCell']
   |[],hl,h3=>simp at hl;omega
   |_::_::_,hl,h3=>simp at hl;omega
 obtain⟨i,wZ,zN,Xh,Wq⟩:=hi.get;have hs:=dv M w (.cells vs.toArray e)
 refine .op (fun _ h=>by cases h) rfl rfl hd (.slice (some ⟨w.heap.size,0,none⟩) 1 1) (w.alloc (.cells vs.toArray e)) (fun ρ hρ=>?_)
  (k _ _ (ix.2 ⟨_,1,rfl,Nat.le_refl _,by simp,.inr ⟨w.heap.size,0,rfl,fun h=>by have:=hm _ h;omega,fun i x hx=>?_⟩⟩) hs)
 ·simp only[execOp,List.map_toArray,List.map_cons,List.map_nil,hρ x _ hx];simp only[Instr.buildSlice,Sem.run_bind,run_underlying ht,Result.andThen_ok,hi.sizeOf,Nat.one_mul];rw[if_neg (by omega),if_neg (by omega)];simp only[Sem.run_bind,zeroValue,typeInfo,program,Sem.run,wZ,zN,Result.andThen_ok,Sem.run_pure];rw[F5 A.n _ vs.toArray v (by simp) hc (by simpa using hl)];simp[newRow,newObj,Sem.run]
 ·cases i with
  |zero=>
   simp at hx;subst hx;refine⟨vs,A.le hs.le h1,fun j u hu=>?_⟩;exact iJ (cJ w _) (by simpa using hu)
  |succ i=>simp at hx
theorem xG (size:Nat) (zs:Array Value) (i:Nat) (v:Value) (vs:List Value) (rest:List (Nat×Value)) (hv:v.cells=vs.toArray) (hs:vs.length=size) (hz:i*size+size≤zs.size):
  ∃JR,Instr.fill (fun i=>some (i*size,size)) zs ((i,v)::rest)=Instr.fill (fun i=>some (i*size,size)) JR rest∧JR.size=zs.size∧
   ∀j,JR[j]? =if i*size≤j∧j<i*size+size then vs[j-i*size]? else zs[j]? :=by
 have key:∀(l:List Value) (k o:Nat) (cs:Array Value),o+k+l.length≤cs.size→((l.zipIdx k).foldl (fun(cs:Array Value) (x:Value×Nat)=>cs.setIfInBounds (o+x.2) x.1) cs).size=cs.size∧
   ∀j:Nat,((l.zipIdx k).foldl (fun(cs:Array Value) (x:Value×Nat)=>cs.setIfInBounds (o+x.2) x.1) cs)[j]? =if o+k≤j∧j<o+k+l.length then l[j-(o+k)]? else cs[j]? :=by
  intro l
  induction l with
  |nil=>
   intro k o cs hk;refine⟨rfl,fun j=>?_⟩;simp;intro h1 h2;omega
  |cons a l ih=>
   intro k o cs hk;simp only[List.zipIdx_cons,List.foldl_cons];simp only[List.length_cons]at hk;obtain⟨h1,h2⟩:=ih (k+1) o (cs.setIfInBounds (o+k) a) (by simp;omega);refine⟨by rw[h1];simp,fun j=>?_⟩;rw[h2 j,Array.getElem?_setIfInBounds,List.length_cons];by_cases h3:o+(k+1)≤j∧j<o+(k+1)+l.length
   ·rw[if_pos h3,if_pos (by omega),show j-(o+k)=(j-(o+(k+1)))+1 from by omega];simp
   ·rw[if_neg h3];by_cases h4:o+k=j
    ·subst h4;rw[if_pos rfl,if_pos (by omega),if_pos (by omega)];simp
    ·rw[if_neg h4,if_neg (by omega)]
 obtain⟨k1,k2⟩:=key vs 0 (i*size) zs (by omega);refine⟨_,?_,k1,fun j=>?_⟩
 ·conv=>lhs;rw[Instr.fill]
  simp only[hv,hs];simp[hs,show¬(zs.size<i*size+size) by omega]
 ·rw[k2 j,Nat.add_zero,hs]
def Np {α:Type} (A:RT α) (M:aL) (w:World) (L:List (Nat×Value)):Nat→List (Nat×Operand)→List α→Prop
 |_,[],xs=>xs=[]
 |i,p::ps,xs=>∃a ad v,xs=a::ad∧p.1=i∧ev L p.2=some v∧A.V M w a v∧Np A M w L (i+1) ps ad
theorem F6 {α:Type} {A:RT α} {M:aL} {w:World} {a:α} {vs:List Value} (h1:A.R M w a vs) (zO:A.agg=true∨A.n=1∧A.agg=false):(A.val vs).cells=vs.toArray:=by
 have hl:=A.len h1;have rW:=A.one h1;rcases zO with hg|⟨h3,hg⟩
 ·simp[RT.val,hg,Value.cells]
 ·match vs,hl,h3 with
  |[u],_,_=>
   have:=rW u (by simp);simp only[RT.val,hg,List.headD_cons]
   cases u<;>simp_all [Value.cells,Value.oneCell']
  |[],hl,h3=>simp at hl;omega
  |_::_::_,hl,h3=>simp at hl;omega
theorem Ae {α:Type} {A:RT α} {M:aL} {w:World} {L:List (Nat×Value)} (zO:A.agg=true∨A.n=1∧A.agg=false):∀(ps:List (Nat×Operand)) (i:Nat) (xs:List α) (zs:Array Value),
  Np A M w L i ps xs→zs.size=(i+xs.length)*A.n→
  ∃(fV:List (Nat×Value)) (C:List Value) (JR:Array Value),(∀ρ:Operand→Value,(∀x v,ev L x=some v→ρ x=v)→ps.map (fun p=>(p.1,ρ p.2))=fV)∧fu A M w xs C∧Instr.fill (fun i=>some (i*A.n,A.n)) zs fV=some JR∧JR.size=zs.size∧
   ∀j,JR[j]? =if i*A.n≤j then C[j-i*A.n]? else zs[j]?
 |[],i,xs,zs,hp,hz=>by
  cases hp;refine⟨[],[],zs,fun ρ _=>rfl,rfl,rfl,rfl,fun j=>?_⟩
  split
  ·simp at hz ⊢;omega
  ·rfl
 |p::ps,i,xs,zs,hp,hz=>by
  obtain⟨a,ad,v,rfl,hpi,FN,hv,hr⟩:=hp;obtain⟨vs,h1,h2⟩:=hv;have hc:=F6 h1 zO;rw[←h2]at hc;have hl:=A.len h1;have hmul:(i+(a::ad).length)*A.n=i*A.n+A.n+ad.length*A.n:=by rw[List.length_cons,Nat.add_mul,Nat.add_mul];omega
  obtain⟨z1,e1,e2,e3⟩:=xG A.n zs i v vs (ps.map fun _=>(0,undef)) hc hl (by rw[hz,hmul];omega);obtain⟨fV,C,z2,f1,f2,f3,f4,f5⟩:=Ae zO ps (i+1) ad z1 hr (by rw[e2,hz,List.length_cons,show i+1+ad.length=i+(ad.length+1)from by omega]);obtain⟨z1',e1',e2',e3'⟩:=xG A.n zs i v vs fV hc hl (by rw[hz,hmul];omega);have hzz:z1=z1':=Array.ext_getElem? fun j=>by rw[e3 j,e3' j]
  subst hzz;refine⟨(i,v)::fV,vs++C,z2,fun ρ hρ=>by rw[List.map_cons,f1 ρ hρ,hpi,hρ _ _ FN],⟨vs,C,rfl,h1,f2⟩,by rw[e1',f3],by rw[f4,e2],fun j=>?_⟩;rw[f5 j,e3 j,Nat.add_mul,Nat.one_mul];by_cases h3:i*A.n+A.n≤j
  ·rw[if_pos h3,if_pos (by omega),List.getElem?_append_right (by omega),hl,show j-i*A.n-A.n=j-(i*A.n+A.n)from by omega]
  ·rw[if_neg h3];by_cases h4:i*A.n≤j
   ·rw[if_pos (by omega),if_pos h4,List.getElem?_append_left (by omega)]
   ·rw[if_neg (by omega),if_neg h4]
theorem Rg.Wr {t e:TypeId} {zv:Value} {bytes nn:Nat} {ps:Array (Nat×Operand)} {hn:0<A.n} {M:aL} {xs:List α} (ht:P.underlying t=some (.slice e)) (hi:TI P e zv A.n bytes) (hz:zv.cells.size=A.n) (yG:nn*A.n≤16777216) (hnn:nn=xs.length) (ox:Np A M w L 0 ps.toList xs) (hd:Nat.blt d n=true) (hm:Lt M w)
  (zO:A.agg=true∨A.n=1∧A.agg=false) (hnz:0<nn) (k:∀u w',(A.sl hn).V M w' xs u→Step M w M w' aE→Rg P r n ops rest ((d,u)::L) ds w' K):
  Rg P r n ops ({dst:=some d,op:= .buildSlice t nn ps,type:=ty,pos,after:=af,guard:=none}::rest) L ds w K:=by
 subst hnn;obtain⟨i,wZ,zN,Xh,Wq⟩:=hi.get;obtain⟨fV,C,JR,f1,f2,f3,f4,f5⟩:=Ae zO ps.toList 0 xs (Array.map (fun x=>zv.cells[x%zv.cells.size]!) (Array.range (xs.length*A.n))) ox (by simp);have hzC:JR=C.toArray:=Array.ext_getElem? fun j=>by rw[f5 j,Nat.zero_mul,if_pos (Nat.zero_le _),Nat.sub_zero];simp
 subst hzC;have hs:=dv M w (.cells C.toArray e);have Ab:0<xs.length*A.n:=Nat.mul_pos hnz hn;have hlen:xs.length≤16777216:=Nat.le_trans (by have:=Nat.mul_le_mul_left xs.length hn;omega) yG
 refine .op (fun _ h=>by cases h) rfl rfl hd (.slice (some ⟨w.heap.size,0,none⟩) xs.length xs.length) (w.alloc (.cells C.toArray e)) (fun ρ hρ=>?_)
  (k _ _ (ix.2 ⟨_,_,rfl,Nat.le_refl _,by omega,.inr ⟨w.heap.size,0,rfl,fun h=>by have:=hm _ h;omega,fun i x hx=>?_⟩⟩) hs)
 ·have Xi:(ps.map fun(i,x)=>(i,ρ x)).toList=fV:=by rw[Array.toList_map];exact f1 ρ hρ
  simp only[execOp];simp only[Instr.buildSlice,Sem.run_bind,run_underlying ht,Result.andThen_ok,hi.sizeOf];rw[if_neg (by omega),if_neg (by omega)];simp only[Sem.run_bind,zeroValue,typeInfo,program,Sem.run,wZ,zN,Result.andThen_ok,Sem.run_pure];rw[Xi,f3];simp[newRow,newObj,Sem.run]
 ·obtain⟨us,h1,h2⟩:=(f2.le hs.le).at_ i x hx;exact⟨us,h1,fun j u hu=>by rw[Nat.zero_add];exact iJ (cJ w _) (by simpa using h2 j u hu)⟩
def kD (M:aL) (v:Value):aL:=fun k=>v.ownBlock=some k∨M k
def jC (v:Value):aL:=fun k=>v.ownBlock=some k
theorem uh {M:aL} {w':World} {v':Value} (hs:w.heap.size≤w'.heap.size) (hv:∀b,v'.ownBlock=some b→b<w'.heap.size) (h:Lt M w):Lt (kD M v') w':=fun b hb=>by
 rcases hb with hb|hb
 ·exact hv b hb
 ·exact Nat.lt_of_lt_of_le (h b hb) hs
theorem Ce {M:aL} {w':World} {v v':Value} (hg:w.grownBy w' v.ownBlock) (hm:∀b,v.ownBlock=some b→M b) (hv:∀b,v'.ownBlock=some b→w.heap.size≤b∨v.ownBlock=some b) (dW:∀b,v'.ownBlock=some b→b<w'.heap.size):
  Step M w (kD M v') w' (jC v):=
 ⟨uh hg.size dW,hg.os,hg.tape,hg.output,hg.size,fun b hb=>⟨fun h=>by
  rcases h with h|h
  ·rcases hv b h with h2|h2
   ·omega
   ·exact hm b h2
  ·exact h,fun h=> .inr h⟩,fun b hb hn=>hg.block b hb (fun h=>hn h.symm),fun b hb=>hm b hb⟩
theorem nP {t ty e:TypeId} {zv:Value} {size bytes:Nat} (ht:P.underlying t=some (.slice e)) (hi:TI P e zv size bytes) (a:Option Addr) (l cap c:Nat) (b:Option Addr) (hl:l≤cap):
  (Builtin.append_ #[t,t] ty #[.slice a l cap,.slice b 0 c]).run P w= .ok (.slice a l cap) w:=by
 obtain⟨i,h1,h2,h3,h4⟩:=hi.get
 cases a<;>cases b<;>simp[Builtin.append_,run_underlying ht,sizeOf,typeInfo,h1,Builtin.lenOf,hl,Builtin.firstCells,loadCells,loadCellsFrom,storeCells]
theorem Own.kc {t ty e:TypeId} {zv:Value} {bytes:Nat} {hn:0<A.n} {M M2:aL} {base:Nat} {v u:Value} {xs ys:List α} (ht:P.underlying t=some (.slice e)) (hi:TI P e zv A.n bytes) (hz:zv.cells.size=A.n)
  (h:Own A e M w base v xs) (hle:Le M2 w M w) (hu:(A.sl hn).V M2 w ys u) (hlen:xs.length+ys.length≤140737488355328) (hb:(xs.length+ys.length)*bytes≤140737488355328) (kj:base≤w.heap.size):
  ∃v' w',(Builtin.append_ #[t,t] ty #[v,u]).run P w= .ok v' w'∧Own A e (kD M v') w' base v' (xs++ys)∧Step M w (kD M v') w' (jC v)∧(∀b,v'.ownBlock=some b→w.heap.size≤b∨v.ownBlock=some b):=by
 obtain⟨a,c,rfl,hc,hl,hs⟩:=ix.1 hu;obtain⟨i,h1,h2,h3,h4⟩:=hi.get;have F7:xs.length+ys.length≤maxLen:=by unfold maxLen;omega
 rcases hs with rfl|⟨b,o,rfl,hmb,Et⟩
 ·obtain⟨a',cap,rfl,Xj⟩:=h.isSlice;refine⟨_,w,nP ht hi a' xs.length cap c a Xj,?_,?_,fun b hb=> .inr hb⟩
  ·rw[List.append_nil];obtain⟨⟨C,hr,ha⟩,hm⟩:=h;have hs:Step M w (kD M (.slice a' xs.length cap)) w aE:=⟨uh (Nat.le_refl _) (fun b hb=>(hr.lt b hb).2),rfl,rfl,rfl,Nat.le_refl _,fun b _=>⟨fun h=>h.elim (hm b) id,fun h=> .inr h⟩,fun _ _ _=>rfl,fun _ h=>h.elim⟩;exact⟨⟨C,hr,ha.le hs.le⟩,fun b hb=> .inl hb⟩
  ·exact⟨uh (Nat.le_refl _) (fun b hb=>(h.base b hb).2),rfl,rfl,rfl,Nat.le_refl _,fun b _=>⟨fun h'=>h'.elim (h.mut_ b) id,fun h=> .inr h⟩,fun _ _ _=>rfl,fun b hb=>h.mut_ b hb⟩
 ·obtain⟨D,hD,Xk⟩:=rU.all Et;have LJ:=hD.length;have xH:∀j u,D[j]? =some u→w.cell? ((⟨b,o,none⟩:Addr).add j)=some u:=fun j u hj=>by rw[Addr.add_mid];exact Xk j u hj
  have Ws:=hD.one;obtain⟨⟨C,hr,ha⟩,hm⟩:=h;have Xl:=hr;obtain⟨Xm,Af⟩:=Xl
  have fin:∀v' w',w'.ownsRow base e A.n v' (xs.length+ys.length) (C++D)→w.grownBy w' v.ownBlock→(∀b,v'.ownBlock=some b→w.heap.size≤b∨v.ownBlock=some b)→
    Own A e (kD M v') w' base v' (xs++ys)∧Step M w (kD M v') w' (jC v):=by
   intro v' w' ho hg pR;have km:=Ce (M:=M) hg hm pR (fun b hb=>(ho.lt b hb).2);refine⟨⟨⟨C++D,by rw[List.length_append];exact ho,?_⟩,fun b hb=> .inl hb⟩,km⟩;exact fu.append (hD.le (hle.trans km.le)) (ha.le km.le)
  rcases Af with⟨rfl,Xn⟩|⟨g,cap,cur,rfl,hbg,hg,Xo,hcm,hcs,Rh⟩
  ·have hx:xs=[]:=List.eq_nil_of_length_eq_zero Xn;subst hx;have hC:C=[]:=List.eq_nil_of_length_eq_zero (by simpa using Xm);subst hC
   obtain⟨v',w',gQ,ho,uC,_⟩:=run_append_own (P:=P) w w.heap.size t ty e i zv A.n bytes ht h1 h2 h3 h4 hz hn (.slice none 0 0) 0 [] (World.ownsRow_nil w _ e A.n) ⟨b,o,none⟩ ys.length c D LJ xH Ws
    (by simpa using F7) (by simpa using hb) (Nat.le_refl _)
   obtain⟨q1,q2⟩:=fin v' w' (by
    obtain⟨p1,p2⟩:=ho;refine⟨by simpa using p1,p2.imp (fun h=>by simpa using h) ?_⟩;rintro⟨g,cap,cur,p3,p4,p5⟩;exact⟨g,cap,cur,by simpa using p3,Nat.le_trans kj p4,by simpa using p5⟩) uC (fun k hk=> .inl (ho.lt k hk).1)
   exact⟨v',w',gQ,q1,q2,fun k hk=> .inl (ho.lt k hk).1⟩
  ·by_cases F8:xs.length+ys.length≤cap
   ·have Xp:xs.length*A.n+D.length≤cur.size:=by rw[LJ,hcs,←Nat.add_mul];exact Nat.mul_le_mul_right _ F8
    have gQ:=run_append_room (P:=P) w t ty e i ht h1 g xs.length cap cur hg ⟨b,o,none⟩ ys.length c D (by rw[LJ,←h3]) xH Ws F8 (by rw[h3];exact Xp);rw[h3]at gQ;have hCD:(C++D).length=(xs.length+ys.length)*A.n:=by rw[List.length_append,Xm,LJ,Nat.add_mul]
    obtain⟨JS,Nq⟩:∃c,c=(cur.toList.take (xs.length*A.n)++D++cur.toList.drop (xs.length*A.n+D.length)).toArray:=⟨_,rfl⟩;rw[←Nq]at gQ
    have e1:JS.size=cap*A.n:=by
     rw[Nq];simp only[List.size_toArray,List.length_append,List.length_take,List.length_drop,Array.length_toList];omega
    have e2:JS.toList.take ((xs.length+ys.length)*A.n)=C++D:=by
     rw[Nq];simp only[Rh];rw[←hCD];exact List.take_left
    obtain⟨q1,q2⟩:=fin (.slice (some ⟨g,0,none⟩) (xs.length+ys.length) cap) (w.setRow g JS)
     ⟨hCD,.inr ⟨g,cap,JS,rfl,hbg,setRow_heap w g cur _ e _ hg,F8,hcm,e1,e2⟩⟩
     ⟨rfl,rfl,rfl,by simp,fun k _ hk=>setRow_other w g k _ (fun e=>hk (by simp[Value.ownBlock,e]))⟩ (fun k hk=> .inr hk)
    exact⟨_,_,gQ,q1,q2,fun k hk=> .inr hk⟩
   ·have holds:∀j u,C[j]? =some u→w.cell? ((⟨g,0,none⟩:Addr).add j)=some u:=hr.cells (g:=g) rfl;obtain⟨v',w',gQ,ho,uC⟩:=run_append_arg_grows (P:=P) w t ty e i zv A.n bytes ht h1 h2 h3 h4 hz hn ⟨g,0,none⟩ xs.length cap C Xm holds ⟨b,o,none⟩ ys.length c D LJ xH (by omega) F7 hb
    obtain⟨q1,q2⟩:=fin v' w' ⟨ho.1,ho.2.imp id (fun⟨g',Ri,Rj,p3,p4,p5⟩=>⟨g',Ri,Rj,p3,Nat.le_trans kj p4,p5⟩)⟩
     ⟨uC.os,uC.tape,uC.output,uC.size,fun k hk _=>uC.block k hk (by simp)⟩ (fun k hk=> .inl (ho.lt k hk).1)
    exact⟨v',w',gQ,q1,q2,fun k hk=> .inl (ho.lt k hk).1⟩
theorem Own.append {t ty e:TypeId} {zv:Value} {bytes:Nat} {hn:0<A.n} {M M2:aL} {base:Nat} {v u:Value} {xs ys:List α} (ht:P.underlying t=some (.slice e)) (hi:TI P e zv A.n bytes) (hz:zv.cells.size=A.n)
  (h:Own A e M w base v xs) (hle:Le M2 w M w) (hu:(A.sl hn).V M2 w ys u) (hlen:xs.length+ys.length≤140737488355328) (hb:(xs.length+ys.length)*bytes≤140737488355328) (kj:base≤w.heap.size):
  ∃v' w',(Builtin.append_ #[t,t] ty #[v,u]).run P w= .ok v' w'∧Own A e (kD M v') w' base v' (xs++ys)∧Step M w (kD M v') w' (jC v):=by
 obtain⟨v',w',h1,h2,h3,_⟩:=Own.kc (ty:=ty) ht hi hz h hle hu hlen hb kj;exact⟨v',w',h1,h2,h3⟩
theorem Rg.kc {t e:TypeId} {zv:Value} {bytes:Nat} {hn:0<A.n} {M M2:aL} {w2:World} {base:Nat} {v u:Value} {xs ys:List α} (ht:P.underlying t=some (.slice e)) (hi:TI P e zv A.n bytes) (hz:zv.cells.size=A.n)
  (hx:ev L x=some v) (hy:ev L y=some u) (hd:Nat.blt d n=true) (h:Own A e M w base v xs) (hu:(A.sl hn).V M2 w2 ys u) (hle:Le M2 w2 M w) (hlen:xs.length+ys.length≤140737488355328)
  (hb:(xs.length+ys.length)*bytes≤140737488355328) (kj:base≤w.heap.size)
  (k:∀v' w',Own A e (kD M v') w' base v' (xs++ys)→Step M w (kD M v') w' (jC v)→(∀b,v'.ownBlock=some b→w.heap.size≤b∨v.ownBlock=some b)→Rg P r n ops rest ((d,v')::L) ds w' K):
  Rg P r n ops ({dst:=some d,op:= .call {callee:= .builtin .append,args:= #[x,y],argTypes:= #[t,t]},type:=ty,pos,after:=af,guard:=none}::rest) L ds w K:=by
 obtain⟨v',w',gQ,h1,h2,h3⟩:=Own.kc (ty:=ty) ht hi hz h (Le.refl M w) (hu.le hle) hlen hb kj;refine .op (fun _ h=>by cases h) rfl rfl hd v' w' (fun ρ hρ=>?_) (k v' w' h1 h2 h3);simp only[execOp,resolve,List.map_toArray,List.map_cons,List.map_nil,hρ x _ hx,hρ y _ hy];simp[invoke,builtin,gQ]
def iP (v u:Value):Prop:=∀b,v.ownBlock=some b→u.ownBlock≠some b
theorem iP.symm {v u:Value} (h:iP v u):iP u v:=fun b h1 h2=>h b h2 h1
theorem iP.nil (v:Value):iP v (.slice none 0 0):=fun b _ h=>by cases h
theorem iP.grown {v v' u:Value} (h:iP v u) (hF:∀b,v'.ownBlock=some b→w.heap.size≤b∨v.ownBlock=some b) (hu:∀b,u.ownBlock=some b→b<w.heap.size):iP v' u:=fun b h1 h2=>by
 rcases hF b h1 with h3|h3
 ·have:=hu b h2;omega
 ·exact h b h3 h2
theorem Rg.append {t e:TypeId} {zv:Value} {bytes:Nat} {hn:0<A.n} {M M2:aL} {w2:World} {base:Nat} {v u:Value} {xs ys:List α} (ht:P.underlying t=some (.slice e)) (hi:TI P e zv A.n bytes) (hz:zv.cells.size=A.n)
  (hx:ev L x=some v) (hy:ev L y=some u) (hd:Nat.blt d n=true) (h:Own A e M w base v xs) (hu:(A.sl hn).V M2 w2 ys u) (hle:Le M2 w2 M w) (hlen:xs.length+ys.length≤140737488355328)
  (hb:(xs.length+ys.length)*bytes≤140737488355328) (kj:base≤w.heap.size)
  (k:∀v' M' w',Own A e M' w' base v' (xs++ys)→Step M w M' w' (jC v)→Rg P r n ops rest ((d,v')::L) ds w' K):
  Rg P r n ops ({dst:=some d,op:= .call {callee:= .builtin .append,args:= #[x,y],argTypes:= #[t,t]},type:=ty,pos,after:=af,guard:=none}::rest) L ds w K:=by
 obtain⟨v',w',gQ,h1,h2⟩:=Own.append (ty:=ty) ht hi hz h (Le.refl M w) (hu.le hle) hlen hb kj;refine .op (fun _ h=>by cases h) rfl rfl hd v' w' (fun ρ hρ=>?_) (k v' _ w' h1 h2);simp only[execOp,resolve,List.map_toArray,List.map_cons,List.map_nil,hρ x _ hx,hρ y _ hy];simp[invoke,builtin,gQ]
theorem Rg.uD {t e:TypeId} {zv:Value} {bytes:Nat} {hn:0<A.n} {M M2:aL} {w2:World} {a:Option Addr} {u:Value} {xs ys:List α} (ht:P.underlying t=some (.slice e)) (hi:TI P e zv A.n bytes) (hz:zv.cells.size=A.n)
  (hx:ev L x=some (.slice a xs.length xs.length)) (hy:ev L y=some u) (hd:Nat.blt d n=true) (h:(A.sl hn).V M w xs (.slice a xs.length xs.length)) (Ag:a=none→xs=[]) (hu:(A.sl hn).V M2 w2 ys u) (hle:Le M2 w2 M w)
  (fg:0<ys.length) (hlen:xs.length+ys.length≤140737488355328) (hb:(xs.length+ys.length)*bytes≤140737488355328)
  (k:∀v' M' w',Own A e M' w' w.heap.size v' (xs++ys)→Step M w M' w' aE→Rg P r n ops rest ((d,v')::L) ds w' K):
  Rg P r n ops ({dst:=some d,op:= .call {callee:= .builtin .append,args:= #[x,y],argTypes:= #[t,t]},type:=ty,pos,after:=af,guard:=none}::rest) L ds w K:=by
 obtain⟨a2,c,rfl,hc,hl,hs⟩:=ix.1 (hu.le hle);obtain⟨i,h1,h2,h3,h4⟩:=hi.get;have F7:xs.length+ys.length≤maxLen:=by unfold maxLen;omega
 rcases hs with rfl|⟨b,o,rfl,hmb,Et⟩
 ·simp at fg
 obtain⟨D,hD,Xk⟩:=rU.all Et;have LJ:=hD.length;have xH:∀j u,D[j]? =some u→w.cell? ((⟨b,o,none⟩:Addr).add j)=some u:=fun j u hj=>by rw[Addr.add_mid];exact Xk j u hj
 have Ws:=hD.one
 have hold:∃C,fu A M w xs C∧∃v' w',(Builtin.append_ #[t,t] ty #[.slice a xs.length xs.length,.slice (some ⟨b,o,none⟩) ys.length c]).run P w= .ok v' w'∧w'.ownsRow w.heap.size e A.n v' (xs.length+ys.length) (C++D)∧w.grownBy w' none:=by
  cases a with
  |none=>
   have:=Ag rfl;subst this
   obtain⟨v',w',gQ,ho,uC,_⟩:=run_append_own (P:=P) w w.heap.size t ty e i zv A.n bytes ht h1 h2 h3 h4 hz hn (.slice none 0 0) 0 [] (World.ownsRow_nil w _ e A.n) ⟨b,o,none⟩ ys.length c D LJ xH Ws
    (by simpa using F7) (by simpa using hb) (Nat.le_refl _)
   exact⟨[],rfl,v',w',gQ,by simpa using ho,⟨uC.os,uC.tape,uC.output,uC.size,fun k hk _=>uC.block k hk (by simp[Value.ownBlock])⟩⟩
  |some p=>
   obtain⟨_,_,he,_,_,F9⟩:=ix.1 h
   cases he
   have hC:∃C,fu A M w xs C∧∀j u,C[j]? =some u→w.cell? (p.add j)=some u:=by
    rcases F9 with rfl|⟨b1,o1,h5,Qx,Xq⟩
    ·exact⟨[],rfl,fun j u hj=>by simp at hj⟩
    ·cases h5;obtain⟨C,hC,Rk⟩:=rU.all Xq;exact⟨C,hC,fun j u hj=>by rw[Addr.add_mid];exact Rk j u hj⟩
   obtain⟨C,hC,Rk⟩:=hC;obtain⟨v',w',gQ,ho,uC⟩:=run_append_arg_grows (P:=P) w t ty e i zv A.n bytes ht h1 h2 h3 h4 hz hn p xs.length xs.length C hC.length Rk ⟨b,o,none⟩ ys.length c D LJ xH (by omega) F7 hb;exact⟨C,hC,v',w',gQ,ho,uC⟩
 obtain⟨C,hC,v',w',gQ,ho,uC⟩:=hold
 have km:Step M w (kD M v') w' aE:=⟨uh uC.size (fun b hb=>(ho.lt b hb).2),uC.os,uC.tape,uC.output,uC.size,fun k hk=>⟨fun h=>by
   rcases h with h|h
   ·have:=(ho.lt k h).1;omega
   ·exact h,fun h=> .inr h⟩,fun k hk _=>uC.block k hk (by simp),fun _ h=>h.elim⟩
 refine .op (fun _ h=>by cases h) rfl rfl hd v' w' (fun ρ hρ=>?_) (k v' _ w' ⟨⟨C++D,by rw[List.length_append];exact ho,fu.append (hD.le km.le) (hC.le km.le)⟩,fun b hb=> .inl hb⟩ km);simp only[execOp,resolve,List.map_toArray,List.map_cons,List.map_nil,hρ x _ hx,hρ y _ hy];simp[invoke,builtin,gQ]
def kN (M:aL) (base:Nat):aL:=fun k=>base≤k∧M k
theorem Step.k9 {M0 M M' N:aL} {w0 w w':World} {base:Nat} (h:Step M0 w0 M w N) (h':Step M w M' w' (kN M base)) (hb:w0.heap.size≤base):Step M0 w0 M' w' N:=
 h.trans h' fun b h1 h2=>absurd h2.1 (by omega)
theorem Step.cF {e:TypeId} {M0 M M1 M' N:aL} {w0 w w1 w':World} {base:Nat} {v:Value} {xs:List α} (h:Step M0 w0 M w N) (h':Step M w M' w' (jC v)) (ho:Own A e M1 w1 base v xs) (hb:w0.heap.size≤base):Step M0 w0 M' w' N:=
 h.trans h' fun b h1 h2=>absurd (ho.base b h2).1 (by omega)
theorem Step.cW {M0 M M' N N':aL} {w0 w w':World} (h:Step M0 w0 M w N) (h':Step M w M' w' N') (hb:∀b,N' b→w0.heap.size≤b):Step M0 w0 M' w' N:=
 h.trans h' fun b h1 h2=>absurd (hb b h2) (by omega)
def Grow {α:Type} (A:RT α) (hn:0<A.n) (e:TypeId) (M:aL) (w:World) (base:Nat) (v:Value) (xs:List α):Prop:=
 Own A e M w base v xs∨∃a,v= .slice a xs.length xs.length∧(a=none→xs=[])∧(A.sl hn).V M w xs v
theorem Grow.le {hn:0<A.n} {e:TypeId} {M M':aL} {w':World} {base:Nat} {v:Value} {xs:List α} (h:Grow A hn e M w base v xs) (s:Step M w M' w' aE):Grow A hn e M' w' base v xs:=
 h.imp (·.a8 s) fun⟨a,h1,h2,h3⟩=>⟨a,h1,h2,h3.le s.le⟩
theorem Rg.DF {t e:TypeId} {zv:Value} {bytes:Nat} {hn:0<A.n} {M M2:aL} {w2:World} {base:Nat} {v u:Value} {xs ys:List α} (ht:P.underlying t=some (.slice e)) (hi:TI P e zv A.n bytes) (hz:zv.cells.size=A.n)
  (hx:ev L x=some v) (hy:ev L y=some u) (hd:Nat.blt d n=true) (h:Grow A hn e M w base v xs) (hu:(A.sl hn).V M2 w2 ys u) (hle:Le M2 w2 M w) (fg:0<ys.length) (hlen:xs.length+ys.length≤140737488355328)
  (hb:(xs.length+ys.length)*bytes≤140737488355328) (kj:base≤w.heap.size)
  (k:∀v' M' w',Own A e M' w' base v' (xs++ys)→Step M w M' w' (kN M base)→Rg P r n ops rest ((d,v')::L) ds w' K):
  Rg P r n ops ({dst:=some d,op:= .call {callee:= .builtin .append,args:= #[x,y],argTypes:= #[t,t]},type:=ty,pos,after:=af,guard:=none}::rest) L ds w K:=by
 rcases h with h|⟨a,rfl,Ag,h⟩
 ·exact .append ht hi hz hx hy hd h hu hle hlen hb kj fun v' M' w' h1 h2=>k v' M' w' h1 (h2.cw (fun b hb=>⟨(h.base b hb).1,h.mut_ b hb⟩) fun b hb=>hb.2)
 ·refine .uD ht hi hz hx hy hd h Ag hu hle fg hlen hb fun v' M' w' h1 h2=>k v' M' w' ?_ (h2.cw (fun b hb=>hb.elim) fun b hb=>hb.2)
  obtain⟨⟨C,hr,ha⟩,hm⟩:=h1;exact⟨⟨C,⟨hr.1,hr.2.imp id fun⟨g,cap,cur,p3,p4,p5⟩=>⟨g,cap,cur,p3,Nat.le_trans kj p4,p5⟩⟩,ha⟩,hm⟩
def rm (M:aL) (v:Value):aL:=fun k=>M k∧v.ownBlock≠some k
theorem qP (M:aL) (v:Value) (w:World):Le M w (rm M v) w:=fun _ _ h=>⟨fun h2=>h h2.1,rfl⟩
theorem Own.view {hn:0<A.n} {e:TypeId} {M:aL} {base:Nat} {v:Value} {xs:List α} (h:Own A e M w base v xs) (hlen:xs.length≤140737488355328):(A.sl hn).V (rm M v) w xs v:=
 h.sl (qP M v w) (fun _ hb h2=>h2.2 hb) hlen
theorem Lt.rm {M:aL} {w:World} (h:Lt M w) (v:Value):Lt (rm M v) w:=fun b hb=>h b hb.1
theorem Step.freeze {M0 M N:aL} {w0 w:World} (h:Step M0 w0 M w N) {v:Value} (hv:∀b,v.ownBlock=some b→w0.heap.size≤b):Step M0 w0 (rm M v) w N:=
 ⟨fun h0=>(h.lt h0).rm v,h.os,h.tape,h.output,h.size,fun b hb=>⟨fun h1=>(h.mem b hb).1 h1.1,fun h1=>⟨(h.mem b hb).2 h1,fun h2=>by have:=hv b h2;omega⟩⟩,h.same,h.sub⟩
theorem Own.mi {e:TypeId} {M:aL} {base DG:Nat} {v:Value} {xs:List α} (h:Own A e M w base v xs) (hb:DG≤base):Own A e M w DG v xs:=by
 obtain⟨⟨C,hr,ha⟩,hm⟩:=h;exact⟨⟨C,⟨hr.1,hr.2.imp id fun⟨g,cap,cur,p3,p4,p5⟩=>⟨g,cap,cur,p3,Nat.le_trans hb p4,p5⟩⟩,ha⟩,hm⟩
theorem xI {M:aL} {w:World}:∀{xs:List UInt8} {C:List Value},fu RT.u8 M w xs C→C=xs.map fun b=> .int .u8 (b.toNat:Int)
 |[],_,h=>h
 |x::xs,_,⟨vs,rest,h1,h2,h3⟩=>by
  have yH:vs=[.int .u8 x.toNat]:=h2;subst h1;rw[yH,xI h3];rfl
theorem Rg.b2s {s t e:TypeId} {hn:0<RT.u8.n} {M:aL} {xs:List UInt8} {v:Value} (hs:P.underlying s=some (.slice e)) (he:P.underlying e=some (.int .u8)) (ht:P.underlying t=some .string) (hx:ev L x=some v) (hd:Nat.blt d n=true)
  {M1:aL} {w1:World} (hv:(RT.u8.sl hn).V M1 w1 xs v) (hle:Le M1 w1 M w) (k:Rg P r n ops rest ((d,.string ⟨xs.toArray⟩)::L) ds w K):
  Rg P r n ops ({dst:=some d,op:= .convert s t x,type:=ty,pos,after:=af,guard:=none}::rest) L ds w K:=by
 obtain⟨a,cap,rfl,hc,hl,pF⟩:=ix.1 (hv.le hle);refine .op (fun _ h=>by cases h) rfl rfl hd _ w (fun ρ hρ=>?_) k;simp only[execOp,hρ x _ hx];rw[Sem.run_bind,run_convert_bytes_string (P:=P) w s t e a xs.length cap hs he ht]
 cases a with
 |none=>
  rcases pF with rfl|⟨b,o,h,_⟩
  ·simp[Conv.bytesToString];rfl
  ·cases h
 |some p=>
  have Rl:(loadCells p xs.length).run P w= .ok ((xs.map fun b=>(b.toNat:Int)).map (Value.int .u8)).toArray w:=by
   rcases pF with rfl|⟨b,o,h,hm,Et⟩
   ·simp[loadCells,loadCellsFrom]
   ·cases h;obtain⟨C,hC,Rk⟩:=rU.all Et;have hCe:=xI hC;have:=run_loadCells_list (P:=P) w ⟨b,o,none⟩ C (fun j u hj=>by rw[Addr.add_mid];exact Rk j u hj);rw[hC.length,show xs.length*RT.u8.n=xs.length from Nat.mul_one _]at this;rw[this,hCe];simp
  rw[run_bytesToString (P:=P) w p xs.length cap _ Rl]
  have key:∀(l:List UInt8) (acc:ByteArray),(l.map fun b=>(b.toNat:Int)).foldl (fun r n=>r.push (UInt8.ofNat n.toNat)) acc=⟨acc.data++l.toArray⟩:=by
   intro l
   induction l with
   |nil=>intro acc;simp
   |cons b l ih=>
    intro acc;simp only[List.map_cons,List.foldl_cons,ih];congr 1;simp[ByteArray.push]
  simp[key]
end
end Go.K
namespace Go.K
open Go.ChangeShapes Go.WideShapes Go.ChangeAt Go.RowKit
def gS {α:Type} (P:Program) (t:TypeId) (A:RT α):Prop:=
 ∀{H:Type} {enc:TypeId×Value→H} {w:World} {base fuel:Nat} {spare:Nat→Bool} {cs:List Value} {d:DataW H} {ps:List MemPlace},
  DataW.trod enc P w base spare true fuel t cs=some (d,ps)→(∀n∈DataW.weights P t d,n≤reachBytes)→∃x,A.R aE w x cs
theorem gS.int {P:Program} {t:TypeId} {k:IntKind} (ht:P.underlying t=some (.int k)):gS P t (RT.int k):=by
 intro H enc w base fuel spare cs d ps h hw
 cases fuel with
 |zero=>simp[DataW.trod]at h
 |succ n=>
  unfold DataW.trod at h;rw[ht]at h
  split at h<;>simp_all
  obtain⟨⟨h1,h2⟩,_⟩:=h;simp only[Lit.wf,Bool.and_eq_true,decide_eq_true_eq]at h2;exact⟨_,rfl,h2.1,h2.2⟩
theorem gS.str {P:Program} {t:TypeId} (ht:P.underlying t=some .string):gS P t RT.str:=by
 intro H enc w base fuel spare cs d ps h hw
 cases fuel with
 |zero=>simp[DataW.trod]at h
 |succ n=>
  unfold DataW.trod at h;rw[ht]at h
  split at h<;>simp_all
  rename_i s
  obtain⟨h1,h2,h3⟩:=h;subst h2;have:=hw s.data.toList.length (by simp[DataW.weights]);have hr:reachBytes≤140737488355328:=by decide
  refine⟨s.data.toList,?_,Nat.le_trans this hr⟩;simp
theorem Nr (a:Addr) (i:Nat) (h:a.spot=none):a.add i=⟨a.block,a.off+i,none⟩:=by
 unfold Addr.add
 split
 ·next h0=>subst h0;cases a;simp_all
 ·rfl
theorem gS.sl {P:Program} {t e:TypeId} {α:Type} {A:RT α} {hn:0<A.n} (ht:P.underlying t=some (.slice e)) {nb:Nat} (hc:P.cellsOf e=A.n) (Wt:P.bytesOf e=nb) (JA:nb≠0) (hA:gS P e A):gS P t (A.sl hn):=by
 have JT:P.bytesOf e≠0:=by rw[Wt];exact JA
 intro H enc w base fuel spare cs d ps h hw;rcases DataW.trod_slice ht h with⟨h1,h2⟩|⟨a,len,cap,elems,rest,n,_,rfl,hx,hb,hl,hm,hlen,Et,Rm,hns⟩
 ·exact⟨[],none,0,by rw[h1];rfl,Nat.le_refl _,Nat.zero_le _,.inl rfl⟩
 ·injection hx with hd ox
  have Ah:DataW.weights P t d=(elems.length+rest.length)*P.bytesOf e::(DataW.weightsAll P e (elems.map (·.1))++DataW.weightsAll P e (rest.map (·.1))):=by
   rw[hd];simp[DataW.weights,ht]
  have h1:(elems.length+rest.length)*P.bytesOf e≤reachBytes:=hw _ (by rw[Ah];exact List.mem_cons_self ..)
  have h2:elems.length≤140737488355328:=by
   have hr:reachBytes≤140737488355328:=by decide
   have:=Nat.le_mul_of_pos_right (elems.length+rest.length) (Nat.pos_of_ne_zero JT);omega
  have kO:∀y∈elems,∀n∈DataW.weights P e y.1,n≤reachBytes:=fun y hy n hn=>by
   refine hw n ?_;rw[Ah];refine List.mem_cons_of_mem _ (List.mem_append_left _ ?_);clear Ah hw h1 h2 Rm hns Et hlen hd h ox
   induction elems with
   |nil=>cases hy
   |cons z zs ih=>
    simp only[List.map_cons,DataW.weightsAll,List.mem_append];rcases List.mem_cons.1 hy with rfl|hy
    ·exact .inl hn
    ·exact .inr (ih hy)
  have hex:∀i,i<len→∃x vs,A.R aE w x vs∧∀j:Nat,j<A.n→w.cell? (a.add (i*A.n+j))=vs[j]? :=fun i hi=>by
   have h3:=Et i hi;rw[List.getElem?_eq_getElem (by omega),Option.bind_eq_some_iff]at h3;obtain⟨vs,h4,h5⟩:=h3;obtain⟨x,h6⟩:=hA (d:=elems[i].1) (ps:=elems[i].2) h5 (kO _ (List.getElem_mem ..));obtain⟨_,h7,h8⟩:=World.cells?_some h4;rw[hc]at h8 h7;refine⟨x,vs,h6,fun j hj=>?_⟩;rw[←h8 j hj];unfold Addr.add;by_cases Xr:j=0
   ·subst Xr;simp
   ·by_cases Wu:i*A.n=0
    ·simp[Wu,Xr]
    ·rw[if_neg (by omega),if_neg Wu,if_neg Xr];simp[Nat.add_assoc]
  rcases Nat.eq_zero_or_pos len with h0|Ab
  ·subst h0;exact⟨[],some a,cap,rfl,Nat.zero_le _,Nat.zero_le _,.inl rfl⟩
  ·obtain⟨x0,v0,Xn,hc0⟩:=hex 0 Ab;have JB:0<v0.length:=by rw[A.len Xn];exact hn
   have hs:=hc0 0 hn;rw[List.getElem?_eq_getElem JB,Nat.zero_mul,Nat.zero_add]at hs
   have Rn:a.spot=none:=by
    unfold Addr.add at hs;rw[if_pos rfl]at hs;unfold World.cell? at hs
    cases hh:a.spot with
    |none=>rfl
    |some s=>rw[hh]at hs;split at hs<;>simp_all
   let f:Nat→α:=fun i=>if h:i<len then(hex i h).choose else x0
   have hf:∀i,i<len→∃vs,A.R aE w (f i) vs∧∀j:Nat,j<A.n→w.cell? (a.add (i*A.n+j))=vs[j]? :=fun i hi=>by
    have:f i=(hex i hi).choose:=dif_pos hi;rw[this];exact(hex i hi).choose_spec
   refine⟨(List.range len).map f,some a,cap,by simp,by simpa using hl,by simp;omega,.inr ⟨a.block,a.off,by cases a;simp_all,fun h=>h.elim,fun i x Nn=>?_⟩⟩;have hi:i<len:=by have:=(List.getElem?_eq_some_iff.1 Nn).1;simpa using this
   obtain⟨vs,h3,h4⟩:=hf i hi;have hxe:x=f i:=by simp[hi]at Nn;exact Nn.symm
   subst hxe;refine⟨vs,h3,fun j v hj=>?_⟩;have qG:j<A.n:=by rw[←A.len h3];exact(List.getElem?_eq_some_iff.1 hj).1
   rw[←hj,←h4 j qG,Nr _ _ Rn,Nat.add_assoc]
theorem gS.pair {P:Program} {t:TypeId} {fs:Array Field} {f0 f1:Field} {α β:Type} {A:RT α} {B:RT β} (ht:P.underlying t=some (.struct fs)) (Wv:fs[0]? =some f0) (hf1:fs[1]? =some f1) (hfs:fs.size=2) (h0:f0.offset=0) (h1:f1.offset=A.n)
  (c0:P.cellsOf f0.type=A.n) (c1:P.cellsOf f1.type=B.n) (ct:P.cellsOf t=A.n+B.n) (hA:gS P f0.type A) (hB:gS P f1.type B):gS P t (A.pair B):=by
 intro H enc w base fuel spare cs d ps h hw;obtain⟨xs,n,_,hx,hl,hlen,hf⟩:=DataW.trod_struct ht h;injection hx with hd ox
 have yI:xs.length=2:=by omega
 match xs,yI with
 |[y0,y1],_=>
  have g0:=hf 0 f0 Wv;have g1:=hf 1 f1 hf1;rw[h0,c0]at g0;rw[h1,c1]at g1
  have hty:fs.toList.map (fun x=>x.type)=[f0.type,f1.type]:=by
   have JU:fs.toList.length=2:=by simpa using hfs
   match DH:fs.toList,JU with
   |[a,b],_=>
    have e0:fs.toList[0]? =some f0:=by simpa using Wv
    have e1:fs.toList[1]? =some f1:=by simpa using hf1
    rw[DH]at e0 e1;simp at e0 e1;simp[e0,e1]
  have Ah:DataW.weights P t d=DataW.weightsEach P [f0.type,f1.type] [y0.1,y1.1]:=by
   rw[hd];simp[DataW.weights,ht,hty]
  obtain⟨x0,e0⟩:=hA (d:=y0.1) (ps:=y0.2) g0 (fun m hm=>hw m (by rw[Ah];exact DataW.weights_mem_each (j:=0) rfl rfl m hm));obtain⟨x1,e1⟩:=hB (d:=y1.1) (ps:=y1.2) g1 (fun m hm=>hw m (by rw[Ah];exact DataW.weights_mem_each (j:=1) rfl rfl m hm));refine⟨(x0,x1),_,_,?_,e0,e1⟩;rw[List.drop_zero,List.take_of_length_le (l:=cs.drop A.n) (by rw[List.length_drop,hl,ct];omega),List.take_append_drop]
theorem gS.arg {P:Program} {α:Type} {A:RT α} {t:TypeId} {H:Type} {enc:TypeId×Value→H} {w:World} {base:Nat} {spare:Nat→Bool} {v:Value} {d:DataW H} {ps:List MemPlace} (hA:gS P t A)
  (h:DataW.Trod enc P w base spare true t v d ps) (hv:∀vs,vs.length=A.n→v.cells.toList=vs→(∀u∈vs,u.oneCell'=true)→v=A.val vs) (hw:∀n∈DataW.weights P t d,n≤reachBytes):∃x,A.V aE w x v:=by
 obtain⟨fuel,hf⟩:=h;obtain⟨x,hx⟩:=hA hf hw;exact⟨x,_,hx,hv _ (A.len hx) rfl (A.one hx)⟩
theorem Ga {P:Program} {f:FuncId} {args:Array Value} {w:World} (h:Spec P f args w (fun v' w'=>v'= .bool true∧Step aE w aE w' aE)):Calls P f args w fun e w'=>e= .returned (.bool true)∧Below w.heap.size w w':=
 Calls.mono h fun _ _ ⟨_,he,hv,s⟩=>⟨by rw[he,hv],s.below⟩
theorem wf_i64 {x:Int} (h:(Lit.int .i64 x).wf=true): -9223372036854775808≤x∧x≤9223372036854775807:=by
 simp only[Lit.wf,Bool.and_eq_true,decide_eq_true_eq]at h;exact h
end Go.K
namespace Go.K
structure bW (M:aL) where
 p:Value→World→Prop
 U:aL
 mono:∀{v w w' N},p v w→Step M w M w' N→(∀b,N b→U b)→p v w'
def Eu:aL:=fun _=>True
def bW.eq {M:aL} (c:Value):bW M:=⟨fun v _=>v=c,Eu,fun h _ _=>h⟩
def bW.V {M:aL} {α:Type} (A:RT α) (x:α):bW M:=⟨fun v w=>A.V M w x v,Eu,fun h s _=>h.le s.le⟩
def bW.ptr {M:aL} {α:Type} (A:RT α) (x:α) (hn:0<A.n:=by decide):bW M:=⟨fun v w=>cc A M w v x,Eu,fun h s _=>h.le hn s.le⟩
def bW.pure {M:aL} (q:Value→Prop):bW M:=⟨fun v _=>q v,Eu,fun h _ _=>h⟩
def bW.mk' {M:aL} (p:Value→World→Prop) (mono:∀{v w w'},p v w→Step M w M w' aE→p v w'):bW M:=⟨p,aE,fun h s hN=>mono h (s.cw hN fun _ hb=>hb.elim)⟩
def iU:List aL→aL
 |[]=>aE
 |[N]=>N
 |N::Ns=>fun b=>N b∨iU Ns b
theorem eY:∀{Ns:List aL} {b:Nat},iU Ns b↔∃N∈Ns,N b
 |[],b=>by simp[iU,aE]
 |[N],b=>by simp[iU]
 |N::N'::Ns,b=>by
  have:=eY (Ns:=N'::Ns) (b:=b);simp only[iU];rw[this];simp
def cB (o:Oper):List Nat:=(o.after.toList.filter (Region.binds .any)).map (·.on)
def ko (l:List Oper) (j t:Nat):Bool:=l.all fun o=> !(o.dst==some t)||(cB o).contains j
def jH (l:List Oper) (j:Nat) (L:Sl):Sl:=L.filter fun p=>ko l j p.1
def Ev (d:Option Nat) (v:Value) (L:Sl):Sl:=match d with|some d=>(d,v)::L|none=>L
def eF:List Oper→Nat→Bool
 |[],_=>true
 |o::l,k=>(cB o).all (Nat.blt · k)&&(match o.dst with|some d=>l.all (fun o'=> !(o'.dst==some d))|none=>true)&&eF l (k+1)
def JV (E:List (Nat×aL)) (j:Nat):aL:=iU ((E.filter fun p=>p.1==j).map (·.2))
def Ro (l:List Oper) (E:List (Nat×aL)) (j:Nat):aL:=iU ((E.filter fun p=> !(p.1==j)&& !((l[p.1]?.map cB).getD []).contains j).map (·.2))
def uj {M:aL} (E:List (Nat×aL)):List Oper→List (bW M)→Nat→Prop
 |o::os,s::ss,i=>(∀p∈E.filter (fun p=> !(p.1==i)&& !(cB o).contains p.1),∀b,p.2 b→s.U b)∧uj E os ss (i+1)
 |_,_,_=>True
theorem uj.get {M:aL} {E:List (Nat×aL)}:∀{os:List Oper} {ss:List (bW M)} {k:Nat},uj E os ss k→∀i o s,os[i]? =some o→ss[i]? =some s→∀p∈E,p.1≠k+i→¬p.1∈cB o→∀b,p.2 b→s.U b
 |[],_,_,_,i,_,_,h,_,_,_,_,_,_,_=>by simp at h
 |_::_,[],_,_,i,_,_,_,h,_,_,_,_,_,_=>by simp at h
 |x::os,y::ss,k,h,0,o,s,ho,hs,p,hp,h1,h2,b,hb=>by
  simp at ho hs;subst ho;subst hs;exact h.1 p (List.mem_filter.2 ⟨hp,by simp;exact⟨h1,h2⟩⟩) b hb
 |x::os,y::ss,k,h,i+1,o,s,ho,hs,p,hp,h1,h2,b,hb=>uj.get h.2 i o s (by simpa using ho) (by simpa using hs) p hp (by omega) h2 b hb
def Ai {M:aL} (F:List (Nat×aL)) (l:List Oper) (S:List (bW M)):Prop:=
 ∀i o s j oj sj,l[i]? =some o→S[i]? =some s→l[j]? =some oj→S[j]? =some sj→j≠i→¬j∈cB o→∀v vj w w',s.p v w→Step M w M w' (JV F j)→sj.p vj w'→s.p v w'
theorem Gb {F:List (Nat×aL)} {j b:Nat} (hb:JV F j b):∃p∈F,p.1=j∧p.2 b:=by
 obtain⟨N,hN,zP⟩:=eY.1 hb;obtain⟨p,hp,rfl⟩:=List.mem_map.1 hN;obtain⟨h1,h2⟩:=List.mem_filter.1 hp;exact⟨p,h1,by simpa using h2,zP⟩
theorem uj.st {M:aL} {F:List (Nat×aL)} {l:List Oper} {S:List (bW M)} (h:uj F l S 0):Ai F l S:=fun i o s j oj sj ho hs _ _ fg hnp v vj w w' hp st _=>
 s.mono hp st fun b hb=>by
  obtain⟨p,h1,h6,h7⟩:=Gb hb;exact h.get i o s ho hs p h1 (by omega) (by rw[h6];exact hnp) b h7
def Rp {M:aL} (E:List (Nat×aL)) (j:Nat) (d:Option Nat) (s:bW M) (w0:World) (L:Sl) (ds:List Deferred):Kt:=fun e L' oC w'=>e= .normal∧oC=ds∧∃v,L'=Ev d v L∧s.p v w'∧Step M w0 M w' (JV E j)
def la {M:aL} (l:List Oper) (S:List (bW M)) (w:World) (k:Sl→Prop):List Nat→Sl→Prop
 |[],acc=>k acc
 |i::is,acc=>match l[i]?,S[i]? with
  |some o,some s=>match o.dst with
   |some d=>∀v,s.p v w→la l S w k is ((d,v)::acc)
   |none=>∀v,s.p v w→la l S w k is acc
  |_,_=>la l S w k is acc
def gD {M:aL} (w:World) (k:Sl→Prop):List Oper→List (bW M)→Sl→Prop
 |o::os,s::ss,acc=>match o.dst with
  |some d=>∀v,s.p v w→gD w k os ss ((d,v)::acc)
  |none=>∀v,s.p v w→gD w k os ss acc
 |_,_,acc=>k acc
def Qy (P:Program) (r:Option Nat) (n:Nat) {M:aL} (F:List (Nat×aL)) (w:World) (l:List Oper) (S:List (bW M)) (ds:List Deferred) (L:Sl) (j:Nat) (o:Oper) (s:bW M):Prop:=
 ∀w' E,Step M w M w' (Ro l F j)→la l S w' (fun acc=>Rg P r n l.toArray [o] (acc++(jH l j L++E)) ds w' (Rp F j o.dst s w' (acc++(jH l j L++E)) ds)) (cB o) []
def bB (P:Program) (r:Option Nat) (n:Nat) {M:aL} (F:List (Nat×aL)) (w:World) (l:List Oper) (S:List (bW M)) (ds:List Deferred) (L:Sl):List Oper→List (bW M)→Nat→Prop
 |o::os,s::ss,j=>Qy P r n F w l S ds L j o s∧bB P r n F w l S ds L os ss (j+1)
 |[],_,_=>True
 |_::_,[],_=>False
theorem bB.cons {P:Program} {r:Option Nat} {n:Nat} {M:aL} {F:List (Nat×aL)} {w:World} {l:List Oper} {S:List (bW M)} {ds:List Deferred} {L:Sl} {o:Oper} {os:List Oper} {s:bW M} {ss:List (bW M)} {j:Nat}
  (h:Qy P r n F w l S ds L j o s) (h':bB P r n F w l S ds L os ss (j+1)):bB P r n F w l S ds L (o::os) (s::ss) j:=⟨h,h'⟩
theorem bB.nil {P:Program} {r:Option Nat} {n:Nat} {M:aL} {F:List (Nat×aL)} {w:World} {l:List Oper} {S:List (bW M)} {ds:List Deferred} {L:Sl} {ss:List (bW M)} {j:Nat}:bB P r n F w l S ds L [] ss j:=by
 unfold bB;trivial
section
variable {P:Program} {r:Option Nat} {n:Nat} {L:Sl} {ds:List Deferred} {w:World} {K:Kt} {M:aL} {F:List (Nat×aL)}
theorem kX {A B:Sl} {t:Nat} {v:Value} (h:lk (A++B) t=some v):lk A t=some v∨lk B t=some v:=by
 induction A with
 |nil=>exact .inr h
 |cons p A ih=>
  obtain⟨k,u⟩:=p;simp only[List.cons_append,lk]at h ⊢
  cases hb:Nat.beq k t with
  |true=>rw[hb]at h;exact .inl h
  |false=>rw[hb]at h;exact ih h
theorem oD {A B:Sl} {t:Nat} (h:∃v,lk B t=some v):∃v,lk (A++B) t=some v:=by
 induction A with
 |nil=>exact h
 |cons p A ih=>
  obtain⟨k,u⟩:=p;simp only[List.cons_append,lk]
  cases hb:Nat.beq k t with
  |true=>exact⟨u,rfl⟩
  |false=>exact ih
theorem jo {f:Nat→Bool} {A:Sl} {t:Nat} {v:Value} (h:lk (A.filter fun p=>f p.1) t=some v):f t=true∧lk A t=some v:=by
 induction A with
 |nil=>simp[lk]at h
 |cons p A ih=>
  obtain⟨k,u⟩:=p;rw[List.filter_cons]at h
  split at h
  ·rename_i hf
   simp only[lk]at h ⊢
   cases hb:Nat.beq k t with
   |true=>
    rw[hb]at h;rw[←Nat.eq_of_beq_eq_true hb];exact⟨hf,h⟩
   |false=>rw[hb]at h;exact ih h
  ·rename_i hf
   obtain⟨h1,h2⟩:=ih h;refine⟨h1,?_⟩;simp only[lk]
   cases hb:Nat.beq k t with
   |true=>rw[Nat.eq_of_beq_eq_true hb]at hf;exact absurd h1 hf
   |false=>exact h2
def Ew (a:Act):Sl:=(List.range a.tmps.size).map fun t=>(t,a.tmps.getD t undef)
theorem tg (f:Nat→Value):∀(m s t:Nat) (v:Value),lk ((List.range' s m).map fun t=>(t,f t)) t=some v→s≤t∧t<s+m∧v=f t
 |0,s,t,v,h=>by simp[lk]at h
 |m+1,s,t,v,h=>by
  simp only[List.range'_succ,List.map_cons,lk]at h
  cases hb:Nat.beq s t with
  |true=>rw[hb]at h;cases h;have:=Nat.eq_of_beq_eq_true hb;subst this;exact⟨Nat.le_refl _,by omega,rfl⟩
  |false=>
   rw[hb]at h;obtain⟨h1,h2,h3⟩:=tg f m (s+1) t v h;exact⟨by omega,by omega,h3⟩
theorem qQ (f:Nat→Value):∀(m s t:Nat),s≤t→t<s+m→∃v,lk ((List.range' s m).map fun t=>(t,f t)) t=some v
 |0,s,t,h1,h2=>by omega
 |m+1,s,t,h1,h2=>by
  simp only[List.range'_succ,List.map_cons,lk]
  cases hb:Nat.beq s t with
  |true=>exact⟨_,rfl⟩
  |false=>
   have:s≠t:=fun e=>by subst e;simp[Nat.beq_refl]at hb
   exact qQ f m (s+1) t (by omega) (by omega)
def LK (F:List (Nat×aL)) (D:Nat→Prop):aL:=fun b=>∃p∈F,D p.1∧p.2 b
structure Inv (F:List (Nat×aL)) (S:List (bW M)) (l:List Oper) (w0:World) (L:Sl) (ds:List Deferred) (n:Nat) (D:Nat→Prop) (a:Act) (w:World):Prop where
 step:Step M w0 M w (LK F D)
 fin:∀i o s,l[i]? =some o→S[i]? =some s→D i→o.dst=none→∃v,s.p v w
 size:n≤a.tmps.size
 defers:a.defers=ds
 done:∀i o s d,l[i]? =some o→S[i]? =some s→D i→o.dst=some d→∃v,a.tmps[d]? =some v∧s.p v w
 base:∀t v,lk L t=some v→(∀i o,l[i]? =some o→D i→o.dst≠some t)→a.tmps[t]? =some v
 closed:∀i o,l[i]? =some o→D i→∀k∈cB o,D k
theorem cQ:∀{l:List Oper} {k:Nat},eF l k=true→∀i o,l[i]? =some o→∀j∈cB o,j<k+i
 |[],_,_,i,o,h,_,_=>by simp at h
 |x::l,k,hl,0,o,h,j,hj=>by
  simp at h;subst h;simp only[eF,Bool.and_eq_true,List.all_eq_true]at hl;have:=hl.1.1 j hj;simpa[Nat.blt_eq]using this
 |x::l,k,hl,i+1,o,h,j,hj=>by
  simp only[eF,Bool.and_eq_true]at hl;have:=cQ hl.2 i o (by simpa using h) j hj;omega
theorem rX:∀{l:List Oper} {k:Nat},eF l k=true→∀(i j:Nat) (o o':Oper) (d:Nat),l[i]? =some o→l[j]? =some o'→i≠j→o.dst=some d→o'.dst≠some d
 |[],_,_,i,_,_,_,_,h,_,_,_=>by simp at h
 |x::l,k,hl,0,0,_,_,_,_,_,fg,_=>absurd rfl fg
 |x::l,k,hl,0,j+1,o,o',d,hi,hj,_,hd=>by
  simp at hi;subst hi;simp only[eF,Bool.and_eq_true,hd,List.all_eq_true]at hl;have hm:o'∈l:=List.mem_of_getElem? (by simpa using hj);have:=hl.1.2 o' hm;simpa using this
 |x::l,k,hl,i+1,0,o,o',d,hi,hj,_,hd=>by
  simp at hj;subst hj;intro LL;simp only[eF,Bool.and_eq_true,LL,List.all_eq_true]at hl;have hm:o∈l:=List.mem_of_getElem? (by simpa using hi);have:=hl.1.2 o hm;simp[hd]at this
 |x::l,k,hl,i+1,j+1,o,o',d,hi,hj,fg,hd=>by
  simp only[eF,Bool.and_eq_true]at hl;exact rX hl.2 i j o o' d (by simpa using hi) (by simpa using hj) (by omega) hd
theorem bB.get {w:World} {l:List Oper} {S:List (bW M)} {ds:List Deferred} {L:Sl}:∀{os:List Oper} {ss:List (bW M)} {k:Nat},bB P r n F w l S ds L os ss k→∀i o,os[i]? =some o→∃s,ss[i]? =some s∧Qy P r n F w l S ds L (k+i) o s
 |[],_,_,_,i,o,h=>by simp at h
 |x::os,[],_,h,_,_,_=>by simp[bB]at h
 |x::os,s::ss,k,h,0,o,hi=>by simp at hi;subst hi;exact⟨s,rfl,h.1⟩
 |x::os,s::ss,k,h,i+1,o,hi=>by
  obtain⟨s',h1,h2⟩:=bB.get h.2 i o (by simpa using hi);exact⟨s',by simpa using h1,by rwa [show k+(i+1)=k+1+i from by omega]⟩
theorem la.use {l:List Oper} {S:List (bW M)} {w:World} {k:Sl→Prop} {a:Act} {js:List Nat} (hf:∀(i:Nat) (o:Oper) (s:bW M),l[i]? =some o→S[i]? =some s→o.dst=none→i∈js→∃v,s.p v w) (hd:∀(i:Nat) (o:Oper) (s:bW M) (d:Nat),l[i]? =some o→S[i]? =some s→o.dst=some d→i∈js→∃v,a.tmps[d]? =some v∧s.p v w):
  ∀(is:List Nat) (acc:Sl),(∀i∈is,i∈js)→(∀t v,lk acc t=some v→a.tmps[t]? =some v)→la l S w k is acc→∃Gc,k Gc∧∀t v,lk Gc t=some v→a.tmps[t]? =some v
 |[],acc,_,ha,h=>⟨acc,h,ha⟩
 |i::is,acc,hm,ha,h=>by
  have tQ:∀i∈is,i∈js:=fun x hx=>hm x (List.mem_cons_of_mem _ hx)
  simp only[la]at h
  split at h
  ·rename_i o s ho hs
   split at h
   ·rename_i d yJ
    obtain⟨v,h1,h2⟩:=hd i o s d ho hs yJ (hm i (List.mem_cons_self ..));refine la.use hf hd is _ tQ ?_ (h v h2);intro t u hu;simp only[lk]at hu
    cases hb:Nat.beq d t with
    |true=>rw[hb]at hu;cases hu;rw[←Nat.eq_of_beq_eq_true hb];exact h1
    |false=>rw[hb]at hu;exact ha t u hu
   ·rename_i yJ
    obtain⟨v,h2⟩:=hf i o s ho hs yJ (hm i (List.mem_cons_self ..));exact la.use hf hd is _ tQ ha (h v h2)
  ·exact la.use hf hd is _ tQ ha h
theorem gD.use {w:World} {k:Sl→Prop} {a:Act}:∀(os:List Oper) (ss:List (bW M)) (acc:Sl),(∀(i:Nat) (o:Oper) (s:bW M),os[i]? =some o→ss[i]? =some s→o.dst=none→∃v,s.p v w)→(∀(i:Nat) (o:Oper) (s:bW M) (d:Nat),os[i]? =some o→ss[i]? =some s→o.dst=some d→∃v,a.tmps[d]? =some v∧s.p v w)→
  (∀t v,lk acc t=some v→a.tmps[t]? =some v)→gD w k os ss acc→∃Gc,k Gc∧∀t v,lk Gc t=some v→a.tmps[t]? =some v
 |[],_,acc,_,_,ha,h=>⟨acc,by simpa[gD]using h,ha⟩
 |_::_,[],acc,_,_,ha,h=>⟨acc,by simpa[gD]using h,ha⟩
 |o::os,s::ss,acc,hf,hd,ha,h=>by
  have hf':∀(i:Nat) (o:Oper) (s:bW M),os[i]? =some o→ss[i]? =some s→o.dst=none→∃v,s.p v w:=fun i o s h1 h2=>hf (i+1) o s (by simpa using h1) (by simpa using h2)
  have LL:∀(i:Nat) (o:Oper) (s:bW M) (d:Nat),os[i]? =some o→ss[i]? =some s→o.dst=some d→∃v,a.tmps[d]? =some v∧s.p v w:=fun i o s d h1 h2=>hd (i+1) o s d (by simpa using h1) (by simpa using h2)
  simp only[gD]at h
  split at h
  ·rename_i d yJ
   obtain⟨v,h1,h2⟩:=hd 0 o s d rfl rfl yJ;refine gD.use os ss _ hf' LL ?_ (h v h2);intro t u hu;simp only[lk]at hu
   cases hb:Nat.beq d t with
   |true=>rw[hb]at hu;cases hu;rw[←Nat.eq_of_beq_eq_true hb];exact h1
   |false=>rw[hb]at hu;exact ha t u hu
  ·rename_i yJ
   obtain⟨v,h2⟩:=hf 0 o s rfl rfl yJ;exact gD.use os ss _ hf' LL ha (h v h2)
theorem l1 {F:Fence} {m:Nat} {ops:Array Oper} {Q:Exit→Act→World→Prop} {i:Nat} {rest:List Nat} {o:Oper} {a:Act} {w:World} (ho:ops[i]? =some o)
  (h:wpListIn F m P ops (fun e a' w'=>e= .normal∧wpOpsIn F m P ops Q rest a' w') [o] a w):wpOpsIn F m P ops Q (i::rest) a w:=by
 simp only[wpOpsIn,ho];simp only[wpListIn]at h
 split
 ·rename_i hw
  rw[if_pos hw]at h;obtain⟨h1,h2⟩:=h;refine⟨h1,?_⟩;generalize (o.semAt F.round a.eval).run P w=res at h2 ⊢
  have Rq:∀{f args w'},CallsIn F (m-1) P f args w' (fun
    |.returned v,uE=>(True∧wpOpsIn F m P ops Q rest (a.put o.dst v) uE)
    |.panicked chain,uE=>(Exit.panic chain= .normal∧wpOpsIn F m P ops Q rest a uE)
    |.outgrown,_=>LetsOut (fun e a' w'=>e= .normal∧wpOpsIn F m P ops Q rest a' w'))→CallsIn F (m-1) P f args w' (fun
    |.returned v,uE=>wpOpsIn F m P ops Q rest (a.put o.dst v) uE
    |.panicked chain,uE=>Q (.panic chain) a uE
    |.outgrown,_=>LetsOut Q):=fun h=>h.mono fun e uE he=>by
   cases e with
   |returned v=>exact he.2
   |panicked c=>exact absurd he.1 (by simp)
   |outgrown=>obtain⟨a,w,h,_⟩:=he;exact absurd h (by simp)
  cases res with
  |ok nx w'=>
   cases nx with
   |value v=>exact h2.2
   |skip=>exact h2.2
   |defer d=>exact h2.2
   |enter f args=>exact⟨h2.1,Rq h2.2⟩
   |row row args=>exact⟨h2.1,h2.2.mono fun _ _ he=>he.2⟩
   |round l f tmps qj body=>exact⟨h2.1,h2.2.mono fun e uE he=>by
     cases e with
     |returned v=>exact he.2
     |panicked c=>exact absurd he.1 (by simp)
     |outgrown=>obtain⟨a,w,h,_⟩:=he;exact absurd h (by simp)⟩
   |_=>exact h2.elim
  |halt x w'=>
   cases x with
   |panic v=>exact absurd h2.1 (by simp)
   |_=>exact h2.elim
 ·rename_i hw
  rw[if_neg hw]at h;exact⟨h.1,h.2.2⟩
theorem uF {F:Fence} {m:Nat} {ops:Array Oper} {Q Q':Exit→Act→World→Prop} {o:Oper} {a:Act} {w:World} (h:wpListIn F m P ops Q [o] a w) (hq:∀e a w,Q e a w→Q' e a w):wpListIn F m P ops Q' [o] a w:=by
 simp only[wpListIn]at h ⊢
 split
 ·rename_i hw
  rw[if_pos hw]at h;obtain⟨h1,h2⟩:=h;refine⟨h1,?_⟩;generalize (o.semAt F.round a.eval).run P w=res at h2 ⊢
  cases res with
  |ok nx w'=>
   cases nx with
   |value v=>exact hq _ _ _ h2
   |skip=>exact hq _ _ _ h2
   |defer d=>exact hq _ _ _ h2
   |enter f args=>exact⟨h2.1,h2.2.mono fun e uE he=>by
     cases e with
     |returned v=>exact hq _ _ _ he
     |panicked c=>exact hq _ _ _ he
     |outgrown=>obtain⟨a,w,h⟩:=he;exact⟨a,w,hq _ _ _ h⟩⟩
   |row row args=>exact⟨h2.1,h2.2.mono fun _ _ he=>hq _ _ _ he⟩
   |round l f tmps qj body=>exact⟨h2.1,h2.2.mono fun e uE he=>by
     cases e with
     |returned v=>exact hq _ _ _ he
     |panicked c=>exact hq _ _ _ he
     |outgrown=>obtain⟨a,w,h⟩:=he;exact⟨a,w,hq _ _ _ h⟩⟩
   |_=>exact h2.elim
  |halt x w'=>
   cases x with
   |panic v=>exact hq _ _ _ h2
   |_=>exact h2.elim
 ·rename_i hw
  rw[if_neg hw]at h;exact⟨h.1,hq _ _ _ h.2⟩
theorem Inv.next {w0:World} {l:List Oper} {S:List (bW M)} {D:Nat→Prop} {a:Act} {w:World} (hi:Inv F S l w0 L ds n D a w) (dp:eF l 0=true) (th:Ai F l S) (ng:∀p∈F,∀b,p.2 b→M b)
  {j:Nat} {o:Oper} (rI:∃s,S[j]? =some s∧Qy P r n F w0 l S ds L j o s) (hj:l[j]? =some o) (oy: ¬D j) (hp:∀k∈cB o,D k) {Q:Exit→Act→World→Prop} {rest:List Nat}
  (hk:∀a' w',Inv F S l w0 L ds n (fun i=>i=j∨D i) a' w'→wpOpsIn (FW r) 0 P l.toArray Q rest a' w'):wpOpsIn (FW r) 0 P l.toArray Q (j::rest) a w:=by
 obtain⟨s,hs,ho⟩:=rI
 have Ex:Step M w0 M w (Ro l F j):=hi.step.cw (fun b ⟨p,hp,hD,hb⟩=>eY.2 ⟨p.2,List.mem_map.2 ⟨p,List.mem_filter.2 ⟨hp,by
   simp only[Bool.and_eq_true,Bool.not_eq_true',beq_eq_false_iff_ne,ne_eq];refine⟨fun e=>oy (e▸hD),?_⟩
   cases hl:l[p.1]? with
   |none=>rfl
   |some oi=>
    simp only[Option.map_some,Option.getD_some]
    cases hc:(cB oi).contains j with
    |false=>rfl
    |true=>exact absurd (hi.closed p.1 oi hl hD j (by simpa using hc)) oy⟩,rfl⟩,hb⟩)
  (fun b hb=>by
   obtain⟨N,hN,zP⟩:=eY.1 hb;obtain⟨p,hp,rfl⟩:=List.mem_map.1 hN;exact ng p (List.mem_filter.1 hp).1 b zP)
 have rY:∀b,JV F j b→∃p∈F,p.1=j∧p.2 b:=fun b hb=>by
  obtain⟨N,hN,zP⟩:=eY.1 hb;obtain⟨p,hp,rfl⟩:=List.mem_map.1 hN;obtain⟨h1,h2⟩:=List.mem_filter.1 hp;exact⟨p,h1,by simpa using h2,zP⟩
 have FO:Step M w0 M w (LK F fun i=>i=j∨D i):=hi.step.cw (fun b ⟨p,hp,hD,hb⟩=>⟨p,hp,.inr hD,hb⟩) (fun b ⟨p,hp,_,hb⟩=>ng p hp b hb);refine l1 (o:=o) (by simpa using hj) ?_;obtain⟨acc,kP,Nt⟩:=la.use (a:=a) (js:=cB o) (fun i o' s' h1 h2 h3 h4=>hi.fin i o' s' h1 h2 (hp i h4) h3) (fun i o' s' d h1 h2 h3 h4=>hi.done i o' s' d h1 h2 (hp i h4) h3) (cB o) [] (fun _ h=>h) (fun t v h=>by simp[lk]at h) (ho w (Ew a) Ex)
 have kO:∀t v,lk (acc++(jH l j L++Ew a)) t=some v→a.tmps[t]? =some v:=by
  intro t v h;rcases kX h with h|h
  ·exact Nt t v h
  rcases kX h with h|h
  ·obtain⟨h1,h2⟩:=jo (f:=ko l j) h;refine hi.base t v h2 fun i o' gy hD hd=> ?_
   simp only[ko,List.all_eq_true]at h1;have:=h1 o' (List.mem_of_getElem? gy);simp only[hd,beq_self_eq_true,Bool.not_true,Bool.false_or,List.contains_iff_mem]at this;exact oy (hi.closed i o' gy hD j this)
  ·simp only[Ew,List.range_eq_range']at h;obtain⟨_,h2,h3⟩:=tg _ _ _ _ _ h;rw[h3,Array.getD_eq_getD_getElem?,Array.getElem?_eq_getElem (by omega)];rfl
 have LM:∀t,t<a.tmps.size→∃v,lk (acc++(jH l j L++Ew a)) t=some v:=fun t ht=>by
  refine oD (oD ?_);simp only[Ew,List.range_eq_range'];exact qQ _ _ _ _ (Nat.zero_le _) (by omega)
 have h1:=kP.run a ⟨hi.size,hi.defers,kO⟩
 have key:∀e a' w',up n (Rp F j o.dst s w (acc++(jH l j L++Ew a)) ds) e a' w'→e= .normal∧wpOpsIn (FW r) 0 P l.toArray Q rest a' w':=by
  rintro e a' w' ⟨L',oC,qh,rfl,rfl,v,rfl,Ww,km⟩;refine⟨rfl,hk a' w' ⟨FO.trans km fun b _ hb=>by obtain⟨p,h1,h2,h3⟩:=rY b hb;exact⟨p,h1,.inl h2,h3⟩,?_,qh.size,qh.defers,?_,?_,?_⟩⟩
  ·intro i o' s' h2 h3 h4 h5;by_cases iy:i=j
   ·subst iy;rw[hj]at h2;cases h2;rw[hs]at h3;cases h3;exact⟨v,Ww⟩
   ·have zQ:D i:=h4.resolve_left iy;obtain⟨u,jP⟩:=hi.fin i o' s' h2 h3 zQ h5;exact⟨u,th i o' s' j o s h2 h3 hj hs (fun e=>iy e.symm) (fun Ni=>oy (hi.closed i o' h2 zQ j Ni)) u v w w' jP km Ww⟩
  ·intro i o' s' d h2 h3 h4 h5;by_cases iy:i=j
   ·subst iy;rw[hj]at h2;cases h2;rw[hs]at h3;cases h3;exact⟨v,qh.at_ d v (by rw[h5];simp[Ev,lk,Nat.beq_refl]),Ww⟩
   ·have zQ:D i:=h4.resolve_left iy;obtain⟨u,kq,jP⟩:=hi.done i o' s' d h2 h3 zQ h5;refine⟨u,?_,th i o' s' j o s h2 h3 hj hs (fun e=>iy e.symm) (fun Ni=>oy (hi.closed i o' h2 zQ j Ni)) u v w w' jP km Ww⟩;have Nu:d<a.tmps.size:=(Array.getElem?_eq_some_iff.1 kq).1;obtain⟨u',Nv⟩:=LM d Nu;have e1:=kO d u' Nv;rw[kq]at e1;cases e1;refine qh.at_ d u ?_
    cases Xs:o.dst with
    |none=>simpa[Ev]using Nv
    |some d'=>
     have fg:d'≠d:=fun e=>rX dp i j o' o d h2 hj iy h5 (by rw[Xs,e])
     have hb:Nat.beq d' d=false:=by
      cases hb:Nat.beq d' d with
      |false=>rfl
      |true=>exact absurd (Nat.eq_of_beq_eq_true hb) fg
     simp only[Ev,lk,hb];exact Nv
  ·intro t u ht Nw;have jQ:o.dst≠some t:=Nw j o hj (.inl rfl);have e1:=hi.base t u ht fun i o' h2 h3=>Nw i o' h2 (.inr h3)
   have Nu:t<a.tmps.size:=(Array.getElem?_eq_some_iff.1 e1).1;obtain⟨u',Nv⟩:=LM t Nu;have e2:=kO t u' Nv;rw[e1]at e2;cases e2;refine qh.at_ t u ?_
   cases Xs:o.dst with
   |none=>simpa[Ev]using Nv
   |some d'=>
    have fg:d'≠t:=fun e=>jQ (by rw[Xs,e])
    have hb:Nat.beq d' t=false:=by
     cases hb:Nat.beq d' t with
     |false=>rfl
     |true=>exact absurd (Nat.eq_of_beq_eq_true hb) fg
    simp only[Ev,lk,hb];exact Nv
  ·intro i o' h2 h3 k rZ;rcases h3 with rfl|h3
   ·rw[hj]at h2;cases h2;exact .inr (hp k rZ)
   ·exact .inr (hi.closed i o' h2 h3 k rZ)
 clear hk ho th;simp only[wpListIn]at h1 ⊢
 split
 ·rename_i hw
  rw[if_pos hw]at h1;obtain⟨h3,h4⟩:=h1;refine⟨h3,?_⟩;generalize (o.semAt (FW r).round a.eval).run P w=res at h4 ⊢
  cases res with
  |ok nx w'=>
   cases nx with
   |value v=>exact⟨trivial,(key _ _ _ h4).2⟩
   |skip=>exact⟨trivial,(key _ _ _ h4).2⟩
   |defer d=>exact⟨trivial,(key _ _ _ h4).2⟩
   |enter f args=>exact⟨h4.1,h4.2.mono fun e uE he=>by
     cases e with
     |returned v=>exact⟨trivial,(key _ _ _ he).2⟩
     |panicked c=>exact key _ _ _ he
     |outgrown=>obtain⟨a,w,h⟩:=he;exact⟨a,w,key _ _ _ h⟩⟩
   |row row args=>exact⟨h4.1,h4.2.mono fun _ _ he=>⟨trivial,(key _ _ _ he).2⟩⟩
   |round l f tmps qj body=>exact⟨h4.1,h4.2.mono fun e uE he=>by
     cases e with
     |returned v=>exact⟨trivial,(key _ _ _ he).2⟩
     |panicked c=>exact key _ _ _ he
     |outgrown=>obtain⟨a,w,h⟩:=he;exact⟨a,w,key _ _ _ h⟩⟩
   |_=>exact h4.elim
  |halt x w'=>
   cases x with
   |panic v=>exact key _ _ _ h4
   |_=>exact h4.elim
 ·rename_i hw
  rw[if_neg hw]at h1;exact⟨h1.1,trivial,(key _ _ _ h1.2).2⟩
theorem iz:∀{bs:List Bool},bs.countP (!·)=0→∀i,i<bs.length→bs[i]? =some true
 |[],_,i,h=>by simp at h
 |b::bs,h,0,_=>by
  cases b with
  |true=>rfl
  |false=>simp at h
 |b::bs,h,i+1,hi=>by
  cases b with
  |true=>simpa using iz (bs:=bs) (by simpa using h) i (by simpa using hi)
  |false=>simp at h
theorem jX:∀{bs:List Bool} {i:Nat},bs[i]? =some false→(bs.set i true).countP (!·)+1=bs.countP (!·)
 |[],i,h=>by simp at h
 |b::bs,0,h=>by simp at h;subst h;simp
 |b::bs,i+1,h=>by
  have:=jX (bs:=bs) (i:=i) (by simpa using h);rw[List.set_cons_succ,List.countP_cons,List.countP_cons];omega
theorem lg {bs:List Bool} (h:0<bs.countP (!·)):∃i:Nat,bs[i]? =some false∧∀k:Nat,k<i→bs[k]? =some true:=by
 induction bs with
 |nil=>simp at h
 |cons b bs ih=>
  cases b with
  |false=>exact⟨0,rfl,fun k hk=>by omega⟩
  |true=>
   obtain⟨i,h1,h2⟩:=ih (by simpa using h)
   exact⟨i+1,by simpa using h1,fun k hk=>by
    cases k with
    |zero=>rfl
    |succ k=>simpa using h2 k (by omega)⟩
theorem Ey {w0:World} {l:List Oper} {S:List (bW M)} (dp:eF l 0=true) (rI:bB P r n F w0 l S ds L l S 0) (th:Ai F l S) (ng:∀p∈F,∀b,p.2 b→M b) {Q:Exit→Act→World→Prop}
  (jI:∀a w,Inv F S l w0 L ds n (fun i=>i<l.length) a w→Q .normal a w):∀(fuel t:Nat) (listed:Array Bool) (a:Act) (w:World),listed.size=l.length→listed.toList.countP (!·)=fuel→
  Inv F S l w0 L ds n (fun i=>listed[i]? =some true) a w→wpOpsIn (FW r) 0 P l.toArray Q (Region.linearise.go .any l.toArray fuel t listed []) a w:=by
 intro fuel
 induction fuel with
 |zero=>
  intro t listed a w kd hc hi;simp only[Region.linearise.go,List.reverse_nil,wpOpsIn];refine jI a w ⟨hi.step.cw (fun b ⟨p,hp,hD,hb⟩=>⟨p,hp,by have:=(Array.getElem?_eq_some_iff.1 hD).1;omega,hb⟩) (fun b ⟨p,hp,_,hb⟩=>ng p hp b hb),fun i o s h1 h2 h3=>hi.fin i o s h1 h2 (by simpa using iz hc i (by simp[kd];exact h3)),hi.size,hi.defers,fun i o s d h1 h2 h3=>hi.done i o s d h1 h2 ?_,fun t v h1 h2=>hi.base t v h1 fun i o h3 h4=>h2 i o h3 ?_,fun i o h1 h2 k hk=>?_⟩
  ·simpa using iz hc i (by simp[kd];exact h3)
  ·exact(List.getElem?_eq_some_iff.1 h3).1
  ·have:=cQ dp i o h1 k hk;omega
 |succ fuel ih=>
  intro t listed a w kd hc hi
  have lh:∀j,j∈Region.ready .any l.toArray listed→∃o,l[j]? =some o∧listed[j]? =some false∧∀k∈cB o,listed[k]? =some true:=by
   intro j hj;simp only[Region.ready,List.mem_filter,List.mem_range,Bool.and_eq_true]at hj;obtain⟨h1,h2,h3⟩:=hj;have dW:j<l.length:=by simpa using h1
   refine⟨l[j],List.getElem?_eq_getElem dW,?_,?_⟩
   ·rw[Array.getElem?_eq_getElem (by omega)];simp only[Array.getD_eq_getD_getElem?,Array.getElem?_eq_getElem (show j<listed.size by omega),Option.getD_some,Bool.not_eq_true']at h2;rw[h2]
   ·intro k hk;simp only[cB,List.mem_map,List.mem_filter]at hk;obtain⟨e,⟨Gd,Ge⟩,rfl⟩:=hk;have h4:l.toArray[j]? =some l[j]:=by simp[dW]
    rw[h4]at h3;simp only[Option.map_some,Option.getD_some,Array.all_eq_true_iff_forall_mem]at h3;have h5:=h3 e (by simpa using Gd);rw[Ge]at h5;simp only[Bool.not_true,Bool.false_or,Array.getD_eq_getD_getElem?]at h5
    cases hx:listed[e.on]? with
    |none=>simp[hx]at h5
    |some b=>simp[hx]at h5;rw[h5]
  have fg:Region.ready .any l.toArray listed≠[]:=by
   obtain⟨i,h1,h2⟩:=lg (bs:=listed.toList) (by omega)
   have dW:i<l.length:=by
    have:=(List.getElem?_eq_some_iff.1 h1).1;simp at this;omega
   intro uG
   have eN:i∈Region.ready .any l.toArray listed:=by
    simp only[Region.ready,List.mem_filter,List.mem_range,Bool.and_eq_true];refine⟨by simpa using dW,?_,?_⟩
    ·have:listed[i]? =some false:=by simpa using h1
     simp[Array.getD_eq_getD_getElem?,this]
    ·have h4:l.toArray[i]? =some l[i]:=by simp[dW]
     rw[h4];simp only[Option.map_some,Option.getD_some,Array.all_eq_true_iff_forall_mem];intro e he
     cases hb:Region.binds .any e with
     |false=>rfl
     |true=>
      have hk:e.on∈cB l[i]:=by
       simp only[cB,List.mem_map,List.mem_filter];exact⟨e,⟨by simpa using he,hb⟩,rfl⟩
      have JW:=cQ dp i l[i] (List.getElem?_eq_getElem dW) _ hk;have:listed[e.on]? =some true:=by simpa using h2 e.on (by omega)
      simp[Array.getD_eq_getD_getElem?,this]
   rw[uG]at eN;cases eN
  simp only[Region.linearise.go]
  change wpOpsIn (FW r) 0 P l.toArray Q (match (Region.ready .any l.toArray listed)[t%(Region.ready .any l.toArray listed).length]? with
   |some i=>Region.linearise.go .any l.toArray fuel (t/(Region.ready .any l.toArray listed).length) (listed.setIfInBounds i true) [i]
   |none=>[].reverse) a w
  have dW:t%(Region.ready .any l.toArray listed).length<(Region.ready .any l.toArray listed).length:=Nat.mod_lt _ (List.length_pos_iff.2 fg);rw[List.getElem?_eq_getElem dW];have eN:=List.getElem_mem dW;generalize (Region.ready .any l.toArray listed)[t%(Region.ready .any l.toArray listed).length]=j at eN;obtain⟨o,h1,h2,h3⟩:=lh j eN;simp only[];rw[linearise_go_acc,List.reverse_singleton,List.singleton_append];refine hi.next dp th ng (by have:=rI.get j o h1;rwa [Nat.zero_add]at this) h1 (by rw[h2];simp) h3 fun a' w' gy=> ?_
  have yH:listed.toList[j]? =some false:=by simpa using h2
  refine ih _ _ _ _ (by simpa using kd) ?_ ?_
  ·have:=jX yH;simp only[Array.toList_setIfInBounds];omega
  ·have yK:j<listed.size:=(Array.getElem?_eq_some_iff.1 h2).1
   have jD:∀i,((listed.setIfInBounds j true)[i]? =some true)↔(i=j∨listed[i]? =some true):=by
    intro i;rw[Array.getElem?_setIfInBounds];by_cases iy:j=i
    ·subst iy;simp[yK]
    ·rw[if_neg iy];exact⟨.inr,fun h=>h.resolve_left (fun e=>iy e.symm)⟩
   exact⟨gy.step.cw (fun b ⟨p,hp,hD,hb⟩=>⟨p,hp,(jD p.1).2 hD,hb⟩) (fun b ⟨p,hp,_,hb⟩=>ng p hp b hb),fun i o s h1 h2 h3=>gy.fin i o s h1 h2 ((jD i).1 h3),gy.size,gy.defers,fun i o s d h1 h2 h3=>gy.done i o s d h1 h2 ((jD i).1 h3),fun t v h1 h2=>gy.base t v h1 fun i o h3 h4=>h2 i o h3 ((jD i).2 h4),fun i o h1 h2 k hk=>(jD k).2 (gy.closed i o h1 ((jD i).1 h2) k hk)⟩
theorem JX {w0:World} {l:List Oper} {o₁:Oper} {S:List (bW M)} (dp:eF (l++[o₁]) 0=true) (jJ:(List.range l.length).all (fun i=>(cB o₁).contains i||(cB o₁).any (fun k=>(((l++[o₁])[k]?.map cB).getD []).contains i))=true) (xJ:S.length=l.length) (rI:bB P r n F w0 (l++[o₁]) S ds L l S 0) (th:Ai F (l++[o₁]) S) (ng:∀p∈F,∀b,p.2 b→M b) {Q:Exit→Act→World→Prop}
  (jI:∀a w,Inv F S (l++[o₁]) w0 L ds n (fun i=>i<l.length) a w→wpListIn (FW r) 0 P (l++[o₁]).toArray (fun e a' w'=>e= .normal∧Q .normal a' w') [o₁] a w):∀(fuel t:Nat) (listed:Array Bool) (a:Act) (w:World),listed.size=(l++[o₁]).length→listed.toList.countP (!·)=fuel→listed[l.length]? =some false→
  Inv F S (l++[o₁]) w0 L ds n (fun i=>listed[i]? =some true) a w→wpOpsIn (FW r) 0 P (l++[o₁]).toArray Q (Region.linearise.go .any (l++[o₁]).toArray fuel t listed []) a w:=by
 intro fuel
 induction fuel with
 |zero=>
  intro t listed a w kd hc ti hi;have:=iz hc l.length (by simp[kd]);have h2:listed.toList[l.length]? =some false:=by simpa using ti
  rw[h2]at this;cases this
 |succ fuel ih=>
  intro t listed a w kd hc ti hi;have Gf:(l++[o₁]).length=l.length+1:=by simp
  have lh:∀j,j∈Region.ready .any (l++[o₁]).toArray listed→∃o,(l++[o₁])[j]? =some o∧listed[j]? =some false∧∀k∈cB o,listed[k]? =some true:=by
   intro j hj;simp only[Region.ready,List.mem_filter,List.mem_range,Bool.and_eq_true]at hj;obtain⟨h1,h2,h3⟩:=hj;have dW:j<(l++[o₁]).length:=by simpa using h1
   refine⟨(l++[o₁])[j],List.getElem?_eq_getElem dW,?_,?_⟩
   ·rw[Array.getElem?_eq_getElem (by omega)];simp only[Array.getD_eq_getD_getElem?,Array.getElem?_eq_getElem (show j<listed.size by omega),Option.getD_some,Bool.not_eq_true']at h2;rw[h2]
   ·intro k hk;simp only[cB,List.mem_map,List.mem_filter]at hk;obtain⟨e,⟨Gd,Ge⟩,rfl⟩:=hk;have h4:(l++[o₁]).toArray[j]? =some (l++[o₁])[j]:=by rw[List.getElem?_toArray];exact List.getElem?_eq_getElem dW
    rw[h4]at h3;simp only[Option.map_some,Option.getD_some,Array.all_eq_true_iff_forall_mem]at h3;have h5:=h3 e (by simpa using Gd);rw[Ge]at h5;simp only[Bool.not_true,Bool.false_or,Array.getD_eq_getD_getElem?]at h5
    cases hx:listed[e.on]? with
    |none=>simp[hx]at h5
    |some b=>simp[hx]at h5;rw[h5]
  have fg:Region.ready .any (l++[o₁]).toArray listed≠[]:=by
   obtain⟨i,h1,h2⟩:=lg (bs:=listed.toList) (by omega)
   have dW:i<(l++[o₁]).length:=by
    have:=(List.getElem?_eq_some_iff.1 h1).1;simp only[Array.length_toList]at this;omega
   intro uG
   have eN:i∈Region.ready .any (l++[o₁]).toArray listed:=by
    simp only[Region.ready,List.mem_filter,List.mem_range,Bool.and_eq_true];refine⟨by simpa using dW,?_,?_⟩
    ·have:listed[i]? =some false:=by simpa using h1
     simp[Array.getD_eq_getD_getElem?,this]
    ·have h4:(l++[o₁]).toArray[i]? =some (l++[o₁])[i]:=by rw[List.getElem?_toArray];exact List.getElem?_eq_getElem dW
     rw[h4];simp only[Option.map_some,Option.getD_some,Array.all_eq_true_iff_forall_mem];intro e he
     cases hb:Region.binds .any e with
     |false=>rfl
     |true=>
      have hk:e.on∈cB (l++[o₁])[i]:=by
       simp only[cB,List.mem_map,List.mem_filter];exact⟨e,⟨by simpa using he,hb⟩,rfl⟩
      have JW:=cQ dp i (l++[o₁])[i] (List.getElem?_eq_getElem dW) _ hk;have:listed[e.on]? =some true:=by simpa using h2 e.on (by omega)
      simp[Array.getD_eq_getD_getElem?,this]
   rw[uG]at eN;cases eN
  simp only[Region.linearise.go]
  change wpOpsIn (FW r) 0 P (l++[o₁]).toArray Q (match (Region.ready .any (l++[o₁]).toArray listed)[t%(Region.ready .any (l++[o₁]).toArray listed).length]? with
   |some i=>Region.linearise.go .any (l++[o₁]).toArray fuel (t/(Region.ready .any (l++[o₁]).toArray listed).length) (listed.setIfInBounds i true) [i]
   |none=>[].reverse) a w
  have dW:t%(Region.ready .any (l++[o₁]).toArray listed).length<(Region.ready .any (l++[o₁]).toArray listed).length:=Nat.mod_lt _ (List.length_pos_iff.2 fg);rw[List.getElem?_eq_getElem dW];have eN:=List.getElem_mem dW;generalize (Region.ready .any (l++[o₁]).toArray listed)[t%(Region.ready .any (l++[o₁]).toArray listed).length]=j at eN;obtain⟨o,h1,h2,h3⟩:=lh j eN;simp only[];rw[linearise_go_acc,List.reverse_singleton,List.singleton_append];have qG:j<l.length+1:=by have:=(List.getElem?_eq_some_iff.1 h1).1;omega
  have yH:listed.toList[j]? =some false:=by simpa using h2
  have Rr:=jX yH;by_cases zR:j=l.length
  ·subst zR;have ho:o=o₁:=by simpa using h1.symm
   subst ho
   have nQ:∀i,i<l.length→listed[i]? =some true:=fun i gy=>by
    have:=List.all_eq_true.1 jJ i (List.mem_range.2 gy);simp only[Bool.or_eq_true,List.contains_iff_mem,List.any_eq_true]at this;rcases this with h|⟨k,rJ,Ez⟩
    ·exact h3 i h
    ·cases Xt:(l++[o])[k]? with
     |none=>rw[Xt]at Ez;simp at Ez
     |some ok=>rw[Xt]at Ez;exact hi.closed k ok Xt (h3 k rJ) i (by simpa using Ez)
   have Wv:fuel=0:=by
    have hz:(listed.toList.set l.length true).countP (!·)=0:=by
     rw[List.countP_eq_zero];intro b hb;obtain⟨i,gy⟩:=List.mem_iff_getElem?.1 hb;rw[List.getElem?_set]at gy
     split at gy
     ·split at gy
      ·cases gy;simp
      ·cases gy
     ·have nR:=(List.getElem?_eq_some_iff.1 gy).1;simp only[Array.length_toList]at nR;have:=nQ i (by omega);have h9:listed.toList[i]? =some true:=by simpa using this
      rw[gy]at h9;cases h9;simp
    omega
   subst Wv;simp only[Region.linearise.go,List.reverse_nil];refine l1 (o:=o) (by simp) ?_;refine jI a w ⟨hi.step.cw (fun b ⟨p,hp,hD,hb⟩=>⟨p,hp,?_,hb⟩) (fun b ⟨p,hp,_,hb⟩=>ng p hp b hb),fun i o s h1 h2 h3=>hi.fin i o s h1 h2 (nQ i h3),hi.size,hi.defers,fun i o s d h1 h2 h3=>hi.done i o s d h1 h2 (nQ i h3),fun t v h4 h5=>hi.base t v h4 fun i o' h6 h7=>h5 i o' h6 ?_,fun i o' h4 h5 k hk=>?_⟩
   ·have nR:=(Array.getElem?_eq_some_iff.1 hD).1;rcases Nat.lt_or_ge p.1 l.length with h|h
    ·exact h
    ·have:p.1=l.length:=by omega
     rw[this,ti]at hD;cases hD
   ·rcases Nat.lt_or_ge i l.length with h|h
    ·exact h
    ·have nR:=(List.getElem?_eq_some_iff.1 h6).1;have:i=l.length:=by omega
     rw[this,ti]at h7;cases h7
   ·have:=cQ dp i o' h4 k hk;omega
  ·have Qz:l[j]? =some o:=by rwa [List.getElem?_append_left (by omega)]at h1
   refine hi.next dp th ng (by have:=rI.get j o Qz;rwa [Nat.zero_add]at this) h1 (by rw[h2];simp) h3 fun a' w' gy=> ?_
   refine ih _ _ _ _ (by simpa using kd) ?_ ?_ ?_
   ·simp only[Array.toList_setIfInBounds];omega
   ·rw[Array.getElem?_setIfInBounds,if_neg zR];exact ti
   ·have yK:j<listed.size:=(Array.getElem?_eq_some_iff.1 h2).1
    have jD:∀i,((listed.setIfInBounds j true)[i]? =some true)↔(i=j∨listed[i]? =some true):=by
     intro i;rw[Array.getElem?_setIfInBounds];by_cases iy:j=i
     ·subst iy;simp[yK]
     ·rw[if_neg iy];exact⟨.inr,fun h=>h.resolve_left (fun e=>iy e.symm)⟩
    exact⟨gy.step.cw (fun b ⟨p,hp,hD,hb⟩=>⟨p,hp,(jD p.1).2 hD,hb⟩) (fun b ⟨p,hp,_,hb⟩=>ng p hp b hb),fun i o s h1 h2 h3=>gy.fin i o s h1 h2 ((jD i).1 h3),gy.size,gy.defers,fun i o s d h1 h2 h3=>gy.done i o s d h1 h2 ((jD i).1 h3),fun t v h1 h2=>gy.base t v h1 fun i o h3 h4=>h2 i o h3 ((jD i).2 h4),fun i o h1 h2 k hk=>(jD k).2 (gy.closed i o h1 ((jD i).1 h2) k hk)⟩
theorem T.Gg {id:Nat} {l:List Oper} {o₁:Oper} (hm:P.follows .mixedOrders=true) (F:List (Nat×aL)) (S:List (bW M)) (dp:eF (l++[o₁]) 0=true) (jJ:(List.range l.length).all (fun i=>(cB o₁).contains i||(cB o₁).any (fun k=>(((l++[o₁])[k]?.map cB).getD []).contains i))=true) (xJ:S.length=l.length) (ng:∀p∈F,∀b,p.2 b→M b) (th:uj F (l++[o₁]) S 0) (rI:bB P r n F w (l++[o₁]) S ds L l S 0)
  (jI:∀w',Step M w M w' (iU (F.map (·.2)))→gD w' (fun acc=>Rg P r n (l++[o₁]).toArray [o₁] (acc++jH (l++[o₁]) (l.length+1) L) ds w' (fun e L ds w=>e= .normal∧K .normal L ds w)) l S []):T P r n (.region id (l++[o₁]).toArray true) L ds w K:=by
 refine⟨fun a ha=>wpIn_region_draw fun t=>?_⟩;simp only[Region.schedule,hm,Bool.true_or,if_true,Region.linearise];have hd:Step M w M {w with drawn:=w.drawn+1} aE:=mC M w;refine JX (w0:=w) (S:=S) dp jJ xJ rI th.st ng (Q:=up n K) ?_ _ t _ a _ (by simp) (by simp[List.countP_replicate]) (by simp[Array.getElem?_replicate]) ⟨hd.cw (fun _ h=>h.elim) (fun b ⟨p,hp,_,hb⟩=>ng p hp b hb),?_,ha.size,ha.defers,?_,?_,?_⟩
 ·intro a' w' hi
  have gT:∀{i:Nat} {o:Oper},l[i]? =some o→(l++[o₁])[i]? =some o∧i<l.length:=fun {i o} h=>by
   have h1:=(List.getElem?_eq_some_iff.1 h).1;exact⟨by rw[List.getElem?_append_left h1];exact h,h1⟩
  obtain⟨acc,h1,h2⟩:=gD.use (a:=a') l S [] (fun i o s h1 h2 h3=>hi.fin i o s (gT h1).1 h2 (gT h1).2 h3) (fun i o s d h1 h2 h3=>hi.done i o s d (gT h1).1 h2 (gT h1).2 h3) (fun t v h=>by simp[lk]at h)
   (jI w' (hi.step.cw (fun b ⟨p,hp,_,hb⟩=>eY.2 ⟨p.2,List.mem_map.2 ⟨p,hp,rfl⟩,hb⟩) (fun b hb=>by
    obtain⟨N,hN,zP⟩:=eY.1 hb;obtain⟨p,hp,rfl⟩:=List.mem_map.1 hN;exact ng p hp b zP)))
  have h3:=h1.run a' ⟨hi.size,hi.defers,fun t v h=>by
   rcases kX h with h|h
   ·exact h2 t v h
   ·obtain⟨h3,h4⟩:=jo (f:=ko (l++[o₁]) (l.length+1)) h;refine hi.base t v h4 fun i o h5 _ h6=> ?_
    simp only[ko,List.all_eq_true]at h3;have:=h3 o (List.mem_of_getElem? h5);simp only[h6,beq_self_eq_true,Bool.not_true,Bool.false_or,List.contains_iff_mem]at this;have h7:=cQ dp i o h5 _ this;have h8:=(List.getElem?_eq_some_iff.1 h5).1;simp at h8;omega⟩
  exact uF h3 fun e a2 w2 ⟨L2,Xu,QA,he,hk⟩=>⟨he,L2,Xu,QA,hk⟩
 ·intro i o s h1 h2 h3;simp[Array.getElem?_replicate]at h3
 ·intro i o s d h1 h2 h3;simp[Array.getElem?_replicate]at h3
 ·intro t v h1 _;exact ha.at_ t v h1
 ·intro i o h1 h2;simp[Array.getElem?_replicate]at h2
def jK (l:List Oper) (k:Nat):Bool:=(List.range' k (l.length-k)).all fun j=>((l[j]?.map cB).getD []).contains (j-1)
theorem jY {l:List Oper} {k:Nat} (h:jK l k=true) {j:Nat} {o:Oper} (hj:k≤j) (ho:l[j]? =some o):j-1∈cB o:=by
 have dW:=(List.getElem?_eq_some_iff.1 ho).1;have:=List.all_eq_true.1 h j (List.mem_range'_1.2 ⟨hj,by omega⟩);rw[ho]at this;simpa using this
theorem Aj {l:List Oper} (dp:eF l 0=true):∀(fuel k t:Nat) (listed:Array Bool),listed.size=l.length→k+fuel=l.length→jK l (k+1)=true→(∀i,i<k→listed[i]? =some true)→(∀i,k≤i→i<l.length→listed[i]? =some false)→(∀i o,l[i]? =some o→i=k→∀j∈cB o,j<k)→
  Region.linearise.go .any l.toArray fuel t listed []=List.range' k fuel:=by
 intro fuel
 induction fuel with
 |zero=>intro k t listed _ _ _ _ _ _;rfl
 |succ fuel ih=>
  intro k t listed kd hk uH h1 h2 h3
  have lh:Region.ready .any l.toArray listed=[k]:=by
   have eN:∀j,j∈Region.ready .any l.toArray listed↔j=k:=by
    intro j;simp only[Region.ready,List.mem_filter,List.mem_range,Bool.and_eq_true];constructor
    ·rintro⟨g1,g2,g3⟩;have qG:j<l.length:=by simpa using g1
     rcases Nat.lt_trichotomy j k with h|h|h
     ·have:=h1 j h;simp[Array.getD_eq_getD_getElem?,this]at g2
     ·exact h
     ·exfalso;have hp:=jY uH (j:=j) (by omega) (List.getElem?_eq_getElem qG);simp only[cB,List.mem_map,List.mem_filter]at hp;obtain⟨e,⟨Gd,Ge⟩,he3⟩:=hp;have h4:l.toArray[j]? =some l[j]:=by rw[List.getElem?_toArray];exact List.getElem?_eq_getElem qG
      rw[h4]at g3;simp only[Option.map_some,Option.getD_some,Array.all_eq_true_iff_forall_mem]at g3;have h5:=g3 e (by simpa using Gd);rw[Ge,he3]at h5;have:=h2 (j-1) (by omega) (by omega);simp[Array.getD_eq_getD_getElem?,this]at h5
    ·rintro rfl;have qG:j<l.length:=by omega
     refine⟨by simpa using qG,?_,?_⟩
     ·have:=h2 j (Nat.le_refl _) qG;simp[Array.getD_eq_getD_getElem?,this]
     ·have h4:l.toArray[j]? =some l[j]:=by rw[List.getElem?_toArray];exact List.getElem?_eq_getElem qG
      rw[h4];simp only[Option.map_some,Option.getD_some,Array.all_eq_true_iff_forall_mem];intro e he
      cases hb:Region.binds .any e with
      |false=>rfl
      |true=>
       have Xv:e.on∈cB l[j]:=by simp only[cB,List.mem_map,List.mem_filter];exact⟨e,⟨by simpa using he,hb⟩,rfl⟩
       have:=h1 _ (h3 j l[j] (List.getElem?_eq_getElem qG) rfl _ Xv);simp[Array.getD_eq_getD_getElem?,this]
   have pE:(Region.ready .any l.toArray listed).Nodup:=by unfold Region.ready;exact List.Pairwise.filter _ List.nodup_range
   cases hr:Region.ready .any l.toArray listed with
   |nil=>have:=(eN k).2 rfl;rw[hr]at this;cases this
   |cons x xs=>
    have hx:x=k:=(eN x).1 (by rw[hr];exact List.mem_cons_self ..)
    cases xs with
    |nil=>rw[hx]
    |cons y ys=>
     have hy:y=k:=(eN y).1 (by rw[hr];simp);rw[hr]at pE;simp[hx,hy]at pE
  simp only[Region.linearise.go]
  change(match (Region.ready .any l.toArray listed)[t%(Region.ready .any l.toArray listed).length]? with
   |some i=>Region.linearise.go .any l.toArray fuel (t/(Region.ready .any l.toArray listed).length) (listed.setIfInBounds i true) [i]
   |none=>[].reverse)=_
  rw[lh];simp only[List.length_singleton,Nat.mod_one,List.getElem?_cons_zero];rw[linearise_go_acc,List.reverse_singleton,List.singleton_append];have FP:k<listed.size:=by omega
  rw[ih (k+1) _ _ (by simpa using kd) (by omega) (by
   simp only[jK,List.all_eq_true]at uH ⊢;intro j hj;exact uH j (by rw[List.mem_range'_1]at hj ⊢;omega)) ?_ ?_ ?_]
  ·rfl
  ·intro i hi;rw[Array.getElem?_setIfInBounds];by_cases e:k=i
   ·subst e;simp[FP]
   ·rw[if_neg e];exact h1 i (by omega)
  ·intro i hi nR;rw[Array.getElem?_setIfInBounds,if_neg (by omega)];exact h2 i (by omega) nR
  ·intro i o ho hi j hj;have:=cQ dp i o ho j hj;omega
def ke (l:List Oper):Nat→List Nat→Bool
 |0,_=>true
 |j+1,acc=>acc.contains j&&ke l j (acc++(l[j]?.map cB).getD [])
theorem nh {l:List Oper} {D:Nat→Prop} (l2:∀k o,l[k]? =some o→D k→∀i∈cB o,D i):∀(j:Nat) (acc:List Nat),ke l j acc=true→(∀k∈acc,D k)→∀i,i<j→D i
 |0,_,_,_,i,hi=>by omega
 |j+1,acc,h,ha,i,hi=>by
  simp only[ke,Bool.and_eq_true,List.contains_iff_mem]at h;have hj:=ha j h.1;rcases Nat.lt_or_ge i j with dW|iH
  ·refine nh l2 j _ h.2 (fun k hk=>?_) i dW;rcases List.mem_append.1 hk with hk|hk
   ·exact ha k hk
   ·cases ho:l[j]? with
    |none=>rw[ho]at hk;simp at hk
    |some o=>rw[ho]at hk;exact l2 j o ho hj k (by simpa using hk)
  ·rw[show i=j from by omega];exact hj
theorem EA {w0:World} {l:List Oper} {o₁:Oper} {tl:List Oper} {S:List (bW M)} (dp:eF (l++o₁::tl) 0=true) (jJ:ke (l++o₁::tl) l.length (cB o₁)=true) (uH:jK (l++o₁::tl) (l.length+1)=true) (xJ:S.length=l.length) (rI:bB P r n F w0 (l++o₁::tl) S ds L l S 0) (th:Ai F (l++o₁::tl) S) (ng:∀p∈F,∀b,p.2 b→M b) {Q:Exit→Act→World→Prop}
  (jI:∀a w,Inv F S (l++o₁::tl) w0 L ds n (fun i=>i<l.length) a w→wpListIn (FW r) 0 P (l++o₁::tl).toArray Q (o₁::tl) a w):∀(fuel t:Nat) (listed:Array Bool) (a:Act) (w:World),listed.size=(l++o₁::tl).length→listed.toList.countP (!·)=fuel→(∀i,l.length≤i→i<(l++o₁::tl).length→listed[i]? =some false)→
  Inv F S (l++o₁::tl) w0 L ds n (fun i=>listed[i]? =some true) a w→wpOpsIn (FW r) 0 P (l++o₁::tl).toArray Q (Region.linearise.go .any (l++o₁::tl).toArray fuel t listed []) a w:=by
 intro fuel
 induction fuel with
 |zero=>
  intro t listed a w kd hc ti hi;have:=iz hc l.length (by simp[kd]);have h2:listed.toList[l.length]? =some false:=by simpa using ti l.length (Nat.le_refl _) (by simp)
  rw[h2]at this;cases this
 |succ fuel ih=>
  intro t listed a w kd hc ti hi;have Gf:(l++o₁::tl).length=l.length+1+tl.length:=by simp;omega
  have Xw:listed[l.length]? =some false:=ti l.length (Nat.le_refl _) (by omega)
  have lh:∀j,j∈Region.ready .any (l++o₁::tl).toArray listed→∃o,(l++o₁::tl)[j]? =some o∧listed[j]? =some false∧∀k∈cB o,listed[k]? =some true:=by
   intro j hj;simp only[Region.ready,List.mem_filter,List.mem_range,Bool.and_eq_true]at hj;obtain⟨h1,h2,h3⟩:=hj;have dW:j<(l++o₁::tl).length:=by simpa using h1
   refine⟨(l++o₁::tl)[j],List.getElem?_eq_getElem dW,?_,?_⟩
   ·rw[Array.getElem?_eq_getElem (by omega)];simp only[Array.getD_eq_getD_getElem?,Array.getElem?_eq_getElem (show j<listed.size by omega),Option.getD_some,Bool.not_eq_true']at h2;rw[h2]
   ·intro k hk;simp only[cB,List.mem_map,List.mem_filter]at hk;obtain⟨e,⟨Gd,Ge⟩,rfl⟩:=hk;have h4:(l++o₁::tl).toArray[j]? =some (l++o₁::tl)[j]:=by rw[List.getElem?_toArray];exact List.getElem?_eq_getElem dW
    rw[h4]at h3;simp only[Option.map_some,Option.getD_some,Array.all_eq_true_iff_forall_mem]at h3;have h5:=h3 e (by simpa using Gd);rw[Ge]at h5;simp only[Bool.not_true,Bool.false_or,Array.getD_eq_getD_getElem?]at h5
    cases hx:listed[e.on]? with
    |none=>simp[hx]at h5
    |some b=>simp[hx]at h5;rw[h5]
  have fg:Region.ready .any (l++o₁::tl).toArray listed≠[]:=by
   obtain⟨i,h1,h2⟩:=lg (bs:=listed.toList) (by omega)
   have dW:i<(l++o₁::tl).length:=by
    have:=(List.getElem?_eq_some_iff.1 h1).1;simp only[Array.length_toList]at this;omega
   intro uG
   have eN:i∈Region.ready .any (l++o₁::tl).toArray listed:=by
    simp only[Region.ready,List.mem_filter,List.mem_range,Bool.and_eq_true];refine⟨by simpa using dW,?_,?_⟩
    ·have:listed[i]? =some false:=by simpa using h1
     simp[Array.getD_eq_getD_getElem?,this]
    ·have h4:(l++o₁::tl).toArray[i]? =some (l++o₁::tl)[i]:=by rw[List.getElem?_toArray];exact List.getElem?_eq_getElem dW
     rw[h4];simp only[Option.map_some,Option.getD_some,Array.all_eq_true_iff_forall_mem];intro e he
     cases hb:Region.binds .any e with
     |false=>rfl
     |true=>
      have hk:e.on∈cB (l++o₁::tl)[i]:=by
       simp only[cB,List.mem_map,List.mem_filter];exact⟨e,⟨by simpa using he,hb⟩,rfl⟩
      have JW:=cQ dp i (l++o₁::tl)[i] (List.getElem?_eq_getElem dW) _ hk;have:listed[e.on]? =some true:=by simpa using h2 e.on (by omega)
      simp[Array.getD_eq_getD_getElem?,this]
   rw[uG]at eN;cases eN
  simp only[Region.linearise.go]
  change wpOpsIn (FW r) 0 P (l++o₁::tl).toArray Q (match (Region.ready .any (l++o₁::tl).toArray listed)[t%(Region.ready .any (l++o₁::tl).toArray listed).length]? with
   |some i=>Region.linearise.go .any (l++o₁::tl).toArray fuel (t/(Region.ready .any (l++o₁::tl).toArray listed).length) (listed.setIfInBounds i true) [i]
   |none=>[].reverse) a w
  have dW:t%(Region.ready .any (l++o₁::tl).toArray listed).length<(Region.ready .any (l++o₁::tl).toArray listed).length:=Nat.mod_lt _ (List.length_pos_iff.2 fg);rw[List.getElem?_eq_getElem dW];have eN:=List.getElem_mem dW;generalize (Region.ready .any (l++o₁::tl).toArray listed)[t%(Region.ready .any (l++o₁::tl).toArray listed).length]=j at eN;obtain⟨o,h1,h2,h3⟩:=lh j eN;simp only[];rw[linearise_go_acc,List.reverse_singleton,List.singleton_append];have qG:j<l.length+1+tl.length:=by have:=(List.getElem?_eq_some_iff.1 h1).1;omega
  have yH:listed.toList[j]? =some false:=by simpa using h2
  have Rr:=jX yH;by_cases zR:j=l.length
  ·subst zR;have ho:o=o₁:=by simpa using h1.symm
   subst ho;have nQ:∀i,i<l.length→listed[i]? =some true:=fun i gy=>nh (D:=fun i=>listed[i]? =some true) hi.closed l.length (cB o) jJ (fun k hk=>h3 k hk) i gy
   have Xx:fuel=tl.length:=by
    have hz:((listed.toList.set l.length true).drop (l.length+1)).countP (!·)=tl.length:=by
     rw[List.drop_set_of_lt (by omega)]
     have kO:∀b∈listed.toList.drop (l.length+1),(!b)=true:=by
      intro b hb;obtain⟨i,gy⟩:=List.mem_iff_getElem?.1 hb;rw[List.getElem?_drop]at gy;have nR:=(List.getElem?_eq_some_iff.1 gy).1;simp only[Array.length_toList]at nR;have:=ti (l.length+1+i) (by omega) (by omega);have h9:listed.toList[l.length+1+i]? =some false:=by simpa using this
      rw[gy]at h9;cases h9;rfl
     rw[List.countP_eq_length.2 kO,List.length_drop,Array.length_toList];omega
    have hy:((listed.toList.set l.length true).take (l.length+1)).countP (!·)=0:=by
     rw[List.countP_eq_zero];intro b hb;obtain⟨i,gy⟩:=List.mem_iff_getElem?.1 hb;rw[List.getElem?_take]at gy
     split at gy
     ·rw[List.getElem?_set]at gy
      split at gy
      ·split at gy
       ·cases gy;simp
       ·cases gy
      ·have:=nQ i (by omega);have h9:listed.toList[i]? =some true:=by simpa using this
       rw[gy]at h9;cases h9;simp
     ·cases gy
    have:=List.take_append_drop (l.length+1) (listed.toList.set l.length true)
    have h8:(listed.toList.set l.length true).countP (!·)=0+tl.length:=by
     rw[←hy,←hz,←List.countP_append,this]
    omega
   subst Xx;have rV:l.length<listed.size:=by omega
   rw[Aj dp tl.length (l.length+1) _ _ (by simpa using kd) (by omega) (by
    simp only[jK,List.all_eq_true]at uH ⊢;intro j hj
    exact uH j (by rw[List.mem_range'_1]at hj ⊢;omega)) (fun i gy=>by
     rw[Array.getElem?_setIfInBounds];by_cases e:l.length=i
     ·subst e;simp[rV]
     ·rw[if_neg e];exact nQ i (by omega)) (fun i h5 h6=>by
     rw[Array.getElem?_setIfInBounds,if_neg (by omega)];exact ti i (by omega) h6) (fun i o' gA he j hj=>by have:=cQ dp i o' gA j hj;omega)]
   have Xy:l.length::List.range' (l.length+1) tl.length=List.range' l.length (o::tl).length:=by simp[List.range'_succ]
   rw[Xy,wpOpsIn_eq_wpListIn (o::tl) l.length (fun j=>by rw[List.getElem?_toArray,List.getElem?_append_right (by omega)];congr 1;omega)];refine jI a w ⟨hi.step.cw (fun b ⟨p,hp,hD,hb⟩=>⟨p,hp,?_,hb⟩) (fun b ⟨p,hp,_,hb⟩=>ng p hp b hb),fun i o s h1 h2 h3=>hi.fin i o s h1 h2 (nQ i h3),hi.size,hi.defers,fun i o s d h1 h2 h3=>hi.done i o s d h1 h2 (nQ i h3),fun t v h4 h5=>hi.base t v h4 fun i o' h6 h7=>h5 i o' h6 ?_,fun i o' h4 h5 k hk=>?_⟩
   ·have nR:=(Array.getElem?_eq_some_iff.1 hD).1;rcases Nat.lt_or_ge p.1 l.length with h|h
    ·exact h
    ·have hD':listed[p.1]? =some true:=hD;rw[ti p.1 h (by omega)]at hD';cases hD'
   ·rcases Nat.lt_or_ge i l.length with h|h
    ·exact h
    ·have nR:=(List.getElem?_eq_some_iff.1 h6).1;rw[ti i h nR]at h7;cases h7
   ·have:=cQ dp i o' h4 k hk;omega
  ·have LN:j<l.length:=by
    rcases Nat.lt_or_ge j l.length with h|h
    ·exact h
    ·exfalso;have hp:=h3 _ (jY uH (j:=j) (by omega) h1);rw[ti (j-1) (by omega) (by omega)]at hp;cases hp
   have Qz:l[j]? =some o:=by rwa [List.getElem?_append_left (by omega)]at h1
   refine hi.next dp th ng (by have:=rI.get j o Qz;rwa [Nat.zero_add]at this) h1 (by rw[h2];simp) h3 fun a' w' gy=> ?_
   refine ih _ _ _ _ (by simpa using kd) ?_ ?_ ?_
   ·simp only[Array.toList_setIfInBounds];omega
   ·intro i h5 h6;rw[Array.getElem?_setIfInBounds,if_neg (by omega)];exact ti i h5 h6
   ·have yK:j<listed.size:=(Array.getElem?_eq_some_iff.1 h2).1
    have jD:∀i,((listed.setIfInBounds j true)[i]? =some true)↔(i=j∨listed[i]? =some true):=by
     intro i;rw[Array.getElem?_setIfInBounds];by_cases iy:j=i
     ·subst iy;simp[yK]
     ·rw[if_neg iy];exact⟨.inr,fun h=>h.resolve_left (fun e=>iy e.symm)⟩
    exact⟨gy.step.cw (fun b ⟨p,hp,hD,hb⟩=>⟨p,hp,(jD p.1).2 hD,hb⟩) (fun b ⟨p,hp,_,hb⟩=>ng p hp b hb),fun i o s h1 h2 h3=>gy.fin i o s h1 h2 ((jD i).1 h3),gy.size,gy.defers,fun i o s d h1 h2 h3=>gy.done i o s d h1 h2 ((jD i).1 h3),fun t v h1 h2=>gy.base t v h1 fun i o h3 h4=>h2 i o h3 ((jD i).2 h4),fun i o h1 h2 k hk=>(jD k).2 (gy.closed i o h1 ((jD i).1 h2) k hk)⟩
theorem T.Cf {id:Nat} {l:List Oper} {o₁:Oper} {tl:List Oper} (hm:P.follows .mixedOrders=true) (F:List (Nat×aL)) (S:List (bW M)) (dp:eF (l++o₁::tl) 0=true) (jJ:ke (l++o₁::tl) l.length (cB o₁)=true) (uH:jK (l++o₁::tl) (l.length+1)=true) (xJ:S.length=l.length) (ng:∀p∈F,∀b,p.2 b→M b) (th:uj F (l++o₁::tl) S 0) (rI:bB P r n F w (l++o₁::tl) S ds L l S 0)
  (jI:∀w',Step M w M w' (iU (F.map (·.2)))→gD w' (fun acc=>Rg P r n (l++o₁::tl).toArray (o₁::tl) (acc++jH (l++o₁::tl) (l.length+1+tl.length) L) ds w' K) l S []):T P r n (.region id (l++o₁::tl).toArray true) L ds w K:=by
 refine⟨fun a ha=>wpIn_region_draw fun t=>?_⟩;simp only[Region.schedule,hm,Bool.true_or,if_true,Region.linearise];have hd:Step M w M {w with drawn:=w.drawn+1} aE:=mC M w;refine EA (w0:=w) (S:=S) dp jJ uH xJ rI th.st ng (Q:=up n K) ?_ _ t _ a _ (by simp) (by simp[List.countP_replicate]) (by intro i _ h;simp[Array.getElem?_replicate];simpa using h) ⟨hd.cw (fun _ h=>h.elim) (fun b ⟨p,hp,_,hb⟩=>ng p hp b hb),?_,ha.size,ha.defers,?_,?_,?_⟩
 ·intro a' w' hi
  have gT:∀{i:Nat} {o:Oper},l[i]? =some o→(l++o₁::tl)[i]? =some o∧i<l.length:=fun {i o} h=>by
   have h1:=(List.getElem?_eq_some_iff.1 h).1;exact⟨by rw[List.getElem?_append_left h1];exact h,h1⟩
  obtain⟨acc,h1,h2⟩:=gD.use (a:=a') l S [] (fun i o s h1 h2 h3=>hi.fin i o s (gT h1).1 h2 (gT h1).2 h3) (fun i o s d h1 h2 h3=>hi.done i o s d (gT h1).1 h2 (gT h1).2 h3) (fun t v h=>by simp[lk]at h)
   (jI w' (hi.step.cw (fun b ⟨p,hp,_,hb⟩=>eY.2 ⟨p.2,List.mem_map.2 ⟨p,hp,rfl⟩,hb⟩) (fun b hb=>by
    obtain⟨N,hN,zP⟩:=eY.1 hb;obtain⟨p,hp,rfl⟩:=List.mem_map.1 hN;exact ng p hp b zP)))
  have h3:=h1.run a' ⟨hi.size,hi.defers,fun t v h=>by
   rcases kX h with h|h
   ·exact h2 t v h
   ·obtain⟨h3,h4⟩:=jo (f:=ko (l++o₁::tl) (l.length+1+tl.length)) h;refine hi.base t v h4 fun i o h5 _ h6=> ?_
    simp only[ko,List.all_eq_true]at h3;have:=h3 o (List.mem_of_getElem? h5);simp only[h6,beq_self_eq_true,Bool.not_true,Bool.false_or,List.contains_iff_mem]at this;have h7:=cQ dp i o h5 _ this;have h8:=(List.getElem?_eq_some_iff.1 h5).1;simp at h8;omega⟩
  exact h3
 ·intro i o s h1 h2 h3;simp[Array.getElem?_replicate]at h3
 ·intro i o s d h1 h2 h3;simp[Array.getElem?_replicate]at h3
 ·intro t v h1 _;exact ha.at_ t v h1
 ·intro i o h1 h2;simp[Array.getElem?_replicate]at h2
theorem T.Rs {id:Nat} {l:List Oper} (hm:P.follows .mixedOrders=true) (F:List (Nat×aL)) (S:List (bW M)) (dp:eF l 0=true) (ng:∀p∈F,∀b,p.2 b→M b) (th:Ai F l S) (rI:bB P r n F w l S ds L l S 0)
  (jI:∀w',Step M w M w' (iU (F.map (·.2)))→gD w' (fun acc=>K .normal (acc++jH l l.length L) ds w') l S []):T P r n (.region id l.toArray true) L ds w K:=by
 refine⟨fun a ha=>wpIn_region_draw fun t=>?_⟩;simp only[Region.schedule,hm,Bool.true_or,if_true,Region.linearise];have hd:Step M w M {w with drawn:=w.drawn+1} aE:=mC M w;refine Ey (w0:=w) (S:=S) dp rI th ng (Q:=up n K) ?_ _ t _ a _ (by simp) (by simp[List.countP_replicate]) ⟨hd.cw (fun _ h=>h.elim) (fun b ⟨p,hp,_,hb⟩=>ng p hp b hb),?_,ha.size,ha.defers,?_,?_,?_⟩
 ·intro a' w' hi
  obtain⟨acc,h1,h2⟩:=gD.use (a:=a') l S [] (fun i o s h1 h2 h3=>hi.fin i o s h1 h2 ((List.getElem?_eq_some_iff.1 h1).1) h3) (fun i o s d h1 h2 h3=>hi.done i o s d h1 h2 ((List.getElem?_eq_some_iff.1 h1).1) h3) (fun t v h=>by simp[lk]at h)
   (jI w' (hi.step.cw (fun b ⟨p,hp,_,hb⟩=>eY.2 ⟨p.2,List.mem_map.2 ⟨p,hp,rfl⟩,hb⟩) (fun b hb=>by
    obtain⟨N,hN,zP⟩:=eY.1 hb;obtain⟨p,hp,rfl⟩:=List.mem_map.1 hN;exact ng p hp b zP)))
  refine⟨_,_,⟨hi.size,hi.defers,fun t v h=>?_⟩,h1⟩;rcases kX h with h|h
  ·exact h2 t v h
  ·obtain⟨h3,h4⟩:=jo (f:=ko l l.length) h;refine hi.base t v h4 fun i o h5 _ h6=> ?_
   simp only[ko,List.all_eq_true]at h3;have:=h3 o (List.mem_of_getElem? h5);simp only[h6,beq_self_eq_true,Bool.not_true,Bool.false_or,List.contains_iff_mem]at this;have h7:=cQ dp i o h5 _ this;have h8:=(List.getElem?_eq_some_iff.1 h5).1;omega
 ·intro i o s h1 h2 h3;simp[Array.getElem?_replicate]at h3
 ·intro i o s d h1 h2 h3;simp[Array.getElem?_replicate]at h3
 ·intro t v h1 _;exact ha.at_ t v h1
 ·intro i o h1 h2;simp[Array.getElem?_replicate]at h2
theorem T.LO {id:Nat} {l:List Oper} (hm:P.follows .mixedOrders=true) (F:List (Nat×aL)) (S:List (bW M)) (dp:eF l 0=true) (ng:∀p∈F,∀b,p.2 b→M b) (th:uj F l S 0) (rI:bB P r n F w l S ds L l S 0)
  (jI:∀w',Step M w M w' (iU (F.map (·.2)))→gD w' (fun acc=>K .normal (acc++jH l l.length L) ds w') l S []):T P r n (.region id l.toArray true) L ds w K:= .Rs hm F S dp ng th.st rI jI
theorem uj.none:∀{l:List Oper} {S:List (bW M)} {k:Nat},uj [] l S k
 |[],_,_=>by simp[uj]
 |_::_,[],_=>by simp[uj]
 |_::_,_::_,_=>⟨fun p hp=>by simp at hp,uj.none⟩
theorem T.draw {id:Nat} {l:List Oper} (hm:P.follows .mixedOrders=true) (S:List (bW M)) (dp:eF l 0=true) (rI:bB P r n [] w l S ds L l S 0)
  (jI:∀w',Step M w M w' aE→gD w' (fun acc=>K .normal (acc++jH l l.length L) ds w') l S []):T P r n (.region id l.toArray true) L ds w K:=
 .LO hm [] S dp (fun p hp=>by cases hp) uj.none rI jI
def cf (P:Program) (r:Option Nat) (n:Nat) {M:aL} (F:List (Nat×aL)) (w:World) (l:List Oper) (S:List (bW M)) (ds:List Deferred) (L:Sl):List Oper→List (bW M)→Nat→Prop
 |o::os,s::ss,j=>Qy P r n F w l S ds L j o s∧cf P r n F w l S ds L os ss (j+1)
 |[],[],_=>True
 |_::_,[],_=>True
 |[],_::_,_=>False
theorem cf.cons {l:List Oper} {S:List (bW M)} {o:Oper} {os:List Oper} {s:bW M} {ss:List (bW M)} {j:Nat}
  (h:Qy P r n F w l S ds L j o s) (h':cf P r n F w l S ds L os ss (j+1)):cf P r n F w l S ds L (o::os) (s::ss) j:=⟨h,h'⟩
theorem cf.nil {l:List Oper} {S:List (bW M)} {o:Oper} {os:List Oper} {j:Nat}:cf P r n F w l S ds L (o::os) [] j:=by unfold cf;trivial
theorem cf.take {l:List Oper} {S:List (bW M)}:∀{os:List Oper} {ss:List (bW M)} {j:Nat},cf P r n F w l S ds L os ss j→bB P r n F w l S ds L (os.take ss.length) ss j
 |[],[],_,_=>by simp[bB]
 |_::_,[],_,_=>by simp[bB]
 |[],_::_,_,h=>by simp[cf]at h
 |_::os,_::ss,_,h=>⟨h.1,cf.take h.2⟩
theorem gD.take {w:World} {k:Sl→Prop}:∀{os:List Oper} {ss:List (bW M)} {acc:Sl},gD w k os ss acc→gD w k (os.take ss.length) ss acc
 |[],[],_,h=>by simpa[gD]using h
 |_::_,[],_,h=>by simpa[gD]using h
 |[],_::_,_,h=>by simpa[gD]using h
 |o::os,s::ss,acc,h=>by
  simp only[List.length_cons,List.take_succ_cons,gD]at h ⊢
  split
  ·rename_i d hd
   rw[hd]at h;exact fun v hv=>gD.take (h v hv)
  ·rename_i hd
   rw[hd]at h;exact fun v hv=>gD.take (h v hv)
theorem T.DI {id:Nat} {l:List Oper} (o₁:Oper) (hm:P.follows .mixedOrders=true) (F:List (Nat×aL)) (S:List (bW M)) (ho:l[S.length]? =some o₁) (xJ:l.length=S.length+1) (dp:eF l 0=true) (jJ:(List.range S.length).all (fun i=>(cB o₁).contains i||(cB o₁).any (fun k=>((l[k]?.map cB).getD []).contains i))=true) (ng:∀p∈F,∀b,p.2 b→M b) (th:uj F l S 0) (rI:cf P r n F w l S ds L l S 0)
  (jI:∀w',Step M w M w' (iU (F.map (·.2)))→gD w' (fun acc=>Rg P r n l.toArray [o₁] (acc++jH l l.length L) ds w' (fun e L ds w=>e= .normal∧K .normal L ds w)) l S []):T P r n (.region id l.toArray true) L ds w K:=by
 have hl:l=l.take S.length++[o₁]:=by
  obtain⟨h1,h2⟩:=List.getElem?_eq_some_iff.1 ho;rw[←h2,←List.take_succ_eq_append_getElem h1,←xJ,List.take_length]
 have tQ:(l.take S.length).length=S.length:=by simp;omega
 have:=T.Gg (id:=id) (l:=l.take S.length) (o₁:=o₁) (w:=w) (K:=K) hm F S (by rw[←hl];exact dp) (by rw[tQ,←hl];exact jJ) tQ.symm ng (by rw[←hl];exact th) (by rw[←hl];exact rI.take) (fun w' s=>by rw[←hl,tQ,←xJ];exact(jI w' s).take)
 rwa [←hl]at this
theorem T.Gh {id:Nat} {l:List Oper} (hm:P.follows .mixedOrders=true) (F:List (Nat×aL)) (S:List (bW M)) (m:Nat) (Nx:S.length=m) (rV:Nat.blt m l.length=true) (dp:eF l 0=true) (jJ:ke l m ((l[m]?.map cB).getD [])=true) (uH:jK l (m+1)=true) (ng:∀p∈F,∀b,p.2 b→M b) (th:uj F l S 0) (rI:cf P r n F w l S ds L l S 0)
  (jI:∀w',Step M w M w' (iU (F.map (·.2)))→gD w' (fun acc=>Rg P r n l.toArray (l.drop m) (acc++jH l l.length L) ds w' K) l S []):T P r n (.region id l.toArray true) L ds w K:=by
 subst Nx;have xJ:S.length<l.length:=by simpa[Nat.blt_eq]using rV
 have hl:l=l.take S.length++l[S.length]::l.drop (S.length+1):=by
  rw[←List.drop_eq_getElem_cons xJ,List.take_append_drop]
 have tQ:(l.take S.length).length=S.length:=by simp;omega
 have hg:l[S.length]? =some l[S.length]:=List.getElem?_eq_getElem xJ;have Xz:S.length+1+(l.drop (S.length+1)).length=l.length:=by rw[List.length_drop];omega
 have:=T.Cf (id:=id) (l:=l.take S.length) (o₁:=l[S.length]) (tl:=l.drop (S.length+1)) (w:=w) (K:=K) hm F S (by rw[←hl];exact dp) (by rw[tQ,←hl];rw[hg]at jJ;exact jJ) (by rw[tQ,←hl];exact uH) tQ.symm ng (by rw[←hl];exact th) (by rw[←hl];exact rI.take) (fun w' s=>by rw[←hl,tQ,Xz,←List.drop_eq_getElem_cons xJ];exact(jI w' s).take)
 rwa [←hl]at this
end
end Go.K
namespace Go.K
def uI (P:Program) (l:Nat) (args:Array Value) (w:World) (Q:Value→World→Prop):Prop:=YieldAt (FW none) 0 P l args w (fun e w'=>∃v,e= .returned v∧Q v w')
section
variable {P:Program} {r:Option Nat} {n:Nat} {L:Sl} {ds:List Deferred} {w:World} {K:Kt} {ops:Array Oper} {rest:List Oper} {d:Nat} {ty:TypeId} {pos:String} {af:Array Edge}
theorem Rg.yield {x:Operand} {l:Nat} {xs:List Operand} {vs:List Value} {Es:Array TypeId} {Q:Value→World→Prop} (hx:ev L x=some (.func (.yield l) #[] #[]))
  (oe:JO L xs=some vs) (hd:Nat.blt d n=true) (hs:uI P l vs.toArray w Q) (k:∀v w',Q v w'→Rg P r n ops rest ((d,v)::L) ds w' K):
  Rg P r n ops ({dst:=some d,op:= .call {callee:= .value x,args:=xs.toArray,argTypes:=Es},type:=ty,pos,after:=af,guard:=none}::rest) L ds w K:=by
 refine⟨fun a ha=>wpListIn_plain rfl fun K' Nj=>DE (fun _ h=>by cases h) ?_⟩;obtain⟨fn,tmps,qj,body,hy,hr⟩:=hs
 have gQ:(execOp a.eval {dst:=some d,op:= .call {callee:= .value x,args:=xs.toArray,argTypes:=Es},type:=ty,pos,after:=af,guard:=none}).run P w= .ok (.round l fn tmps qj body) w:=by
  have h1:=pg (ρ:=a.eval) (fun x u hx=>ha.eval hx) oe;simp only[execOp,resolve,List.map_toArray,h1,ha.eval hx];simpa[Deferred.ofValue,invoke]using hy
 rw[gQ,Oper.uponIn_round];refine⟨fun h=>by simp[FW,Fence.wide]at h,?_⟩;have Xl:RoundIn (FW r) (0-1) P l fn tmps qj body w (fun e w'=>∃v,e= .returned v∧Q v w'):=hr;refine Xl.mono ?_;rintro e w' ⟨v,rfl,hv⟩;exact Nj _ _ ((k v w' hv).run _ (ha.put (by simpa[Nat.blt_eq]using hd) v))
end
def qk (fn:FuncId) (tm:Array Value) (ps:Array Tmp) (qj body:Code) (D:Nat) (st:LoopState) (pe:Option Code):Loop:={state:=st,pending:=pe,fn:=fn,tmps:=tm,params:=ps,assign:=qj,body:=body,defers:=D}
structure Tm (n:Nat) (tm:Array Value) (L:Sl):Prop where
 size:n≤tm.size
 at_:∀t v,lk L t=some v→tm[t]? =some v
def EB:List Tmp→List Value→Sl→Sl
 |p::ps,v::vs,L=>EB ps vs ((p,v)::L)
 |_,_,L=>L
theorem xK {n:Nat}:∀(ps:List Tmp) (vs:List Value) (tm:Array Value) (L:Sl),Tm n tm L→(∀p∈ps,p<n)→gP n {tmps:=(ps.zip vs).foldl (fun tmps (t,a)=>tmps.setIfInBounds t a) tm,defers:=[]} (EB ps vs L) []
 |[],vs,tm,L,h,_=>⟨by simpa using h.size,rfl,by simpa[EB]using h.at_⟩
 |p::ps,[],tm,L,h,_=>⟨by simpa using h.size,rfl,by simpa[EB]using h.at_⟩
 |p::ps,v::vs,tm,L,h,hp=>by
  have h0:gP n {tmps:=tm,defers:=[]} L []:=⟨h.size,rfl,h.at_⟩;have h1:=h0.put (hp p (List.mem_cons_self ..)) v;exact xK ps vs (tm.setIfInBounds p v) ((p,v)::L) ⟨by simpa using h.size,h1.at_⟩ (fun q hq=>hp q (List.mem_cons_of_mem _ hq))
def Ny (l:Nat) (rec:LoopState→Option Code→Loop) (Q:Value→World→Prop):Kt
 |.normal,_,_,w=>w.heap[l]? =some (.loop (rec .busy none))∧Q (.bool true) (w.putObj l (.loop (rec .ready none)))
 |.ret,_,_,w=>w.heap[l]? =some (.loop (rec .busy none))∧Q (.bool false) (w.putObj l (.loop (rec .done (some .ret))))
 |.exit id,_,_,w=>w.heap[l]? =some (.loop (rec .busy none))∧Q (.bool false) (w.putObj l (.loop (rec .done (some (.exit id)))))
 |.goto id,_,_,w=>w.heap[l]? =some (.loop (rec .busy none))∧Q (.bool false) (w.putObj l (.loop (rec .done (some (.goto id)))))
 |_,_,_,_=>False
@[reducible] def Rt (P:Program) (l n:Nat) (rec:LoopState→Option Code→Loop) (body:Code) (Q:Value→World→Prop):Kt:=fun e L ds w=>
 e= .normal∧w.heap[l]? =some (.loop (rec .ready none))∧T P (some l) n body L ds (w.putObj l (.loop (rec .busy none))) (Ny l rec Q)
theorem Gi {P:Program} {n l D:Nat} {fn:FuncId} {tm:Array Value} {ps:List Tmp} {qj body:Code} {vs:List Value} {L:Sl} {w:World} {Q:Value→World→Prop}
  (hl:w.heap[l]? =some (.loop (qk fn tm ps.toArray qj body D .ready none))) (JY:Tm n tm L) (hlen:vs.length=ps.length) (ox:∀p∈ps,p<n)
  (h:T P (some l) n qj (EB ps vs L) [] w (Rt P l n (qk fn tm ps.toArray qj body D) body Q)):uI P l vs.toArray w Q:=by
 have hy:=run_yield (P:=P) (args:=vs.toArray) hl (by simp[qk,hlen]);refine⟨_,_,_,_,hy,roundIn_of_wpIn trivial ?_⟩
 have hz:((qk fn tm ps.toArray qj body D .ready none).params.zip vs.toArray).foldl (fun tmps (t,a)=>tmps.setIfInBounds t a) (qk fn tm ps.toArray qj body D .ready none).tmps=(ps.zip vs).foldl (fun tmps (t,a)=>tmps.setIfInBounds t a) tm:=by
  simp[qk,←Array.foldl_toList]
 rw[hz];refine wpIn_mono (h.run _ (xK ps vs tm L JY ox)) ?_;rintro e a w1 ⟨L1,Wx,XA,rfl,JZ,hb⟩;refine⟨_,run_beginRound JZ rfl,wpIn_mono (hb.run a XA) ?_⟩;rintro e a2 w2 ⟨L2,Xu,QA,hK⟩
 cases e with
 |normal=>exact⟨_,_,run_endRound none hK.1,_,rfl,hK.2⟩
 |ret=>exact⟨_,_,run_endRound (some .ret) hK.1,_,rfl,hK.2⟩
 |exit id=>exact⟨_,_,run_endRound (some (.exit id)) hK.1,_,rfl,hK.2⟩
 |goto id=>exact⟨_,_,run_endRound (some (.goto id)) hK.1,_,rfl,hK.2⟩
 |panic c=>exact hK.elim
 |outgrown=>exact hK.elim
def LP (n D:Nat) (ps:Array Tmp) (qj body:Code) (L:Sl) (rec:LoopState→Option Code→Loop):Prop:=∃fn tm,Tm n tm L∧rec=qk fn tm ps qj body D
theorem kY {P:Program} {n l D:Nat} {ps:List Tmp} {qj body:Code} {vs:List Value} {L:Sl} {w:World} {Q:Value→World→Prop} {rec:LoopState→Option Code→Loop} (mj:LP n D ps.toArray qj body L rec)
  (hl:w.heap[l]? =some (.loop (rec .ready none))) (hlen:vs.length=ps.length) (ox:∀p∈ps,p<n)
  (h:T P (some l) n qj (EB ps vs L) [] w (Rt P l n rec body Q)):uI P l vs.toArray w Q:=by
 obtain⟨fn,tm,JY,rfl⟩:=mj;exact Gi hl JY hlen ox h
def mark (D:Nat):Deferred:={target:= .collected D,args:= #[]}
theorem T.Nz {P:Program} {n:Nat} {L:Sl} {ds:List Deferred} {w:World} {K:Kt} {g:Operand} {ps:Array Tmp} {qj body:Code} {gf:FuncId} {lb:Array Value} (hg:ev L g=some (.func (.func gf) #[] lb)) (he:Enters P gf)
  (h:∀fn tm,Tm n tm L→Spec P gf (#[.func (.yield (w.heap.size+1)) #[] #[]]++lb)
   ((w.alloc (.deferred (some []))).alloc (.loop (qk fn tm ps qj body w.heap.size .ready none))) (fun _ w3=>
    (w3.heap[w.heap.size+1]? =some (.loop (qk fn tm ps qj body w.heap.size .ready none))∧K .normal L (mark w.heap.size::ds) (w3.putObj (w.heap.size+1) (.loop (qk fn tm ps qj body w.heap.size .exhausted none))))∨
    ∃c,w3.heap[w.heap.size+1]? =some (.loop (qk fn tm ps qj body w.heap.size .done (some c)))∧T P none n c L (mark w.heap.size::ds) (w3.putObj (w.heap.size+1) (.loop (qk fn tm ps qj body w.heap.size .exhausted (some c)))) K)):
  T P none n (.rangeFunc g ps qj body) L ds w K:=by
 refine⟨fun a ha=>wpIn_rangeFunc fun fn hfn=>?_⟩;have hs:=h fn a.tmps ⟨ha.size,ha.at_⟩;have qh:gP n {a with defers:=[mark w.heap.size]++a.defers} L (mark w.heap.size::ds):=⟨ha.size,by simp[ha.defers],ha.at_⟩
 let W1:World:=(w.alloc (.deferred (some []))).alloc (.loop (qk fn a.tmps ps qj body w.heap.size .ready none))
 refine⟨w.heap.size+1,[mark w.heap.size],W1,{target:= .fn (.func gf) lb,args:= #[.func (.yield (w.heap.size+1)) #[] #[]]},W1,gf,#[.func (.yield (w.heap.size+1)) #[] #[]]++lb,W1,run_enterLoop_outer _ _ _ _ _,?_,?_,?_,?_,?_⟩
 ·simp only[resolve,ha.eval hg];simp[go_sem]
 ·exact fun _ _=>trivial
 ·simpa[invoke,go_sem]using he (#[.func (.yield (w.heap.size+1)) #[] #[]]++lb) _
 ·exact fun h=>by simp[FW,Fence.wide]at h
 ·refine (callsIn_wide.2 hs).mono ?_;rintro e w3 ⟨v,rfl,⟨hl,hk⟩|⟨c,hl,hk⟩⟩
  ·exact⟨none,_,run_endLoop hl (by simp[qk]),_,_,qh,hk⟩
  ·exact⟨some c,_,run_endLoop hl (by simp[qk]),hk.run _ qh⟩
theorem T.range {P:Program} {n:Nat} {L:Sl} {ds:List Deferred} {w:World} {K:Kt} {g:Operand} {ps:Array Tmp} {qj body:Code} {gf:FuncId} {lb:Array Value} (hg:ev L g=some (.func (.func gf) #[] lb)) (he:Enters P gf)
  (h:∀rec,LP n w.heap.size ps qj body L rec→Spec P gf (#[.func (.yield (w.heap.size+1)) #[] #[]]++lb)
   ((w.alloc (.deferred (some []))).alloc (.loop (rec .ready none))) (fun _ w3=>
    (w3.heap[w.heap.size+1]? =some (.loop (rec .ready none))∧K .normal L (mark w.heap.size::ds) (w3.putObj (w.heap.size+1) (.loop (rec .exhausted none))))∨
    ∃c,w3.heap[w.heap.size+1]? =some (.loop (rec .done (some c)))∧T P none n c L (mark w.heap.size::ds) (w3.putObj (w.heap.size+1) (.loop (rec .exhausted (some c)))) K)):
  T P none n (.rangeFunc g ps qj body) L ds w K:= .Nz hg he fun fn tm JY=>h _ ⟨fn,tm,JY,rfl⟩
def Marks (P:Program):List Deferred→World→World→Prop
 |[],w,w'=>w'=w
 |d::ds,w,w'=>∃r w1,d.target= .collected r∧(Instr.takeDeferred r).run P w= .ok [] w1∧Marks P ds w1 w'
def Ak (P:Program) (fn:Func) (Q:Value→World→Prop):Kt
 |.normal,L,ds,w| .ret,L,ds,w=>∃w',Marks P ds w w'∧∀a:Act,(∀t v,lk L t=some v→a.tmps[t]? =some v)→∃v,(results fn a.tmps).run P w'= .ok v w'∧Q v w'
 |_,_,_,_=>False
theorem qR {P:Program} {fn:Func} {tmps:Array Value} {R:Ending→World→Prop} {w':World}:∀(ds:List Deferred) (w:World),Marks P ds w w'→(∃v,(results fn tmps).run P w'= .ok v w'∧R (.returned v) w')→LeavesInM (FW none) 0 P fn tmps R ds .returning w
 |[],w,h,hr=>by cases h;exact hr
 |d::ds,w,⟨r,w1,h1,h2,h3⟩,hr=>⟨by simp,.inl ⟨r,w1,h1,h2,qR ds w1 h3 hr⟩⟩
theorem mE {P:Program} {f:FuncId} {fn:Func} {c:Code} {args:List Value} {w:World} {Q:Value→World→Prop} (hf:P.funcs[f]? =some fn) (hb:fn.body=some c) {n:Nat} (hn:fn.ntmps=n)
  (h:T P none n c (rT 0 args) [] w (Ak P fn Q)):Spec P f args.toArray w Q:=by
 refine(callsIn_wide (n:=0)).1 (callsIn_of_wp_marks (F:=FW none) hf hb trivial ?_);refine wpIn_mono (h.run _ ⟨?_,rfl,?_⟩) ?_
 ·simp[hn];omega
 ·intro t v ht;obtain⟨_,h2⟩:=xF args 0 t v ht;simp only[Nat.sub_zero]at h2;have dW:t<args.length:=(List.getElem?_eq_some_iff.1 h2).1;simp only;rw[Array.getElem?_append_left (by simpa using dW)];simpa using h2
 ·rintro e a w' ⟨L,ds,ha,hK⟩
  have go:(∃uE,Marks P ds w' uE∧∀a:Act,(∀t v,lk L t=some v→a.tmps[t]? =some v)→∃v,(results fn a.tmps).run P uE= .ok v uE∧Q v uE)→LeavesInM (FW none) 0 P fn a.tmps (fun e w'=>∃v,e= .returned v∧Q v w') a.defers .returning w':=by
   rintro⟨uE,h1,h2⟩;obtain⟨v,h3,h4⟩:=h2 a ha.at_;rw[ha.defers];exact qR ds w' h1 ⟨v,h3,v,rfl,h4⟩
  cases e with
  |normal=>exact go hK
  |ret=>exact go hK
  |exit id=>exact hK.elim
  |goto id=>exact hK.elim
  |panic c=>exact hK.elim
  |outgrown=>exact hK.elim
theorem sc {P:Program} {D:Nat} {w:World} (h:w.heap[D]? =some (.deferred (some []))):Marks P [mark D] w (w.putObj D (.deferred none)):=⟨D,_,rfl,run_takeDeferred h,rfl⟩
section
variable {P:Program} {fn:Func} {L:Sl} {w:World} {Q:Value→World→Prop}
theorem lj (hr:fn.results= #[]) (h:Q (.tuple #[]) w):xf P fn Q .normal L [] w:=⟨rfl,fun a ha=>⟨_,by simp[results,hr],h⟩⟩
theorem yL {t D:Nat} {v:Value} (hr:fn.results= #[.tmp t]) (hv:lk L t=some v) (hD:w.heap[D]? =some (.deferred (some []))) (h:Q v (w.putObj D (.deferred none))):
  Ak P fn Q .ret L [mark D] w:=⟨_,sc hD,fun a ha=>⟨v,by simp[results,hr,ha t v hv],h⟩⟩
theorem NA {t u D:Nat} {x y:Value} (hr:fn.results= #[.tmp t,.tmp u]) (hx:lk L t=some x) (hy:lk L u=some y) (hD:w.heap[D]? =some (.deferred (some []))) (h:Q (.tuple #[x,y]) (w.putObj D (.deferred none))):
  Ak P fn Q .ret L [mark D] w:=⟨_,sc hD,fun a ha=>⟨_,by simp[results,hr,ha _ _ hx,ha _ _ hy],h⟩⟩
theorem J0 {t u:Nat} {x y:Value} (hr:fn.results= #[.tmp t,.tmp u]) (hx:lk L t=some x) (hy:lk L u=some y) (h:Q (.tuple #[x,y]) w):
  Ak P fn Q .ret L [] w:=⟨w,rfl,fun a ha=>⟨_,by simp[results,hr,ha _ _ hx,ha _ _ hy],h⟩⟩
end
theorem dM {M:aL} {w:World} {b:Nat} {o:Obj} (hM:M b):Step M w M (w.putObj b o) (fun k=>k=b):=
 ⟨fun h k hk=>by simpa[World.putObj]using h k hk,rfl,rfl,rfl,by simp[World.putObj],fun _ _=>Iff.rfl,fun k _ hn=>World.putObj_heap_other (fun e=>hn e),fun k hk=>by subst hk;exact hM⟩
end Go.K
namespace Go.K
section
variable {P:Program} {r:Option Nat} {n:Nat} {L:Sl} {ds:List Deferred} {w:World} {K:Kt} {ops:Array Oper} {rest:List Oper} {d:Nat} {ty:TypeId} {pos:String} {af:Array Edge} {x y:Operand} {α:Type} {A:RT α}
theorem cc.fk {M:aL} {v:Value} {a:α} (h:cc A M w v a):∃p,v= .pointer (some p):=by
 obtain⟨b,o,vs,h1,_⟩:=h;exact⟨_,h1⟩
theorem Rg.nilCheck {v:Value} (hx:ev L x=some v) (hv:∃p,v= .pointer (some p)) (hd:Nat.blt d n=true) (k:Rg P r n ops rest ((d,v)::L) ds w K):
  Rg P r n ops ({dst:=some d,op:= .nilCheck x,type:=ty,pos,after:=af,guard:=none}::rest) L ds w K:=by
 obtain⟨p,rfl⟩:=hv;exact .op (fun _ h=>by cases h) rfl rfl hd _ w (fun ρ h=>by simp only[execOp,h x _ hx];simp) k
theorem Rg.cb {s:TypeId} {fs:Array Field} {fd:Field} {j size o o' b:Nat} {zv:Value} {bytes:Nat} (hu:P.underlying s=some (.struct fs)) (F3:fs[j]? =some fd) (ho:o+fd.offset=o') (hi:TI P fd.type zv size bytes) (hs:size≠0)
  (hx:ev L x=some (.pointer (some ⟨b,o,none⟩))) (hd:Nat.blt d n=true) (k:Rg P r n ops rest ((d,.pointer (some ⟨b,o',none⟩))::L) ds w K):
  Rg P r n ops ({dst:=some d,op:= .fieldAddr s x j,type:=ty,pos,after:=af,guard:=none}::rest) L ds w K:=
 .op (fun _ h=>by cases h) rfl rfl hd _ w (fun ρ h=>by
  simp only[execOp,h x _ hx];simp[Instr.fieldAt,run_underlying hu,F3,Instr.sureAddr,fieldPlace,hi.sizeOf,hs,←ho,Addr.add_mid]) k
theorem Rg.fH {t:TypeId} {fs:TypeDesc} {zv:Value} {bytes size b:Nat} {vs:List Value} {e:TypeId} {fr:Nat×Nat} (hu:P.underlying t=some fs) (hf:fs.isRow=true) (hi:TI P t zv size bytes) (hl:vs.length=size)
  (hx:ev L x=some (.pointer (some ⟨b,0,none⟩))) (hd:Nat.blt d n=true) (hb:w.heap[b]? =some (.cells vs.toArray e fr)) (k:Rg P r n ops rest ((d,.agg vs.toArray)::L) ds w K):
  Rg P r n ops ({dst:=some d,op:= .load t x,type:=ty,pos,after:=af,guard:=none}::rest) L ds w K:=by
 refine .op (fun _ h=>by cases h) rfl rfl hd (.agg vs.toArray) w (fun ρ h=>?_) k;simp only[execOp,h x _ hx];obtain⟨i,wZ,_,zN,_⟩:=hi.get;have hr:w.rangeAt b 0 vs:=fun j v hj=>iJ hb (by simpa using hj)
 have:=run_loadAt_mid (P:=P) w b 0 t vs fs hr hu hf (by simp[wZ,zN,hl]);simp[this]
theorem tj:∀(vs:List Value) (w:World) (b o:Nat) (cs:Array Value) (e:TypeId) (fr:Nat×Nat),w.heap[b]? =some (.cells cs e fr)→
  ∃NB:Array Value,(w.setCells b o vs).heap[b]? =some (.cells NB e fr)∧NB.size=cs.size∧(∀j,NB[j]? =if o≤j∧j<o+vs.length∧j<cs.size then vs[j-o]? else cs[j]?)∧∀M:aL,M b→Step M w M (w.setCells b o vs) (fun k=>k=b)
 |[],w,b,o,cs,e,fr,h=>⟨cs,by simpa[World.setCells]using h,rfl,fun j=>by rw[if_neg (by simp;omega)],fun M hM=>(Step.refl M w).cw (fun _ h=>h.elim) (fun k hk=>by subst hk;exact hM)⟩
 |v::vs,w,b,o,cs,e,fr,h=>by
  have h1:=uB (o:=o) (v:=v) h;obtain⟨NB,h2,h3,h4,h5⟩:=tj vs (w.setCell ⟨b,o,none⟩ v) b (o+1) _ e fr h1;refine⟨NB,h2,by rw[h3];simp,fun j=>?_,fun M hM=>(qO M hM).trans (h5 M hM) fun _ _ h=>h⟩;rw[h4 j,Array.getElem?_setIfInBounds];simp only[Array.size_setIfInBounds,List.length_cons];by_cases hj:o=j
  ·subst hj;rw[if_neg (by omega),if_pos rfl];by_cases dW:o<cs.size
   ·rw[if_pos dW,if_pos ⟨Nat.le_refl _,by omega,dW⟩];simp
   ·rw[if_neg dW,if_neg (by omega),Array.getElem?_eq_none (by omega)]
  ·rw[if_neg hj];by_cases h6:o+1≤j∧j<o+1+vs.length∧j<cs.size
   ·rw[if_pos h6,if_pos (by omega),show j-o=(j-(o+1))+1 from by omega];simp
   ·rw[if_neg h6,if_neg (by omega)]
theorem Rg.ei {t:TypeId} {zv:Value} {bytes size b:Nat} {cs:Array Value} {vs:List Value} {e:TypeId} {M:aL} (hi:TI P t zv size bytes) (hl:vs.length=size) (hcs:cs.size=size) (h1:∀u∈vs,u.oneCell'=true)
  (hx:ev L x=some (.pointer (some ⟨b,0,none⟩))) (hy:ev L y=some (.agg vs.toArray)) (hb:w.heap[b]? =some (.cells cs e (0,0))) (hm:M b)
  (k:∀w',w'.heap[b]? =some (.cells vs.toArray e (0,0))→Step M w M w' (fun k=>k=b)→Rg P r n ops rest L ds w' K):
  Rg P r n ops ({dst:=none,op:= .store t x y,type:=ty,pos,after:=af,guard:=none}::rest) L ds w K:=by
 obtain⟨NB,h2,h3,h4,h5⟩:=tj vs w b 0 cs e (0,0) hb
 have XB:NB=vs.toArray:=Array.ext_getElem? fun j=>by
  rw[h4 j];by_cases hj:j<cs.size
  ·rw[if_pos (by omega)];simp
  ·rw[if_neg (by omega),Array.getElem?_eq_none (by omega)];simp;omega
 subst XB;refine .Rb (fun _ h=>by cases h) rfl rfl (w.setCells b 0 vs) (fun ρ hρ=>?_) (k _ h2 (h5 M hm));simp only[execOp,hρ x _ hx,hρ y _ hy];obtain⟨i,wZ,_,zN,_⟩:=hi.get
 have:=run_storeAt_mid (P:=P) w b 0 t vs.toArray (fun j hj=>by
  have hj':j<cs.size:=by simp at hj;omega
  exact⟨by rw[iJ hb (v:=cs[j]) (by simp[hj'])];rfl,by simp[World.frozen?,hb]⟩) (by simp[wZ,zN,hl]) (by simpa[Array.all_eq_true_iff_forall_mem]using h1)
 simp[this]
theorem Rg.ll {t e:TypeId} {zv v:Value} {bytes:Nat} {M M1:aL} {w1:World} {a:α} {ty2:TypeId} {XC:String} {af2:Array Edge} (hi:TI P e zv A.n bytes) (hz:zv.cells.size=A.n) (hg:A.agg=true) (hd:Nat.blt d n=true) (EC:t=e) (hdy:ev ((d,.pointer (some ⟨w.heap.size,0,none⟩))::L) y=some v)
  (hv:A.V M1 w1 a v) (hle:Le M1 w1 M w) (hm:Lt M w) (k:∀u w',cc A M w' u a→Step M w M w' aE→w.heap.size<w'.heap.size→Rg P r n ops rest ((d,u)::L) ds w' K):
  Rg P r n ops ({dst:=some d,op:= .alloc e,type:=ty,pos,after:=af,guard:=none}::{dst:=none,op:= .store t (.tmp d) y,type:=ty2,pos:=XC,after:=af2,guard:=none}::rest) L ds w K:=by
 subst EC;obtain⟨vs,h1,rfl⟩:=hv.le hle;have Ru:lk ((d,.pointer (some ⟨w.heap.size,0,none⟩))::L) d=some (.pointer (some ⟨w.heap.size,0,none⟩)):=by simp[lk,Nat.beq_refl]
 obtain⟨i,i1,i2,i3,i4⟩:=hi.get;refine .op (fun _ h=>by cases h) rfl rfl hd (.pointer (some ⟨w.heap.size,0,none⟩)) (w.alloc (.cells zv.cells t)) (fun ρ hρ=>?_) ?_
 ·simp only[execOp];simp[Instr.alloc,zeroValue,typeInfo,i1,i2,newVar,newRow,newObj,Sem.run]
 ·have s1:=(dv M w (.cells zv.cells t)).own (Nat.le_refl _) (by simp);refine .ei (M:=ins M w.heap.size) hi (A.len h1) hz (A.one h1) Ru (by simpa[RT.val,hg]using hdy) (cJ w _) (.inl rfl) (fun w' h2 s2=>?_);have Cc:=s2.size;have km:Step M w M w' aE:=⟨fun h b hb=>Nat.lt_of_lt_of_le (h b hb) (Nat.le_trans s1.size Cc),s2.os.trans s1.os,s2.tape.trans s1.tape,s2.output.trans s1.output,Nat.le_trans s1.size Cc,fun _ _=>Iff.rfl,fun k hk _=>(s2.same k (Nat.lt_of_lt_of_le hk s1.size) (fun e=>by subst e;omega)).trans (s1.same k hk fun h=>h.elim),fun _ h=>h.elim⟩;refine k _ w' ⟨w.heap.size,0,vs,rfl,fun h=>by have:=hm _ h;omega,A.le km.le h1,fun j u hj=>iJ h2 (by simpa using hj)⟩ km (by simp at Cc;omega)
def Cg (place:Nat→Option (Nat×Nat)):List Value→List (Nat×Value)→List Value→Prop
 |zs,[],out=>out=zs
 |zs,(i,v)::rest,out=>∃off vs,place i=some (off,vs.length)∧v.cells=vs.toArray∧off+vs.length≤zs.length∧Cg place (zs.take off++vs++zs.drop (off+vs.length)) rest out
theorem tn {place:Nat→Option (Nat×Nat)}:∀(ps:List (Nat×Value)) (zs out:List Value),Cg place zs ps out→Instr.fill place zs.toArray ps=some out.toArray
 |[],zs,out,h=>by cases h;rfl
 |(i,v)::rest,zs,out,⟨off,vs,h1,h2,h3,h4⟩=>by
  rw[←tn rest _ out h4]
  have key:∀(l:List Value) (k:Nat) (cs:Array Value),off+k+l.length≤cs.size→((l.zipIdx k).foldl (fun(cs:Array Value) (x:Value×Nat)=>cs.setIfInBounds (off+x.2) x.1) cs).size=cs.size∧
    ∀j:Nat,((l.zipIdx k).foldl (fun(cs:Array Value) (x:Value×Nat)=>cs.setIfInBounds (off+x.2) x.1) cs)[j]? =if off+k≤j∧j<off+k+l.length then l[j-(off+k)]? else cs[j]? :=by
   intro l
   induction l with
   |nil=>
    intro k cs hk;refine⟨rfl,fun j=>?_⟩;simp;intro h1 h2;omega
   |cons a l ih=>
    intro k cs hk;simp only[List.zipIdx_cons,List.foldl_cons];simp only[List.length_cons]at hk;obtain⟨h1,h2⟩:=ih (k+1) (cs.setIfInBounds (off+k) a) (by simp;omega);refine⟨by rw[h1];simp,fun j=>?_⟩;rw[h2 j,Array.getElem?_setIfInBounds,List.length_cons];by_cases h3:off+(k+1)≤j∧j<off+(k+1)+l.length
    ·rw[if_pos h3,if_pos (by omega),show j-(off+k)=(j-(off+(k+1)))+1 from by omega];simp
    ·rw[if_neg h3];by_cases h4:off+k=j
     ·subst h4;rw[if_pos rfl,if_pos (by omega),if_pos (by omega)];simp
     ·rw[if_neg h4,if_neg (by omega)]
  obtain⟨k1,k2⟩:=key vs 0 zs.toArray (by simpa using h3)
  conv=>lhs;rw[Instr.fill]
  simp only[h1,h2];simp[show¬(zs.length<off+vs.length) by omega];congr 1;refine Array.ext_getElem? fun j=>?_
  rw[k2 j,Nat.add_zero,List.getElem?_toArray,List.getElem?_toArray];by_cases hj:j<off
  ·rw[if_neg (by omega),List.getElem?_append_left (by simp;omega),List.getElem?_take,if_pos hj]
  ·have ht:(zs.take off).length=off:=by simp;omega
   rw[List.getElem?_append_right (by omega),ht];by_cases tp:j<off+vs.length
   ·rw[if_pos (by omega),List.getElem?_append_left (by omega)]
   ·rw[if_neg (by omega),List.getElem?_append_right (by omega),List.getElem?_drop];congr 1;omega
def placesOf (P:Program) (t:TypeId):List (Option (Nat×Nat)):=match P.underlying t with
 |some (.struct fs)=>fs.toList.map fun f=>(P.info? f.type).map fun i=>(f.offset,i.size)
 |_=>[]
def Al (L:Sl):List (Nat×Operand)→List (Nat×Value)→Prop
 |[],vs=>vs=[]
 |p::ps,vs=>∃v r,vs=(p.1,v)::r∧ev L p.2=some v∧Al L ps r
theorem Al.use {ρ:Operand→Value} (h:∀x v,ev L x=some v→ρ x=v):∀{ps:List (Nat×Operand)} {vs:List (Nat×Value)},Al L ps vs→ps.map (fun p=>(p.1,ρ p.2))=vs
 |[],_,hp=>by cases hp;rfl
 |p::ps,_,⟨v,r,h1,h2,h3⟩=>by rw[List.map_cons,h p.2 v h2,Al.use h h3,h1]
theorem Rg.build {t:TypeId} {fs:Array Field} {zv:Value} {bytes size:Nat} {ps:List (Nat×Operand)} {fV:List (Nat×Value)} {out:List Value} {places:List (Nat×Nat)} (hu:P.underlying t=some (.struct fs)) (hi:TI P t zv size bytes)
  (NC:placesOf P t=places.map some) (hd:Nat.blt d n=true)
  (oe:Al L ps fV) (hf:Cg (fun i=>places[i]?) zv.cells.toList fV out) (k:Rg P r n ops rest ((d,.agg out.toArray)::L) ds w K):
  Rg P r n ops ({dst:=some d,op:= .build t ps.toArray,type:=ty,pos,after:=af,guard:=none}::rest) L ds w K:=by
 have yM:fs.toList.map (fun f=>(P.info? f.type).map fun i=>(f.offset,i.size))=places.map some:=by
  unfold placesOf at NC;rw[hu]at NC;exact NC
 obtain⟨i,i1,i2,i3,i4⟩:=hi.get;refine .op (fun _ h=>by cases h) rfl rfl hd (.agg out.toArray) w (fun ρ hρ=>?_) k;have hm:(Array.map (fun(i,x)=>(i,ρ x)) ps.toArray).toList=fV:=by rw[Array.toList_map];exact oe.use hρ
 have hp:∀(l:List Field) (acc:List (Nat×Nat)),l.map (fun f=>(P.info? f.type).map fun i=>(f.offset,i.size))=acc.map some→(l.mapM (fun f=>do let s ←Go.sizeOf f.type;pure (f.offset,s):Field→Sem (Nat×Nat))).run P w= .ok acc w:=by
  intro l
  induction l with
  |nil=>intro acc h;cases acc with
   |nil=>rfl
   |cons a acc=>simp at h
  |cons f l ih=>
   intro acc h
   cases acc with
   |nil=>simp at h
   |cons a acc=>
    simp only[List.map_cons,List.cons.injEq]at h;obtain⟨h1,h2⟩:=h;have:=ih acc h2
    cases hq:P.info? f.type with
    |none=>rw[hq]at h1;simp at h1
    |some i=>
     rw[hq]at h1;simp at h1;subst h1;have hs:(Go.sizeOf f.type).run P w= .ok i.size w:=by simp[Go.sizeOf,typeInfo,program,Sem.run,hq]
     simp only[List.mapM_cons,Sem.run_bind,hs,Result.andThen_ok,Sem.run_pure,this]
 have Rv:(fs.mapM (fun f=>do let s ←Go.sizeOf f.type;pure (f.offset,s):Field→Sem (Nat×Nat))).run P w= .ok places.toArray w:=by
  have h3:fs.mapM (fun f=>do let s ←Go.sizeOf f.type;pure (f.offset,s):Field→Sem (Nat×Nat))=List.toArray <$> fs.toList.mapM (fun f=>do let s ←Go.sizeOf f.type;pure (f.offset,s):Field→Sem (Nat×Nat)):=by
   exact Array.mapM_eq_mapM_toList
  rw[h3];simp only[map_eq_pure_bind,Sem.run_bind,hp _ _ yM,Result.andThen_ok,Sem.run_pure]
 have hf2:=tn fV _ out hf;have hz:(zeroValue t).run P w= .ok zv w:=by simp[zeroValue,typeInfo,program,Sem.run,i1,i2]
 have hf3:Instr.fill (fun x=>places.toArray[x]?) zv.cells fV=some out.toArray:=by simpa using hf2
 simp only[execOp,Instr.build,Sem.run_bind,hz,Result.andThen_ok,run_underlying hu,Rv,hm,hf3,Sem.run_pure]
theorem Rg.ED {t e:TypeId} {l h m:Operand} {κ κ' κ'':IntKind} {lo hi mx:Int} {hn:0<A.n} {M:aL} {w1:World} {xs:List α} {v zv:Value} {bytes:Nat} (ht:P.underlying t=some (.slice e)) (JQ:TI P e zv A.n bytes)
  (hx:ev L x=some v) (hl:ev L l=some (.int κ lo)) (hh:ev L h=some (.int κ' hi)) (hm:ev L m=some (.int κ'' mx)) (hd:Nat.blt d n=true) (hv:(A.sl hn).V M w1 xs v) (hb:0≤lo∧lo≤hi∧hi=mx∧hi≤xs.length)
  (k:∀u,(A.sl hn).V M w1 ((xs.take hi.toNat).drop lo.toNat) u→Rg P r n ops rest ((d,u)::L) ds w K):
  Rg P r n ops ({dst:=some d,op:= .slice t x (some l) (some h) (some m),type:=ty,pos,after:=af,guard:=none}::rest) L ds w K:=by
 obtain⟨a,cap,rfl,hc,hlen,hs⟩:=ix.1 hv;obtain⟨h1,h2,rfl,h3⟩:=hb;have mD:((xs.take hi.toNat).drop lo.toNat).length=hi.toNat-lo.toNat:=by rw[List.length_drop,List.length_take];omega
 refine .op (fun _ h=>by cases h) rfl rfl hd (sliced a lo.toNat hi.toNat hi.toNat A.n) w (fun ρ hρ=>?_) (k _ (ix.2 ⟨_,hi.toNat-lo.toNat,?_,by omega,by omega,hs.slice lo.toNat hi.toNat cap hi.toNat (by omega) (by omega) (by omega)⟩))
 ·simp only[execOp,hρ x _ hx,Option.map_some,hρ l _ hl,hρ h _ hh,hρ m _ hm];rw[Sem.run_bind,run_sliceAt_slice _ _ _ _ _ _ (kb ht),run_slice_lhm _ _ _ _ _ (kb ht) _ _ _ _ _ _ h1 h2 (Int.le_refl _) (by omega),qM ht,JQ.sizeOf];simp
 ·rw[mD];rfl
theorem Rg.qS {t t' e:TypeId} {a:Option Addr} {l c:Nat} (ht:P.underlying t=some (.slice e)) (hx:ev L x=some (.slice a l c)) (hy:ev L y=some (.slice none 0 0)) (hd:Nat.blt d n=true)
  (k:Rg P r n ops rest ((d,.bool (decide (a=none)))::L) ds w K):
  Rg P r n ops ({dst:=some d,op:= .binOp .eql t x y t',type:=ty,pos,after:=af,guard:=none}::rest) L ds w K:=
 .op (fun _ h=>by cases h) rfl rfl hd _ w (fun ρ h=>by
  have he:=run_equal_slice_nil (P:=P) w t e a l c ht;simp only[execOp];rw[h x _ hx,h y _ hy]
  cases a<;>simp[eqGuard,binOp,run_underlying ht]<;>simp[he]) k
theorem Rg.Gj {t t' e:TypeId} {v:Value} (ht:P.underlying t=some (.pointer e)) (hx:ev L x=some v) (hv:∃p,v= .pointer (some p)) (hy:ev L y=some (.pointer none)) (hd:Nat.blt d n=true)
  (k:Rg P r n ops rest ((d,.bool false)::L) ds w K):
  Rg P r n ops ({dst:=some d,op:= .binOp .eql t x y t',type:=ty,pos,after:=af,guard:=none}::rest) L ds w K:=by
 obtain⟨p,rfl⟩:=hv
 exact .op (fun _ h=>by cases h) rfl rfl hd _ w (fun ρ h=>by
  have J1:P.underlying t=some (.pointer (P.pointee t)):=by simp[Program.pointee,ht]
  have he:=run_equal_pointer_nil (P:=P) w t (some p) J1;simp only[execOp];rw[h x _ hx,h y _ hy];simp[eqGuard,binOp,run_underlying ht,he]) k
theorem Rg.Rw {t e:TypeId} {zv:Value} {bytes size:Nat} (ht:P.underlying t=some (.slice e)) (hi:TI P e zv size bytes) (M:aL) (hd:Nat.blt d n=true)
  (k:∀a w',Step M w M w' aE→Rg P r n ops rest ((d,.slice (some a) 0 0)::L) ds w' K):
  Rg P r n ops ({dst:=some d,op:= .buildSlice t 0 #[],type:=ty,pos,after:=af,guard:=none}::rest) L ds w K:=by
 refine .op (fun _ h=>by cases h) rfl rfl hd (.slice (some ⟨w.heap.size,0,none⟩) 0 0) (w.alloc (.cells #[] e)) (fun ρ hρ=>?_) (k _ _ (dv M w _));simp only[execOp,Instr.buildSlice,Sem.run_bind,run_underlying ht,Result.andThen_ok,hi.sizeOf];simp[newRow,newObj,Sem.run,Instr.fill];have h0:Array.range 0= #[]:=by apply Array.ext<;>simp
 simp[h0]
theorem Gk {fn:Func} {Q:Value→World→Prop} {c t u s b:Nat} {vs:List Value} {fs:TypeDesc} {e:TypeId} {fr:Nat×Nat} {y z zv:Value} {size bytes:Nat} (hr:fn.results= #[.cell c t,.tmp u,.tmp s]) (hc:lk L c=some (.pointer (some ⟨b,0,none⟩))) (hu:P.underlying t=some fs) (hf:fs.isRow=true) (hi:TI P t zv size bytes) (hl:vs.length=size)
  (hb:w.heap[b]? =some (.cells vs.toArray e fr)) (hy:lk L u=some y) (hz:lk L s=some z) (h:Q (.tuple #[.agg vs.toArray,y,z]) w):xf P fn Q .ret L [] w:=
 ⟨rfl,fun a ha=>⟨_,by
  obtain⟨i,wZ,_,zN,_⟩:=hi.get;have Gl:w.rangeAt b 0 vs:=fun j v hj=>iJ hb (by simpa using hj)
  have:=run_loadVar_mid (P:=P) w b 0 t vs fs Gl hu hf (by simp[wZ,zN,hl]);simp[results,hr,ha _ _ hc,ha _ _ hy,ha _ _ hz,asAddr,this,Sem.run_bind],h⟩⟩
theorem Rg.mF {t e:TypeId} {zv:Value} {bytes:Nat} {hn:0<A.n} {M M2:aL} {w2:World} {a:Option Addr} {u:Value} {ys:List α} (ht:P.underlying t=some (.slice e)) (hi:TI P e zv A.n bytes) (hz:zv.cells.size=A.n)
  (hx:ev L x=some (.slice a 0 0)) (hy:ev L y=some u) (hd:Nat.blt d n=true) (hu:(A.sl hn).V M2 w2 ys u) (hle:Le M2 w2 M w) (hm:Lt M w) (hb:ys.length*bytes≤140737488355328)
  (k:∀v' w',(A.sl hn).V M w' ys v'→Step M w M w' aE→Rg P r n ops rest ((d,v')::L) ds w' K):
  Rg P r n ops ({dst:=some d,op:= .call {callee:= .builtin .append,args:= #[x,y],argTypes:= #[t,t]},type:=ty,pos,after:=af,guard:=none}::rest) L ds w K:=by
 have QB:=dK hu;by_cases fg:ys=[]
 ·subst fg;obtain⟨b,c,rfl,_⟩:=ix.1 hu;refine .op (fun _ h=>by cases h) rfl rfl hd (.slice a 0 0) w (fun ρ hρ=>?_) (k _ w (ix.2 ⟨a,0,rfl,Nat.le_refl _,by simp,.inl rfl⟩) (Step.refl _ _));simp only[execOp,resolve,List.map_toArray,List.map_cons,List.map_nil,hρ x _ hx,hρ y _ hy];have:=nP (P:=P) (w:=w) (ty:=ty) ht hi a 0 0 c b (Nat.le_refl 0);simp only[List.length_nil]at this ⊢;simp[invoke,builtin,this]
 ·have hp:0<ys.length:=List.length_pos_iff.2 fg;refine .uD (xs:=[]) (a:=a) ht hi hz hx hy hd (ix.2 ⟨a,0,rfl,Nat.le_refl _,by simp,.inl rfl⟩) (fun _=>rfl) hu hle hp (by simpa using QB) (by simpa using hb) fun v' M' w' ho s=> ?_
  rw[List.nil_append]at ho;exact k v' w' (Own.close hm s ho QB) s.back
theorem jq {M:aL} {a:α} {v:Value} (h:A.V M w a v) (hg:A.agg=false) (h1:A.n=1):v.oneCell'=true:=by
 obtain⟨vs,hR,rfl⟩:=h;have hl:=A.len hR
 match vs,hl with
 |[u],_=>simpa[RT.val,hg]using A.one hR u (by simp)
 |[],hl=>simp at hl;omega
 |_::_::_,hl=>simp at hl;omega
theorem lp {M:aL} {a:α} {v:Value} (h:A.V M w a v) (hg:A.agg=false) (h1:A.n=1):A.R M w a [v]:=by
 obtain⟨vs,hR,rfl⟩:=h;have hl:=A.len hR
 match vs,hl,hR with
 |[u],_,hR=>simpa[RT.val,hg]using hR
 |[],hl,_=>simp at hl;omega
 |_::_::_,hl,_=>simp at hl;omega
theorem eC {β:Type} {B:RT β} {M:aL} {a:α} {b:β} {u v:Value} (h:A.V M w a u) (h':B.V M w b v) (hg:A.agg=false) (h1:A.n=1) (hg':B.agg=false) (Gm:B.n=1):(A.pair B).V M w (a,b) (.agg [u,v].toArray):=
 ⟨[u,v],⟨[u],[v],rfl,lp h hg h1,lp h' hg' Gm⟩,rfl⟩
theorem Gn {x:Int}: -9223372036854775808≤IntKind.i64.wrap x∧IntKind.i64.wrap x≤9223372036854775807:=by
 rw[IntKind.wrap_i64];omega
end
end Go.K
namespace Go.K
open Go.Proofs
theorem I3:TI Tryz.prog 3 (.int .i64 0) 1 8:=by unfold TI;kernel_rfl
theorem I5:TI Tryz.prog 5 (.int .u8 0) 1 1:=by unfold TI;kernel_rfl
theorem I9:TI Tryz.prog 9 (.string ⟨#[]⟩) 1 16:=by unfold TI;kernel_rfl
theorem Wy:TI Tryz.prog 26 (.int .i64 0) 1 8:=by unfold TI;kernel_rfl
theorem jR:TI Tryz.prog 32 (.slice none 0 0) 1 24:=by unfold TI;kernel_rfl
theorem pG:TI Tryz.prog 39 (.slice none 0 0) 1 24:=by unfold TI;kernel_rfl
theorem kQ:TI Tryz.prog 41 (.agg #[(.int .i64 0),(.slice none 0 0)]) 2 32:=by unfold TI;kernel_rfl
theorem xh:TI Tryz.prog 43 (.agg #[(.int .i64 0),(.slice none 0 0),(.int .i64 0)]) 3 40:=by unfold TI;kernel_rfl
theorem jr:TI Tryz.prog 47 (.agg #[(.string ⟨#[]⟩),(.string ⟨#[]⟩)]) 2 32:=by unfold TI;kernel_rfl
theorem tR:TI Tryz.prog 55 (.slice none 0 0) 1 24:=by unfold TI;kernel_rfl
theorem I98:TI Tryz.prog 98 (.slice none 0 0) 1 24:=by unfold TI;kernel_rfl
theorem iK:TI Tryz.prog 127 (.agg #[(.string ⟨#[]⟩),(.string ⟨#[]⟩)]) 2 32:=by unfold TI;kernel_rfl
theorem pH:TI Tryz.prog 129 (.pointer none) 1 8:=by unfold TI;kernel_rfl
theorem yN:TI Tryz.prog 147 (.slice none 0 0) 1 24:=by unfold TI;kernel_rfl
theorem fv:TI Tryz.prog 153 (.agg #[(.int .i64 0),(.slice none 0 0)]) 2 32:=by unfold TI;kernel_rfl
theorem yO:TI Tryz.prog 191 (.slice none 0 0) 1 24:=by unfold TI;kernel_rfl
theorem XD:TI Tryz.prog 193 (.agg #[(.slice none 0 0),(.slice none 0 0),(.int .i64 0)]) 3 56:=by unfold TI;kernel_rfl
theorem sd:TI Tryz.prog 195 (.agg #[(.int .i64 0),(.int .i64 0),(.int .i64 0),(.int .i64 0)]) 4 32:=by unfold TI;kernel_rfl
theorem EE:TI Tryz.prog 256 (.agg #[(.string ⟨#[]⟩),(.int .i64 0)]) 2 24:=by unfold TI;kernel_rfl
theorem XE:TI Tryz.prog 309 (.agg #[(.pointer none),(.slice none 0 0)]) 2 32:=by unfold TI;kernel_rfl
theorem Rx:placesOf Tryz.prog 41=[(0,1),(1,1)].map some:=by kernel_rfl
theorem XF:placesOf Tryz.prog 43=[(0,2),(2,1)].map some:=by kernel_rfl
theorem XG:placesOf Tryz.prog 47=[(0,1),(1,1)].map some:=by kernel_rfl
theorem Gp:placesOf Tryz.prog 153=[(0,1),(1,1)].map some:=by kernel_rfl
theorem XH:placesOf Tryz.prog 193=[(0,1),(1,1),(2,1)].map some:=by kernel_rfl
theorem XI:placesOf Tryz.prog 195=[(0,1),(1,1),(2,1),(3,1)].map some:=by kernel_rfl
theorem Ry:placesOf Tryz.prog 256=[(0,1),(1,1)].map some:=by kernel_rfl
theorem mixed:Tryz.prog.follows .mixedOrders=true:=by kernel_rfl
theorem E65:Enters Tryz.prog 65:=enters Tryz.func65 rfl (by decide)
theorem Rz:Enters Tryz.prog 74:=enters Tryz.func74 rfl (by decide)
theorem RA:Enters Tryz.prog 116:=enters Tryz.func116 rfl (by decide)
theorem RB:Enters Tryz.prog 117:=enters Tryz.func117 rfl (by decide)
theorem Gq:Enters Tryz.prog 138:=enters Tryz.func138 rfl (by decide)
theorem XJ:Enters Tryz.prog 150:=enters Tryz.func150 rfl (by decide)
theorem XK:Enters Tryz.prog 151:=enters Tryz.func151 rfl (by decide)
theorem XL:Enters Tryz.prog 152:=enters Tryz.func152 rfl (by decide)
theorem XM:Enters Tryz.prog 153:=enters Tryz.func153 rfl (by decide)
theorem RC:Enters Tryz.prog 154:=enters Tryz.func154 rfl (by decide)
theorem XN:Enters Tryz.prog 158:=enters Tryz.func158 rfl (by decide)
theorem XO:Enters Tryz.prog 159:=enters Tryz.func159 rfl (by decide)
theorem XP:Enters Tryz.prog 160:=enters Tryz.func160 rfl (by decide)
theorem XQ:Enters Tryz.prog 161:=enters Tryz.func161 rfl (by decide)
theorem XR:Enters Tryz.prog 167:=enters Tryz.func167 rfl (by decide)
theorem XS:Enters Tryz.prog 171:=enters Tryz.func171 rfl (by decide)
theorem XT:Enters Tryz.prog 172:=enters Tryz.func172 rfl (by decide)
theorem ND:Enters Tryz.prog 173:=enters Tryz.func173 rfl (by decide)
theorem XU:Enters Tryz.prog 174:=enters Tryz.func174 rfl (by decide)
theorem XV:Enters Tryz.prog 187:=enters Tryz.func187 rfl (by decide)
theorem RD:Enters Tryz.prog 191:=enters Tryz.func191 rfl (by decide)
theorem RE:Enters Tryz.prog 192:=enters Tryz.func192 rfl (by decide)
theorem XW:Enters Tryz.prog 193:=enters Tryz.func193 rfl (by decide)
theorem XX:Enters Tryz.prog 194:=enters Tryz.func194 rfl (by decide)
theorem XY:Enters Tryz.prog 195:=enters Tryz.func195 rfl (by decide)
theorem XZ:Enters Tryz.prog 196:=enters Tryz.func196 rfl (by decide)
theorem X0:Enters Tryz.prog 197:=enters Tryz.func197 rfl (by decide)
theorem X1:Enters Tryz.prog 199:=enters Tryz.func199 rfl (by decide)
theorem X2:Enters Tryz.prog 212:=enters Tryz.func212 rfl (by decide)
theorem X3:Enters Tryz.prog 213:=enters Tryz.func213 rfl (by decide)
theorem RF:Enters Tryz.prog 214:=enters Tryz.func214 rfl (by decide)
theorem X4:Enters Tryz.prog 215:=enters Tryz.func215 rfl (by decide)
theorem X5:Enters Tryz.prog 216:=enters Tryz.func216 rfl (by decide)
theorem RG:Enters Tryz.prog 217:=enters Tryz.func217 rfl (by decide)
theorem X6:Enters Tryz.prog 218:=enters Tryz.func218 rfl (by decide)
theorem RH:Enters Tryz.prog 219:=enters Tryz.func219 rfl (by decide)
theorem RI:Enters Tryz.prog 220:=enters Tryz.func220 rfl (by decide)
theorem X7:Enters Tryz.prog 221:=enters Tryz.func221 rfl (by decide)
theorem X8:Enters Tryz.prog 222:=enters Tryz.func222 rfl (by decide)
theorem RJ:Enters Tryz.prog 223:=enters Tryz.func223 rfl (by decide)
theorem X9:Enters Tryz.prog 224:=enters Tryz.func224 rfl (by decide)
theorem Ya:Enters Tryz.prog 225:=enters Tryz.func225 rfl (by decide)
theorem Yb:Enters Tryz.prog 233:=enters Tryz.func233 rfl (by decide)
theorem RL:Enters Tryz.prog 250:=enters Tryz.func250 rfl (by decide)
theorem Yc:Enters Tryz.prog 251:=enters Tryz.func251 rfl (by decide)
theorem Yd:Enters Tryz.prog 252:=enters Tryz.func252 rfl (by decide)
theorem Ye:Enters Tryz.prog 253:=enters Tryz.func253 rfl (by decide)
theorem Yf:Enters Tryz.prog 254:=enters Tryz.func254 rfl (by decide)
theorem Yg:Enters Tryz.prog 255:=enters Tryz.func255 rfl (by decide)
theorem Yh:Enters Tryz.prog 256:=enters Tryz.func256 rfl (by decide)
theorem RM:Enters Tryz.prog 274:=enters Tryz.func274 rfl (by decide)
theorem Yi:Enters Tryz.prog 277:=enters Tryz.func277 rfl (by decide)
end Go.K
namespace Go.K
theorem ql (n:Nat):IntKind.u8.wrap (n:Int)=((UInt8.ofNat n).toNat:Int):=by
 rw[IntKind.wrap_u8];simp[UInt8.toNat_ofNat]
theorem RN:∀m:Nat,m<256→(BitVec.ofInt 8 (m:Int)|||BitVec.ofInt 8 128).toNat=128+m%128:=by decide+kernel
theorem J2 (n:Nat):IntKind.u8.wrap ((BitVec.ofInt IntKind.u8.bits (IntKind.u8.wrap (n:Int))|||BitVec.ofInt IntKind.u8.bits 128).toNat:Int)=((UInt8.ofNat (128+n%128)).toNat:Int):=by
 have h1:IntKind.u8.wrap (n:Int)=((n%256:Nat):Int):=by rw[IntKind.wrap_u8];omega
 rw[h1];show IntKind.u8.wrap ((BitVec.ofInt 8 ((n%256:Nat):Int)|||BitVec.ofInt 8 128).toNat:Int)=_;rw[RN (n%256) (by omega),IntKind.wrap_u8,show n%256%128=n%128 from by omega];simp[UInt8.toNat_ofNat]
theorem Yj (n:Nat):((n:Int)).fdiv (2^min (Int.toNat 7) IntKind.i64.bits)=((n/128:Nat):Int):=by
 show((n:Int)).fdiv 128=_;rw[Int.fdiv_eq_ediv_of_nonneg _ (by decide)];rfl
theorem Ch:∀m:Nat,m<256→(BitVec.ofInt 8 (m:Int)&&& ~~~ BitVec.ofInt 8 128).toNat=m%128:=by decide+kernel
theorem Am (c:UInt8):IntKind.u8.wrap ((BitVec.ofInt IntKind.u8.bits (c.toNat:Int)&&& ~~~ BitVec.ofInt IntKind.u8.bits 128).toNat:Int)=((c.toNat%128:Nat):Int):=by
 show IntKind.u8.wrap ((BitVec.ofInt 8 (c.toNat:Int)&&& ~~~ BitVec.ofInt 8 128).toNat:Int)=_;rw[Ch c.toNat (by have:=c.toNat_lt;omega),IntKind.wrap_u8];omega
theorem Gr (k n x:Nat) (hk:k≤8) (hn:n<128^k) (hx:x<128):
  IntKind.i64.wrap ((BitVec.ofInt IntKind.i64.bits (n:Int)|||BitVec.ofInt IntKind.i64.bits (IntKind.i64.wrap ((x:Int)*2^min (Int.toNat (7*(k:Int))) IntKind.i64.bits))).toNat:Int)=((n+x*128^k:Nat):Int):=by
 have e7:Int.toNat (7*(k:Int))=7*k:=by omega
 have e1:min (7*k) 64=7*k:=by omega
 have e2:(128:Nat)^k=2^(7*k):=by rw[Nat.pow_mul]
 have hp:2^(7*k)≤2^56:=Nat.pow_le_pow_right (by decide) (by omega);have hb:x*2^(7*k)≤127*2^(7*k):=Nat.mul_le_mul_right _ (by omega);rw[e2]at hn ⊢;show IntKind.i64.wrap ((BitVec.ofInt 64 (n:Int)|||BitVec.ofInt 64 (IntKind.i64.wrap ((x:Int)*2^min (Int.toNat (7*(k:Int))) 64))).toNat:Int)=_;rw[e7,e1];have e3:((x:Int)*2^(7*k))=((x*2^(7*k):Nat):Int):=by simp
 have e5:n|||x*2^(7*k)=n+x*2^(7*k):=by
  rw[Nat.or_comm,Nat.mul_comm x,←Nat.two_pow_add_eq_or_of_lt hn x,Nat.add_comm]
 rw[e3];generalize x*2^(7*k)=y at*
 generalize 2^(7*k)=z at*
 have e4:∀m:Nat,m<2^64→(BitVec.ofInt 64 (m:Int))=BitVec.ofNat 64 m:=fun m _=>by simp
 rw[IntWalk.i64_in (y:Int) (by omega),e4 n (by omega),e4 y (by omega),BitVec.toNat_or,BitVec.toNat_ofNat,BitVec.toNat_ofNat,Nat.mod_eq_of_lt (by omega),Nat.mod_eq_of_lt (by omega),e5,IntWalk.i64_in _ (by omega)]
theorem qm (x:Int): -9223372036854775808≤IntKind.i64.wrap x∧IntKind.i64.wrap x≤9223372036854775807:=by rw[IntKind.wrap_i64];omega
end Go.K
namespace Go.K
def put (n:Nat):List UInt8:=if n<128 then[UInt8.ofNat n]else UInt8.ofNat (128+n%128)::put (n/128)
termination_by n
decreasing_by omega
theorem sf {n:Nat} (h:n<128):put n=[UInt8.ofNat n]:=by rw[put,if_pos h]
theorem yP {n:Nat} (h:128≤n):put n=UInt8.ofNat (128+n%128)::put (n/128):=by rw[put,if_neg (by omega)]
theorem uk (n:Nat):0<(put n).length:=by rw[put];split<;>simp
theorem J3 {k:Nat}:∀{n:Nat},n<128^(k+1)→(put n).length≤k+1:=by
 induction k with
 |zero=>intro n h;rw[sf (by simpa using h)];simp
 |succ k ih=>
  intro n h;by_cases h1:n<128
  ·rw[sf h1];simp
  ·rw[yP (by omega)];have:=ih (n:=n/128) (by rw[Nat.pow_succ]at h;omega);simp;omega
theorem gE {n:Nat} (h:n≤9223372036854775807):(put n).length≤9:=J3 (k:=8) (by omega)
def mG:List UInt8→Nat→Nat→Option (Nat×Nat)
 |[],_,_=>none
 |c::cs,i,n=>if c.toNat<128 then(if c.toNat=0∧0<i then none else some (n+c.toNat%128*128^i,i+1))else mG cs (i+1) (n+c.toNat%128*128^i)
def get (b:List UInt8) (at_:Int):Int×Int×Int:=
 if at_<0∨(b.length:Int)<at_ then(0,0,1)
 else match mG ((b.drop at_.toNat).take 9) 0 0 with
  |some (n,k)=>(n,at_+k,0)
  |none=>(0,0,2)
theorem mH {bs:List UInt8} {k:Nat} {c:UInt8} (h:bs[k]? =some c) (n:Nat):mG (bs.drop k) k n=
  if c.toNat<128 then(if c.toNat=0∧0<k then none else some (n+c.toNat%128*128^k,k+1))else mG (bs.drop (k+1)) (k+1) (n+c.toNat%128*128^k):=by
 obtain⟨dW,he⟩:=List.getElem?_eq_some_iff.1 h;rw[List.drop_eq_getElem_cons dW,mG,he]
theorem NF (b:List UInt8) (i:Nat):(b.take (min b.length (i+9))).drop i=(b.drop i).take 9:=by
 rw[List.drop_take,List.take_eq_take_iff];simp;omega
def val:List UInt8→Nat
 |[]=>0
 |c::cs=>c.toNat%128+128*val cs
def eI:Int→List Int→Bool
 |_,[]=>true
 |last,x::l=>decide (last<x)&&eI x l
def jZ:Int→List Int→List UInt8
 |_,[]=>[]
 |last,x::l=>put (x-last-1).toNat++jZ x l
def dO (l:List Int):List UInt8:=put l.length++jZ (-1) l
def LQ:Int→List Int→List Int
 |_,[]=>[]
 |last,x::l=>let m:=if x<0 then-(x+1)else x;(last+1+m%1000)::LQ (last+1+m%1000) l
def good (l:List Int) (most:Nat):List Int:=LQ (-1) (l.take most)
theorem sh {b:List UInt8} {at_:Int} (h:(get b at_).2.2=0):0≤at_∧at_<(get b at_).2.1∧(get b at_).2.1≤b.length∧0≤(get b at_).1∧(get b at_).1<9223372036854775808:=by
 unfold get at h ⊢
 split at h
 ·simp at h
 rename_i hr
 rw[if_neg hr]at*
 have key:∀(bs:List UInt8) (i n m k:Nat),mG bs i n=some (m,k)→bs.length+i≤9→n<128^i→i<k∧k≤i+bs.length∧m<128^k:=by
  intro bs
  induction bs with
  |nil=>intro i n m k h;simp[mG]at h
  |cons c cs ih=>
   intro i n m k h hl hn
   have hd:n+c.toNat%128*128^i<128^(i+1):=by
    have:=Nat.mul_le_mul_right (128^i) (show c.toNat%128≤127 from by omega);rw[Nat.pow_succ];omega
   simp only[mG]at h
   split at h
   ·split at h
    ·cases h
    ·cases h;exact⟨by omega,by simp,hd⟩
   ·obtain⟨h1,h2,h3⟩:=ih (i+1) _ m k h (by simp at hl;omega) hd;exact⟨by omega,by simp;omega,h3⟩
 cases hg:mG ((b.drop at_.toNat).take 9) 0 0 with
 |none=>simp[hg]at h
 |some p=>
  obtain⟨m,k⟩:=p;have hlen:((b.drop at_.toNat).take 9).length≤9∧((b.drop at_.toNat).take 9).length≤b.length-at_.toNat:=by rw[List.length_take,List.length_drop];omega
  obtain⟨h1,h2,h3⟩:=key _ 0 0 m k hg (by omega) (by decide);have hp:128^k≤128^9:=Nat.pow_le_pow_right (by decide) (by omega);simp only;omega
def gK (b:List UInt8):Nat→Int→Int→Int×List Int×Int
 |0,at_,_=>(0,[],at_)
 |k+1,at_,last=>
  if(get b at_).2.2≠0 then((get b at_).2.2,[],0)
  else if 4611686018427387904-last-1<(get b at_).1 then(2,[],0)
  else if(gK b k (get b at_).2.1 (last+1+(get b at_).1)).1≠0 then((gK b k (get b at_).2.1 (last+1+(get b at_).1)).1,[],0)
  else(0,(last+1+(get b at_).1)::(gK b k (get b at_).2.1 (last+1+(get b at_).1)).2.1,(gK b k (get b at_).2.1 (last+1+(get b at_).1)).2.2)
def fW (b:List UInt8) (at_:Int):Int×List Int×Int:=
 if(get b at_).2.2≠0 then((get b at_).2.2,[],0)else gK b (get b at_).1.toNat (get b at_).2.1 (-1)
theorem ez {l:List Int} {k:Nat} {x:Int} (h:l[k]? =some x) (last:Int):eI last (l.drop k)=(decide (last<x)&&eI x (l.drop (k+1))):=by
 obtain⟨dW,he⟩:=List.getElem?_eq_some_iff.1 h;rw[List.drop_eq_getElem_cons dW,eI,he]
theorem si {l:List Int} {k:Nat} {x:Int} (h:l[k]? =some x) (last:Int):jZ last (l.drop k)=put (x-last-1).toNat++jZ x (l.drop (k+1)):=by
 obtain⟨dW,he⟩:=List.getElem?_eq_some_iff.1 h;rw[List.drop_eq_getElem_cons dW,jZ,he]
theorem qT:∀(l:List Int) (last:Int),-1≤last→(∀x∈l,x≤9223372036854775807)→eI last l=true→(jZ last l).length≤9*l.length
 |[],_,_,_,_=>by simp[jZ]
 |x::l,last,h1,h2,h3=>by
  simp only[eI,Bool.and_eq_true,decide_eq_true_eq]at h3;have hx:=h2 x (List.mem_cons_self ..);have h4:=qT l x (by omega) (fun y hy=>h2 y (List.mem_cons_of_mem _ hy)) h3.2;have h5:=gE (n:=(x-last-1).toNat) (by omega);simp only[jZ,List.length_append,List.length_cons];omega
theorem yQ {l:List Int} {k:Nat} {x last:Int} (h:l[k]? =some x) (hr:eI last (l.drop k)=true):last<x∧eI x (l.drop (k+1))=true:=by
 rw[ez h]at hr;simpa using hr
theorem uJ (b:List UInt8) (a last:Int):gK b 0 a last=(0,[],a):=rfl
theorem qn {b:List UInt8} {k:Nat} {a last:Int} (h:(get b a).2.2≠0):gK b (k+1) a last=((get b a).2.2,[],0):=by rw[gK,if_pos h]
theorem sk {b:List UInt8} {k:Nat} {a last:Int} (h:(get b a).2.2=0) (h2:4611686018427387904-last-1<(get b a).1):gK b (k+1) a last=(2,[],0):=by
 rw[gK,if_neg (by simpa using h),if_pos h2]
theorem uK {b:List UInt8} {k:Nat} {a last:Int} (h:(get b a).2.2=0) (h2: ¬4611686018427387904-last-1<(get b a).1):gK b (k+1) a last=
  if(gK b k (get b a).2.1 (last+1+(get b a).1)).1≠0 then((gK b k (get b a).2.1 (last+1+(get b a).1)).1,[],0)
  else(0,(last+1+(get b a).1)::(gK b k (get b a).2.1 (last+1+(get b a).1)).2.1,(gK b k (get b a).2.1 (last+1+(get b a).1)).2.2):=by
 rw[gK,if_neg (by simpa using h),if_neg h2]
def andThen (acc:List Int) (r:Int×List Int×Int):Int×List Int×Int:=if r.1≠0 then(r.1,[],0)else(0,acc++r.2.1,r.2.2)
theorem ni {b:List UInt8} {k:Nat} {a last:Int} (acc:List Int) (h:(get b a).2.2=0) (h2: ¬4611686018427387904-last-1<(get b a).1):
  andThen acc (gK b (k+1) a last)=andThen (acc++[last+1+(get b a).1]) (gK b k (get b a).2.1 (last+1+(get b a).1)):=by
 rw[uK h h2];unfold andThen;by_cases h3:(gK b k (get b a).2.1 (last+1+(get b a).1)).1=0<;>simp[h3]
theorem An (r:Int×List Int×Int) (h:r.1≠0→r.2=([],0)):andThen [] r=r:=by
 unfold andThen;by_cases h3:r.1=0
 ·rw[if_neg (by simpa using h3)];ext<;>simp[h3]
 ·rw[if_pos h3,←h h3]
theorem EF (b:List UInt8):∀(k:Nat) (a last:Int),(gK b k a last).1≠0→(gK b k a last).2=([],0)
 |0,a,last,h=>by simp[gK]at h
 |k+1,a,last,h=>by
  rw[gK]at h ⊢
  split
  ·rfl
  ·rename_i h1;rw[if_neg h1]at h
   split
   ·rfl
   ·rename_i h2;rw[if_neg h2]at h
    split
    ·rfl
    ·rename_i h3;rw[if_neg h3]at h;simp at h
theorem nj (b:List UInt8) (a:Int):0≤(get b a).1∧0≤(get b a).2.2∧(get b a).2.2≤2∧((get b a).2.2≠0→(get b a).1=0∧(get b a).2.1=0):=by
 unfold get
 split
 ·simp
 ·split<;>simp<;>omega
theorem xL (b:List UInt8) (a:Int):(get b a).1≤9223372036854775807:=by
 by_cases h:(get b a).2.2=0
 ·have:=sh h;omega
 ·have:=(nj b a).2.2.2 h;omega
theorem Gs:∀(k m i acc:Nat) (post:List UInt8),m<128^(k+1)→(0<i→m≠0)→mG ((put m++post).take (k+1)) i acc=some (acc+m*128^i,i+(put m).length):=by
 intro k
 induction k with
 |zero=>
  intro m i acc post h h0;have hm:m<128:=by simpa using h
  have e:(UInt8.ofNat m).toNat=m:=by rw[UInt8.toNat_ofNat'];omega
  rw[sf hm];simp only[List.cons_append,List.nil_append,List.take_succ_cons,mG,e];rw[if_pos hm,if_neg (by omega),Nat.mod_eq_of_lt hm];rfl
 |succ k ih=>
  intro m i acc post h h0;by_cases hm:m<128
  ·have e:(UInt8.ofNat m).toNat=m:=by rw[UInt8.toNat_ofNat'];omega
   rw[sf hm];simp only[List.cons_append,List.nil_append,List.take_succ_cons,mG,e];rw[if_pos hm,if_neg (by omega),Nat.mod_eq_of_lt hm];rfl
  ·have e:(UInt8.ofNat (128+m%128)).toNat=128+m%128:=by rw[UInt8.toNat_ofNat'];omega
   rw[yP (by omega)];simp only[List.cons_append,List.take_succ_cons,mG,e];rw[if_neg (by omega),ih (m/128) (i+1) _ post (by rw[Nat.pow_succ]at h;omega) (by omega)];have h2:(128+m%128)%128=m%128:=by omega
   rw[h2,Nat.pow_succ];congr 2
   ·have h3:m=m%128+128*(m/128):=by omega
    have h4:m*128^i=(m%128)*128^i+(m/128)*(128^i*128):=by
     conv=>lhs;rw[h3]
     rw[Nat.add_mul,Nat.mul_comm 128 (m/128),Nat.mul_assoc,Nat.mul_comm 128 (128^i)]
    omega
   ·simp;omega
theorem yR (pre post:List UInt8) {n:Nat} (hn:n≤9223372036854775807):get (pre++put n++post) pre.length=((n:Int),((pre.length+(put n).length:Nat):Int),0):=by
 unfold get;rw[if_neg (by simp;omega)]
 have h1:((pre++put n++post).drop (pre.length:Int).toNat).take 9=(put n++post).take (8+1):=by
  rw[Int.toNat_natCast,List.append_assoc,List.drop_left]
 rw[h1,Gs 8 n 0 0 post (by omega) (by omega)];simp
theorem xM:∀(l:List Int) (pre post:List UInt8) (last:Int),-1≤last→eI last l=true→(∀x∈l,x≤4611686018427387904)→
  gK (pre++jZ last l++post) l.length pre.length last=(0,l,((pre.length+(jZ last l).length:Nat):Int))
 |[],pre,post,last,_,_,_=>by simp[jZ,gK]
 |x::l,pre,post,last,h1,h2,h3=>by
  simp only[eI,Bool.and_eq_true,decide_eq_true_eq]at h2;have hx:=h3 x (List.mem_cons_self ..);have e0:pre++jZ last (x::l)++post=pre++put (x-last-1).toNat++(jZ x l++post):=by simp[jZ]
  have e1:=yR pre (jZ x l++post) (n:=(x-last-1).toNat) (by omega);have e2:pre++put (x-last-1).toNat++(jZ x l++post)=(pre++put (x-last-1).toNat)++jZ x l++post:=by simp
  have ih:=xM l (pre++put (x-last-1).toNat) post x (by omega) h2.2 (fun y hy=>h3 y (List.mem_cons_of_mem _ hy));rw[e0,List.length_cons,uK (by rw[e1]) (by rw[e1];simp only;omega),e1];simp only;have e3:last+1+(((x-last-1).toNat:Nat):Int)=x:=by omega
  rw[e3,e2,show((pre.length+(put (x-last-1).toNat).length:Nat):Int)=((pre++put (x-last-1).toNat).length:Int)from by simp,ih];simp[jZ];omega
theorem xi (pre post:List UInt8) {l:List Int} (hr:eI (-1) l=true) (h3:∀x∈l,x≤4611686018427387904) (hl:l.length≤9223372036854775807):
  fW (pre++dO l++post) pre.length=(0,l,((pre.length+(dO l).length:Nat):Int)):=by
 have e0:pre++dO l++post=pre++put l.length++(jZ (-1) l++post):=by simp[dO]
 have e1:=yR pre (jZ (-1) l++post) (n:=l.length) hl;have e2:pre++put l.length++(jZ (-1) l++post)=(pre++put l.length)++jZ (-1) l++post:=by simp
 unfold fW;rw[e0,e1,if_neg (by simp)];simp only;have:=xM l (pre++put l.length) post (-1) (by omega) hr h3;rw[e2,show((pre.length+(put l.length).length:Nat):Int)=((pre++put l.length).length:Int)from by simp,Int.toNat_natCast,this];simp[dO];omega
end Go.K
namespace Go.K
abbrev Po:=Int×List Int
abbrev Bl:=Int×Int×Int×Int
abbrev Li:=List UInt8×List Bl×Int
abbrev RT.po:RT Po:=RT.pair (RT.int .i64) ((RT.int .i64).sl)
abbrev RT.bl:RT Bl:=RT.pair (RT.int .i64) (RT.pair (RT.int .i64) (RT.pair (RT.int .i64) (RT.int .i64)))
abbrev RT.li:RT Li:=RT.pair (RT.u8.sl) (RT.pair ((RT.bl).sl) (RT.int .i64))
theorem Ao:Part RT.po (RT.int .i64) (fun p=>p.1) 0:=Part.fst _ _
theorem J4:Part RT.po ((RT.int .i64).sl) (fun p=>p.2) 1:=Part.snd _ _
theorem bl0:Part RT.bl (RT.int .i64) (fun b=>b.1) 0:=Part.fst _ _
theorem bl1:Part RT.bl (RT.int .i64) (fun b=>b.2.1) 1:=(Part.snd _ _).trans (Part.fst _ _)
theorem bl2:Part RT.bl (RT.int .i64) (fun b=>b.2.2.1) 2:=(Part.snd _ _).trans ((Part.snd _ _).trans (Part.fst _ _))
theorem bl3:Part RT.bl (RT.int .i64) (fun b=>b.2.2.2) 3:=(Part.snd _ _).trans ((Part.snd _ _).trans (Part.snd _ _))
theorem li0:Part RT.li (RT.u8.sl) (fun x=>x.1) 0:=Part.fst _ _
theorem QC:Part RT.li ((RT.bl).sl) (fun x=>x.2.1) 1:=(Part.snd _ _).trans (Part.fst _ _)
def FQ (n:Nat) (k:Int):Bool:=decide (0≤k∧k<n)
def Ap (bs:List Bl) (k:Int):Int:=if FQ bs.length k then(bs.getD k.toNat (0,0,0,0)).2.2.1 else-1
def qo (bs:List Bl):Int:=(bs.map fun b=>b.2.2.2).sum
theorem xN (bs:List Bl) (b:Bl):qo (bs++[b])=qo bs+b.2.2.2:=by simp[qo]
theorem EG {bs:List Bl} {k:Nat} {b:Bl} (h:bs[k]? =some b):qo (bs.take (k+1))=qo (bs.take k)+b.2.2.2:=by
 obtain⟨h1,h2⟩:=List.getElem?_eq_some_iff.1 h;rw[List.take_succ_eq_append_getElem h1,h2,xN]
theorem J5 (bs:List Bl) (h:∀b∈bs,0≤b.2.2.2∧b.2.2.2≤8):0≤qo bs∧qo bs≤8*bs.length:=by
 induction bs with
 |nil=>simp[qo]
 |cons b bs ih=>
  have:=ih fun c hc=>h c (List.mem_cons_of_mem _ hc)
  have h0:=h b (List.mem_cons_self ..);simp only[qo,List.map_cons,List.sum_cons,List.length_cons]at this ⊢;omega
def dA:Int→List Po→List UInt8
 |_,[]=>[]
 |last,(d,ps)::l=>put (d-last-1).toNat++dO ps++dA d l
def cy:Int→List Po→Int
 |last,[]=>last
 |_,(d,_)::l=>cy d l
def iA (l:List Po):Int:=(l.map fun p=>(p.2.length:Int)).sum
theorem qU (l l':List Po) (last:Int):dA last (l++l')=dA last l++dA (cy last l) l':=by
 induction l generalizing last with
 |nil=>rfl
 |cons p l ih=>obtain⟨d,ps⟩:=p;simp[dA,cy,ih]
theorem xj (l l':List Po) (last:Int):cy last (l++l')=cy (cy last l) l':=by
 induction l generalizing last with
 |nil=>rfl
 |cons p l ih=>obtain⟨d,ps⟩:=p;simp[cy,ih]
theorem qV (l l':List Po):iA (l++l')=iA l+iA l':=by simp[iA]
def oE (l:List Po) (k:Nat):Bl:=((dA (-1) (l.take (8*k))).length,cy (-1) (l.take (8*k)),cy (-1) (l.take (8*k+8)),((l.drop (8*k)).take 8).length)
def kR (l:List Po) (m:Nat):List Bl:=(List.range m).map (oE l)
def ir (l:List Po):Li:=(dA (-1) l,kR l ((l.length+7)/8),iA l)
def nk (l:List Int):Bool:=eI (-1) l&&l.all (fun n=>decide (n<2147483648))
def ej:Int→List Po→Bool
 |_,[]=>true
 |last,(d,ps)::l=>decide (last<d)&&decide (d<2147483648)&& !ps.isEmpty&&nk ps&&ej d l
theorem mn:∀{l:List Po} {i:Nat} {last d:Int} {ps:List Int},ej last l=true→l[i]? =some (d,ps)→
  cy last (l.take i)<d∧d<2147483648∧ps≠[]∧nk ps=true∧cy last (l.take (i+1))=d∧last≤cy last (l.take i)
 |[],i,_,_,_,_,h=>by simp at h
 |(d0,p0)::l,0,last,d,ps,hm,h=>by
  simp only[List.getElem?_cons_zero,Option.some.injEq,Prod.mk.injEq]at h;obtain⟨rfl,rfl⟩:=h;simp only[ej,Bool.and_eq_true,decide_eq_true_eq]at hm;obtain⟨⟨⟨⟨h1,h2⟩,h3⟩,h4⟩,h5⟩:=hm;refine⟨h1,h2,?_,h4,by simp[cy],by simp[cy]⟩;rintro rfl;simp at h3
 |(d0,p0)::l,i+1,last,d,ps,hm,h=>by
  simp only[ej,Bool.and_eq_true,decide_eq_true_eq]at hm;obtain⟨⟨⟨⟨h1,h2⟩,h3⟩,h4⟩,h5⟩:=hm;obtain⟨a1,a2,a3,a4,a5,a6⟩:=mn (i:=i) h5 (by simpa using h);refine⟨by simpa[cy]using a1,a2,a3,a4,by simpa[cy]using a5,?_⟩;simp only[List.take_succ_cons,cy];omega
theorem lr {l:List Po} {i:Nat} {d:Int} {ps:List Int} (last:Int) (h:l[i]? =some (d,ps)):
  dA last (l.take (i+1))=dA last (l.take i)++put (d-cy last (l.take i)-1).toNat++dO ps:=by
 obtain⟨h1,h2⟩:=List.getElem?_eq_some_iff.1 h;rw[List.take_succ_eq_append_getElem h1,h2,qU];simp[dA]
theorem oF {l:List Po} {i:Nat} (last:Int):dA last l=dA last (l.take i)++dA (cy last (l.take i)) (l.drop i):=by
 conv=>lhs;rw[←List.take_append_drop i l]
 exact qU _ _ _
theorem j0 {l:List Int}:nk l=true↔eI (-1) l=true∧∀x∈l,x<2147483648:=by
 simp[nk]
def pS (b:List UInt8) (at_ ahead:Int):Po×Int×Int:=
 if(get b at_).2.2≠0 then((0,[]),0,(get b at_).2.2)
 else((IntKind.i64.wrap (IntKind.i64.wrap (ahead+1)+(get b at_).1),(fW b (get b at_).2.1).2.1),(fW b (get b at_).2.1).2.2,(fW b (get b at_).2.1).1)
theorem Gt {l:List Po} {i:Nat} {d:Int} {ps:List Int} (hm:ej (-1) l=true) (h:l[i]? =some (d,ps)) (hl:ps.length≤1099511627776):
  pS (dA (-1) l) (((dA (-1) (l.take i)).length:Nat):Int) (cy (-1) (l.take i))=((d,ps),(((dA (-1) (l.take (i+1))).length:Nat):Int),0):=by
 obtain⟨h1,h2,h3,h4,h5,h6⟩:=mn hm h;obtain⟨h7,h8⟩:=j0.1 h4;have e1:=oF (l:=l) (i:=i+1) (-1);have e2:=lr (-1) h;generalize LR:cy (-1) (l.take i)=last at h1 h6 e2 ⊢;generalize Ex:dA (-1) (l.take i)=pre at e2 ⊢;generalize dA (cy (-1) (l.take (i+1))) (l.drop (i+1))=post at e1;rw[e2]at e1 ⊢;have g1:=yR pre (dO ps++post) (n:=(d-last-1).toNat) (by omega);have g2:=xi (pre++put (d-last-1).toNat) post h7 (fun x hx=>by have:=h8 x hx;omega) (by omega);rw[show pre++put (d-last-1).toNat++(dO ps++post)=dA (-1) l from by rw[e1];simp]at g1;rw[←e1]at g2;unfold pS;rw[g1];simp only[ne_eq,not_true_eq_false,if_false];have yM:((pre.length+(put (d-last-1).toNat).length:Nat):Int)=((pre++put (d-last-1).toNat).length:Int):=by simp
 rw[yM,g2];refine Prod.ext (Prod.ext ?_ rfl) (Prod.ext ?_ rfl)
 ·simp only;rw[IntWalk.i64_in (last+1) (by omega),IntWalk.i64_in _ (by omega)];omega
 ·simp;omega
theorem oG {l:List Int} {k:Nat} {x:Int} (p:Int→Bool) (h:l[k]? =some x):(l.drop k).all p=(p x&&(l.drop (k+1)).all p):=by
 obtain⟨h1,h2⟩:=List.getElem?_eq_some_iff.1 h;rw[List.drop_eq_getElem_cons h1,h2,List.all_cons]
theorem lu {l:List Po} {k:Nat} {d:Int} {ps:List Int} (h:l[k]? =some (d,ps)) (last:Int):
  ej last (l.drop k)=(decide (last<d)&&decide (d<2147483648)&& !ps.isEmpty&&nk ps&&ej d (l.drop (k+1))):=by
 obtain⟨h1,h2⟩:=List.getElem?_eq_some_iff.1 h;rw[List.drop_eq_getElem_cons h1,h2,ej]
theorem uL {l:List Po} {i:Nat} {d:Int} {ps:List Int} (h:l[i]? =some (d,ps)):iA (l.take (i+1))=iA (l.take i)+ps.length:=by
 obtain⟨h1,h2⟩:=List.getElem?_eq_some_iff.1 h;rw[List.take_succ_eq_append_getElem h1,h2,qV];simp[iA]
theorem np (l:List Po):0≤iA l:=by
 induction l with
 |nil=>simp[iA]
 |cons p l ih=>simp only[iA,List.map_cons,List.sum_cons]at ih ⊢;omega
theorem Ar (l:List Po) (i:Nat):0≤iA (l.take i)∧iA (l.take i)≤iA l:=by
 refine⟨np _,?_⟩
 conv=>rhs;rw[←List.take_append_drop i l,qV]
 have:=np (l.drop i);omega
theorem kf (l:List Po) (i:Nat):(dA (-1) (l.take i)).length≤(dA (-1) l).length:=by
 rw[oF (l:=l) (i:=i) (-1)];simp
theorem xO (l:List Po) (k:Nat):kR l (k+1)=kR l k++[oE l k]:=by simp[kR,List.range_succ]
theorem jf:∀(l:List Po) (last:Int),ej last l=true→last<2147483648→∀n:Nat,last≤cy last (l.take n)∧cy last (l.take n)<2147483648
 |[],last,_,h,n=>by simp[cy];exact h
 |(d,ps)::l,last,hm,h,0=>by simp[cy];exact h
 |(d,ps)::l,last,hm,h,n+1=>by
  simp only[ej,Bool.and_eq_true,decide_eq_true_eq]at hm;obtain⟨⟨⟨⟨h1,h2⟩,h3⟩,h4⟩,h5⟩:=hm;have:=jf l d h5 h2 n;simp only[List.take_succ_cons,cy];omega
theorem Yk {M:aL} {w:World} {a b c d:Int} (ha: -9223372036854775808≤a∧a≤9223372036854775807) (hb: -9223372036854775808≤b∧b≤9223372036854775807) (hc: -9223372036854775808≤c∧c≤9223372036854775807) (hd: -9223372036854775808≤d∧d≤9223372036854775807):
  RT.bl.V M w (a,b,c,d) (.agg [.int .i64 a,.int .i64 b,.int .i64 c,.int .i64 d].toArray):=
 ⟨_,⟨[.int .i64 a],[.int .i64 b,.int .i64 c,.int .i64 d],rfl,⟨rfl,ha⟩,[.int .i64 b],[.int .i64 c,.int .i64 d],rfl,⟨rfl,hb⟩,[.int .i64 c],[.int .i64 d],rfl,⟨rfl,hc⟩,⟨rfl,hd⟩⟩,rfl⟩
theorem RO {M:aL} {w:World} {bx:Nat} {b:List UInt8} {ks:List Bl} {tot:Int} {vb vk:Value} {e:TypeId} {fr:Nat×Nat} (hx:w.heap[bx]? =some (.cells #[vb,vk,.int .i64 tot] e fr)) (hm: ¬M bx) (hb:(RT.u8.sl).V M w b vb) (hk:((RT.bl).sl).V M w ks vk) (ht: -9223372036854775808≤tot∧tot≤9223372036854775807):
  cc RT.li M w (.pointer (some ⟨bx,0,none⟩)) (b,ks,tot):=
 ⟨bx,0,[vb,vk,.int .i64 tot],rfl,hm,⟨[vb],[vk,.int .i64 tot],rfl,lp hb rfl rfl,[vk],[.int .i64 tot],rfl,lp hk rfl rfl,⟨rfl,ht⟩⟩,fun j v hj=>iJ hx (by simpa using hj)⟩
theorem Gu {l:List Po} {i:Nat} (h8:i%8=0) (hi:i<l.length):kR l ((i+7)/8)++[(((dA (-1) (l.take i)).length:Int),cy (-1) (l.take i),cy (-1) (l.take (min (i+8) l.length)),(((l.drop i).take 8).length:Int))]=kR l ((min (i+8) l.length+7)/8):=by
 rw[show(min (i+8) l.length+7)/8=(i+7)/8+1 from by omega,xO];have e:8*((i+7)/8)=i:=by omega
 have e2:l.take (i+8)=l.take (min (i+8) l.length):=by rw[List.take_eq_take_iff];omega
 simp only[oE,e,e2]
theorem xQ (l:List Po):∀m:Nat,qo (kR l m)=((min (8*m) l.length:Nat):Int)
 |0=>by simp[qo,kR]
 |m+1=>by
  rw[xO,xN,xQ l m];simp only[oE,List.length_take,List.length_drop];omega
theorem EH (l:List Po) (m:Nat):∀b∈kR l m,0≤b.2.2.2∧b.2.2.2≤8:=fun b hb=>by
 simp only[kR,List.mem_map]at hb;obtain⟨k,_,rfl⟩:=hb;simp only[oE,List.length_take,List.length_drop];omega
theorem oH:∀(l:List Po) (last:Int) (n m:Nat),ej last l=true→last<2147483648→n≤m→cy last (l.take n)≤cy last (l.take m)
 |[],last,n,m,_,_,_=>by simp
 |(d,ps)::l,last,0,m,hm,h,_=>by
  have:=(jf ((d,ps)::l) last hm h m).1;simpa[cy]using this
 |(d,ps)::l,last,n+1,0,_,_,h=>by omega
 |(d,ps)::l,last,n+1,m+1,hm,h,Yl=>by
  simp only[ej,Bool.and_eq_true,decide_eq_true_eq]at hm;obtain⟨⟨⟨⟨h1,h2⟩,h3⟩,h4⟩,h5⟩:=hm;simpa[cy]using oH l d n m h5 h2 (by omega)
theorem As {g:List Po} {k:Nat} (hk:k<(g.length+7)/8):Ap (ir g).2.1 (k:Int)=cy (-1) (g.take (8*k+8)):=by
 have hl:(ir g).2.1.length=(g.length+7)/8:=by simp[ir,kR]
 have hb:(ir g).2.1[k]? =some (oE g k):=by simp only[ir,kR,List.getElem?_map];rw[List.getElem?_range hk];rfl
 unfold Ap FQ;rw[if_pos (by rw[hl];simp;omega),Int.toNat_natCast,List.getD_eq_getElem?_getD,hb];rfl
end Go.K
namespace Go.K
open Go.Proofs
set_option maxRecDepth 10000
theorem sm {M:aL} {w0:World} {v u:Value} {a b:List Int} (hM:Lt M w0) (hv:((RT.int .i64).sl).V M w0 a v) (hu:((RT.int .i64).sl).V M w0 b u):
  Spec Tryz.prog 51 #[v,u] w0 (fun v' w'=>v'= .bool (decide (a=b))∧Step M w0 M w' aE):=by
 have LR:=dK hv;have hlb:=dK hu;refine bu (args:=[_,_]) (fn:=Tryz.f51) Tryz.func51 rfl (n:=26) Tryz.ntmps51 (T.seq (T.region (Rg.assign rfl rfl (Rg.nil (T.seq (T.seq (T.region (Rg.move rfl rfl (Rg.cG Tryz.underlying32 rfl hv rfl (Rg.move rfl rfl (Rg.cG Tryz.underlying32 rfl hu rfl ?_)))))))))));refine Rg.l0 rfl rfl rfl (Rg.nil ?_);refine T.dJ rfl (fun c1=>?_) (fun c1=>?_)
 ·refine T.seq (T.region (Rg.assign rfl rfl (Rg.nil (T.ret ?_))));refine aV rfl rfl ⟨?_,Step.refl _ _⟩;rw[decide_eq_false];rintro rfl;exact c1 rfl
 ·obtain hlen:a.length=b.length:=by omega
  refine T.skip (T.seq (T.seq (T.region (Rg.assign rfl rfl (Rg.nil (T.block ?_))))));refine T.loop (σ:=Nat) (fun s=>[(0,v),(1,u),(5,.int .i64 s)]) (fun s w=>s≤a.length∧a.take s=b.take s∧Step M w0 M w aE) (fun s=>a.length-s) 0 (.cons rfl (.cons rfl (.cons rfl .nil))) ?_ ?_
  ·exact⟨Nat.zero_le _,by simp,Step.refl _ _⟩
  ·rintro k w1 ⟨hk,heq,s1⟩;refine T.seq (T.seq (T.region (Rg.move rfl rfl (Rg.move rfl rfl (Rg.cG Tryz.underlying32 rfl hv rfl (Rg.fN rfl rfl rfl (Rg.nil ?_)))))));refine T.dJ rfl (fun c4=>?_) (fun c4=>?_)
   ·refine T.skip (T.seq (T.block (T.seq ?_)));obtain⟨x,hx⟩:∃x,a[k]? =some x:=⟨_,List.getElem?_eq_getElem (by omega)⟩;obtain⟨y,hy⟩:∃y,b[k]? =some y:=⟨_,List.getElem?_eq_getElem (by omega)⟩;apply T.draw (M:=M) mixed [bW.eq _,bW.eq _,bW.ptr (RT.int .i64) x,bW.eq _,bW.eq _,bW.eq _,bW.ptr (RT.int .i64) y,bW.eq _,bW.eq _]
    ·rfl
    ·refine bB.cons ?_ ?_
     ·intro wD E sD;refine Rg.move rfl rfl ?_;exact Rg.nil ⟨rfl,rfl,_,rfl,rfl,Step.refl _ _⟩
     refine bB.cons ?_ ?_
     ·intro wD E sD;refine Rg.move rfl rfl ?_;exact Rg.nil ⟨rfl,rfl,_,rfl,rfl,Step.refl _ _⟩
     refine bB.cons ?_ ?_
     ·intro wD E sD;refine aA (aA ?_);refine Rg.idx (M:=M) Tryz.underlying32 I3 rfl rfl rfl hv (by repeat (first|exact Le.refl _ _|refine Le.trans (Step.le (by assumption)) ?_)) (by omega) (fun J6 Ym RP qW=>?_);obtain rfl:Ym=x:=Option.some.inj (RP.symm.trans (by simpa using hx));exact Rg.nil ⟨rfl,rfl,_,rfl,qW,Step.refl _ _⟩
     refine bB.cons ?_ ?_
     ·intro wD E sD;intro v2 nq;refine Rg.cD (M:=M) Tryz.underlying3 rfl rfl (by assumption) (by repeat (first|exact Le.refl _ _|refine Le.trans (Step.le (by assumption)) ?_)) (fun RQ=>?_);exact Rg.nil ⟨rfl,rfl,_,rfl,rfl,Step.refl _ _⟩
     refine bB.cons ?_ ?_
     ·intro wD E sD;refine Rg.move rfl rfl ?_;exact Rg.nil ⟨rfl,rfl,_,rfl,rfl,Step.refl _ _⟩
     refine bB.cons ?_ ?_
     ·intro wD E sD;refine Rg.move rfl rfl ?_;exact Rg.nil ⟨rfl,rfl,_,rfl,rfl,Step.refl _ _⟩
     refine bB.cons ?_ ?_
     ·intro wD E sD;refine aA (aA ?_);refine Rg.idx (M:=M) Tryz.underlying32 I3 rfl rfl rfl hu (by repeat (first|exact Le.refl _ _|refine Le.trans (Step.le (by assumption)) ?_)) (by omega) (fun aht Yn RR RS=>?_);obtain rfl:Yn=y:=Option.some.inj (RR.symm.trans (by simpa using hy));exact Rg.nil ⟨rfl,rfl,_,rfl,RS,Step.refl _ _⟩
     refine bB.cons ?_ ?_
     ·intro wD E sD;intro v6 oI;refine Rg.cD (M:=M) Tryz.underlying3 rfl rfl (by assumption) (by repeat (first|exact Le.refl _ _|refine Le.trans (Step.le (by assumption)) ?_)) (fun ad1=>?_);exact Rg.nil ⟨rfl,rfl,_,rfl,rfl,Step.refl _ _⟩
     refine bB.cons ?_ ?_
     ·intro wD E sD;refine aA (aA (Rg.l0 rfl rfl rfl ?_));exact Rg.nil ⟨rfl,rfl,_,rfl,rfl,Step.refl _ _⟩
     exact bB.nil
    ·intro RU qH;refine aA (aA ?_);intro Yo RV;refine aA (aA (aA ?_));intro ahu ad2;refine aA (aA ?_);refine T.dJ rfl (fun c6=>?_) (fun c6=>?_)
     ·refine T.seq (T.region (Rg.assign rfl rfl (Rg.nil (T.ret ?_))));refine aV rfl rfl ⟨?_,s1.aB qH⟩;rw[decide_eq_false];rintro rfl;rw[hx]at hy;cases hy;exact c6 rfl
     ·refine T.skip (T.region (Rg.move rfl rfl (Rg.dd rfl rfl rfl (by omega) (Rg.assign rfl rfl (Rg.nil ?_)))));refine⟨rfl,k+1,(.cons rfl (.cons rfl (.cons rfl .nil))),?_,?_⟩
      ·exact⟨by omega,by rw[List.take_succ_eq_append_getElem (by omega),List.take_succ_eq_append_getElem (by omega),heq];obtain⟨_,h1⟩:=List.getElem?_eq_some_iff.1 hx;obtain⟨_,h2⟩:=List.getElem?_eq_some_iff.1 hy;rw[h1,h2,Decidable.not_not.1 c6],s1.aB qH⟩
      ·show a.length-(k+1)<a.length-k;omega
   ·refine T.exit (T.seq (T.region (Rg.assign rfl rfl (Rg.nil (T.ret ?_)))));refine aV rfl rfl ⟨?_,s1⟩;rw[decide_eq_true]
    rwa [List.take_of_length_le (by omega),List.take_of_length_le (by omega)]at heq
theorem Au {M:aL} {w0:World} {n:Nat} (hM:Lt M w0) (hn:n≤9223372036854775807):
  Spec Tryz.prog 138 #[.int .i64 n] w0 (fun v' w'=>∃M',Step M w0 M' w' aE∧Own RT.u8 5 M' w' w0.heap.size v' (put n)):=by
 have h9:=gE hn;refine bu (args:=[_]) (fn:=Tryz.f138) Tryz.func138 rfl (n:=20) Tryz.ntmps138 (T.seq (T.region (Rg.assign rfl rfl (Rg.nil (T.seq (T.region (Rg.assign rfl rfl (Rg.nil (T.seq (T.block ?_))))))))));refine T.loop (σ:=Nat×Value×List UInt8) (fun s=>[(3,s.2.1),(0,.int .i64 s.1)]) (fun s w=>s.2.2++put s.1=put n∧s.1≤n∧∃M1,Lt M1 w∧Step M w0 M1 w aE∧Own RT.u8 5 M1 w w0.heap.size s.2.1 s.2.2) (fun s=>s.1) (n,_,[]) (.cons rfl (.cons rfl .nil)) ?_ ?_
 ·exact⟨rfl,Nat.le_refl _,M,hM,Step.refl _ _,Own.nil _ _ _ _ _⟩
 ·rintro⟨k,u0,acc⟩ w1 ⟨kP,QD,M1,mI,s1,ho⟩;dsimp only at kP QD ho ⊢;have hlen:=congrArg List.length kP;have Ab:=uk k;simp only[List.length_append]at hlen;refine T.seq (T.seq (T.region (Rg.move rfl rfl (Rg.kM rfl rfl rfl (Rg.nil ?_)))));refine T.dJ rfl (fun c2=>?_) (fun c2=>?_)
  ·refine T.skip (T.block (T.seq (T.region (Rg.move rfl rfl (Rg.move rfl rfl (Rg.Ad rfl rfl rfl (by omega) (Rg.dd rfl rfl rfl (by omega) (Rg.conv Tryz.underlying3 Tryz.underlying5 rfl rfl (Rg.eqv (congrArg (Value.int .u8) (show IntKind.u8.wrap (128+(k:Int)%128)=((UInt8.ofNat (128+k%128)).toNat:Int)from by rw[show(128+(k:Int)%128)=((128+k%128:Nat):Int)from by omega];exact ql _)) ?_)))))))));refine Rg.k8 (A:=RT.u8) (hn:=by decide) (M:=M1) Tryz.underlying147 I5 (by decide) rfl rfl mI (F1.2 rfl) (.inr ⟨rfl,rfl⟩) (fun u w2 hu s2=>?_);refine Rg.append (M:=M1) (base:=w0.heap.size) Tryz.underlying147 I5 rfl rfl rfl rfl (ho.a8 s2) hu (Le.refl _ _) (by simp;omega) (by simp;omega) (Nat.le_trans s1.size s2.size) (fun v3 M3 w3 so s3=>?_);refine Rg.assign rfl rfl (Rg.nil (T.region (Rg.move rfl rfl (Rg.Ac rfl rfl rfl (by omega) (Rg.assign rfl rfl (Rg.nil ?_))))));refine⟨rfl,(k/128,v3,acc++[UInt8.ofNat (128+k%128)]),(.cons rfl (.cons rfl .nil)),?_,?_⟩
   ·exact⟨by rw[←kP,yP (n:=k) (by omega)];simp,by simp only;omega,M3,s3.lt (s2.lt mI),(s1.aB s2).cF s3 (ho.a8 s2) (Nat.le_refl _),so⟩
   ·show k/128<k;omega
  ·refine T.exit (T.seq (T.region (Rg.move rfl rfl (Rg.move rfl rfl (Rg.conv Tryz.underlying3 Tryz.underlying5 rfl rfl (Rg.eqv (congrArg _ (ql _)) ?_))))));refine Rg.k8 (A:=RT.u8) (hn:=by decide) (M:=M1) Tryz.underlying147 I5 (by decide) rfl rfl mI (F1.2 rfl) (.inr ⟨rfl,rfl⟩) (fun u w2 hu s2=>?_);refine Rg.append (M:=M1) (base:=w0.heap.size) Tryz.underlying147 I5 rfl rfl rfl rfl (ho.a8 s2) hu (Le.refl _ _) (by simp;omega) (by simp;omega) (Nat.le_trans s1.size s2.size) (fun v3 M3 w3 so s3=>?_);refine Rg.assign rfl rfl (Rg.nil (T.ret ?_));refine aV rfl rfl ⟨M3,(s1.aB s2).cF s3 (ho.a8 s2) (Nat.le_refl _),?_⟩;rw[←kP,sf (n:=k) (by omega)];exact so
theorem ph {M:aL} {w0:World} {n:Nat} (hM:Lt M w0) (hn:n≤9223372036854775807):Spec Tryz.prog 138 #[.int .i64 n] w0 (fun v' w'=>Step M w0 M w' aE∧(RT.u8.sl).V M w' (put n) v'):=
 (Au hM hn).mono fun _ _ ⟨_,s,ho⟩=>⟨s.back,Own.close hM s ho (by have:=gE hn;omega)⟩
theorem NG {M:aL} {w0:World} {v:Value} {l:List Int} (hM:Lt M w0) (hv:((RT.int .i64).sl).V M w0 l v):
  Spec Tryz.prog 98 #[v] w0 (fun v' w'=>v'= .bool (eI (-1) l)∧Step M w0 M w' aE):=by
 have hlen:=dK hv;refine bu (args:=[_]) (fn:=Tryz.f98) Tryz.func98 rfl (n:=31) Tryz.ntmps98 (T.seq (T.region (Rg.assign rfl rfl (Rg.nil (T.seq (T.seq (T.region (Rg.assign rfl rfl (Rg.nil (T.block ?_))))))))));refine T.loop (σ:=Nat×Int) (fun s=>[(0,v),(3,.int .i64 s.1)]) (fun s w=>Step M w0 M w aE∧s.1≤l.length∧eI (-1) l=eI s.2 (l.drop s.1)∧ -1≤s.2∧(s.1=0→s.2= -1)∧(0<s.1→l[s.1-1]? =some s.2)) (fun s=>l.length-s.1) (0,-1) (.cons rfl (.cons rfl .nil)) ?_ ?_
 ·exact⟨Step.refl _ _,Nat.zero_le _,rfl,by decide,fun _=>rfl,fun h=>absurd h (by decide)⟩
 ·rintro⟨k,last⟩ w1 ⟨s1,hk,hr,hl,h0,h1⟩;dsimp only at hk hr hl h0 h1 ⊢;refine T.seq (T.seq (T.region (Rg.move rfl rfl (Rg.move rfl rfl ?_))))
  first|refine Rg.cG Tryz.underlying32 rfl (by assumption) rfl ?_|refine Rg.gp Tryz.underlying32 rfl (by assumption) rfl ?_
  refine Rg.fN rfl rfl rfl (Rg.nil ?_);refine T.dJ rfl (fun c2=>?_) (fun c2=>?_)
  ·refine T.skip (T.seq (T.block (T.seq ?_)));obtain⟨x,hx⟩:∃x,l[k]? =some x:=⟨_,List.getElem?_eq_getElem (by omega)⟩;by_cases Ci:x<0
   ·apply T.draw (M:=M) mixed [bW.eq _,bW.eq _,bW.ptr (RT.int .i64) x,bW.eq _,bW.eq _,bW.eq (.bool true),bW.eq undef,bW.eq undef,bW.eq undef,bW.eq undef,bW.eq undef,bW.eq undef,bW.eq undef,bW.eq undef,bW.eq undef,bW.eq undef,bW.eq undef,bW.eq undef,bW.eq undef,bW.eq undef,bW.eq _]
    ·rfl
    ·refine bB.cons ?_ ?_
     ·intro wD E sD;refine Rg.move rfl rfl ?_;exact Rg.nil ⟨rfl,rfl,_,rfl,rfl,Step.refl _ _⟩
     refine bB.cons ?_ ?_
     ·intro wD E sD;refine Rg.move rfl rfl ?_;exact Rg.nil ⟨rfl,rfl,_,rfl,rfl,Step.refl _ _⟩
     refine bB.cons ?_ ?_
     ·intro wD E sD;refine aA (aA ?_);refine Rg.idx (M:=M) Tryz.underlying32 I3 rfl rfl rfl (by assumption) (by repeat (first|exact Le.refl _ _|refine Le.trans (Step.le (by assumption)) ?_)) (by omega) (fun EI Gv Av jt=>?_);obtain rfl:Gv=x:=Option.some.inj (Av.symm.trans (by simpa using hx));exact Rg.nil ⟨rfl,rfl,_,rfl,jt,Step.refl _ _⟩
     refine bB.cons ?_ ?_
     ·intro wD E sD;intro v2 nq;refine Rg.cD (M:=M) Tryz.underlying3 rfl rfl (by assumption) (by repeat (first|exact Le.refl _ _|refine Le.trans (Step.le (by assumption)) ?_)) (fun LS=>?_);exact Rg.nil ⟨rfl,rfl,_,rfl,rfl,Step.refl _ _⟩
     refine bB.cons ?_ ?_
     ·intro wD E sD;refine aA (Rg.fN rfl rfl rfl ?_);exact Rg.nil ⟨rfl,rfl,_,rfl,rfl,Step.refl _ _⟩
     refine bB.cons ?_ ?_
     ·intro wD E sD;refine aA (Rg.move rfl rfl ?_);refine Rg.nil ⟨rfl,rfl,_,rfl,?_,Step.refl _ _⟩;exact congrArg Value.bool (decide_eq_true Ci)
     refine bB.cons ?_ ?_
     ·intro wD E sD;refine aA ?_;exact Rg.bJ rfl rfl rfl rfl (Rg.nil ⟨rfl,rfl,_,rfl,rfl,Step.refl _ _⟩)
     refine bB.cons ?_ ?_
     ·intro wD E sD;refine aA (aA ?_);exact Rg.bJ rfl rfl rfl rfl (Rg.nil ⟨rfl,rfl,_,rfl,rfl,Step.refl _ _⟩)
     refine bB.cons ?_ ?_
     ·intro wD E sD;refine aA (aA (aA ?_));exact Rg.bJ rfl rfl rfl rfl (Rg.nil ⟨rfl,rfl,_,rfl,rfl,Step.refl _ _⟩)
     refine bB.cons ?_ ?_
     ·intro wD E sD;refine aA ?_;exact Rg.ed rfl rfl rfl (Rg.nil ⟨rfl,rfl,_,rfl,rfl,Step.refl _ _⟩)
     refine bB.cons ?_ ?_
     ·intro wD E sD;refine aA ?_;exact Rg.ed rfl rfl rfl (Rg.nil ⟨rfl,rfl,_,rfl,rfl,Step.refl _ _⟩)
     refine bB.cons ?_ ?_
     ·intro wD E sD;refine aA (aA (aA ?_));exact Rg.ed rfl rfl rfl (Rg.nil ⟨rfl,rfl,_,rfl,rfl,Step.refl _ _⟩)
     refine bB.cons ?_ ?_
     ·intro wD E sD;refine aA (aA ?_);exact Rg.ed rfl rfl rfl (Rg.nil ⟨rfl,rfl,_,rfl,rfl,Step.refl _ _⟩)
     refine bB.cons ?_ ?_
     ·intro wD E sD;refine aA ?_;exact Rg.ed rfl rfl rfl (Rg.nil ⟨rfl,rfl,_,rfl,rfl,Step.refl _ _⟩)
     refine bB.cons ?_ ?_
     ·intro wD E sD;refine aA ?_;exact Rg.ed rfl rfl rfl (Rg.nil ⟨rfl,rfl,_,rfl,rfl,Step.refl _ _⟩)
     refine bB.cons ?_ ?_
     ·intro wD E sD;refine aA (aA ?_);exact Rg.ed rfl rfl rfl (Rg.nil ⟨rfl,rfl,_,rfl,rfl,Step.refl _ _⟩)
     refine bB.cons ?_ ?_
     ·intro wD E sD;refine aA (aA (aA ?_));exact Rg.ed rfl rfl rfl (Rg.nil ⟨rfl,rfl,_,rfl,rfl,Step.refl _ _⟩)
     refine bB.cons ?_ ?_
     ·intro wD E sD;refine aA (aA ?_);exact Rg.ed rfl rfl rfl (Rg.nil ⟨rfl,rfl,_,rfl,rfl,Step.refl _ _⟩)
     refine bB.cons ?_ ?_
     ·intro wD E sD;refine aA (aA (aA ?_));exact Rg.ed rfl rfl rfl (Rg.nil ⟨rfl,rfl,_,rfl,rfl,Step.refl _ _⟩)
     refine bB.cons ?_ ?_
     ·intro wD E sD;refine aA (aA (aA ?_));exact Rg.bJ rfl rfl rfl rfl (Rg.nil ⟨rfl,rfl,_,rfl,rfl,Step.refl _ _⟩)
     refine bB.cons ?_ ?_
     ·intro wD E sD;refine aA (aA (Rg.bY rfl rfl rfl ?_));exact Rg.nil ⟨rfl,rfl,_,rfl,rfl,Step.refl _ _⟩
     exact bB.nil
    ·intro Gw lv;refine aA (aA ?_);intro NH DJ;refine aA (aA (aA (aA (aA (aA (aA (aA (aA (aA (aA (aA ?_)))))))))));refine aA (aA (aA (aA (aA (aA (T.pO rfl (T.seq (T.region (Rg.assign rfl rfl (Rg.nil (T.ret ?_)))))))))));refine aV rfl rfl ⟨?_,s1.aB lv⟩;rw[hr,ez hx,decide_eq_false (by omega)];rfl
   ·by_cases RW:(0:Int)<k
    ·obtain⟨y,hy⟩:∃y,y=last:=⟨_,rfl⟩;have Gm:=h1 (by omega);rw[←hy]at Gm;apply T.draw (M:=M) mixed [bW.eq _,bW.eq _,bW.ptr (RT.int .i64) x,bW.eq _,bW.eq _,bW.eq (.bool false),bW.eq _,bW.eq _,bW.eq (.bool true),bW.eq _,bW.eq _,bW.ptr (RT.int .i64) x,bW.eq _,bW.eq _,bW.eq _,bW.eq _,bW.ptr (RT.int .i64) y,bW.eq _,bW.eq _,bW.eq _,bW.eq _]
     ·rfl
     ·refine bB.cons ?_ ?_
      ·intro wD E sD;refine Rg.move rfl rfl ?_;exact Rg.nil ⟨rfl,rfl,_,rfl,rfl,Step.refl _ _⟩
      refine bB.cons ?_ ?_
      ·intro wD E sD;refine Rg.move rfl rfl ?_;exact Rg.nil ⟨rfl,rfl,_,rfl,rfl,Step.refl _ _⟩
      refine bB.cons ?_ ?_
      ·intro wD E sD;refine aA (aA ?_);refine Rg.idx (M:=M) Tryz.underlying32 I3 rfl rfl rfl (by assumption) (by repeat (first|exact Le.refl _ _|refine Le.trans (Step.le (by assumption)) ?_)) (by omega) (fun EI Gv Av jt=>?_);obtain rfl:Gv=x:=Option.some.inj (Av.symm.trans (by simpa using hx));exact Rg.nil ⟨rfl,rfl,_,rfl,jt,Step.refl _ _⟩
      refine bB.cons ?_ ?_
      ·intro wD E sD;intro v2 nq;refine Rg.cD (M:=M) Tryz.underlying3 rfl rfl (by assumption) (by repeat (first|exact Le.refl _ _|refine Le.trans (Step.le (by assumption)) ?_)) (fun LS=>?_);exact Rg.nil ⟨rfl,rfl,_,rfl,rfl,Step.refl _ _⟩
      refine bB.cons ?_ ?_
      ·intro wD E sD;refine aA (Rg.fN rfl rfl rfl ?_);exact Rg.nil ⟨rfl,rfl,_,rfl,rfl,Step.refl _ _⟩
      refine bB.cons ?_ ?_
      ·intro wD E sD;refine aA (Rg.move rfl rfl ?_);refine Rg.nil ⟨rfl,rfl,_,rfl,?_,Step.refl _ _⟩;exact congrArg Value.bool (decide_eq_false Ci)
      refine bB.cons ?_ ?_
      ·intro wD E sD;refine aA (Rg.aI rfl rfl (Rg.move rfl rfl ?_));exact Rg.nil ⟨rfl,rfl,_,rfl,rfl,Step.refl _ _⟩
      refine bB.cons ?_ ?_
      ·intro wD E sD;refine aA (aA (Rg.aI rfl rfl (Rg.tf rfl rfl rfl ?_)));exact Rg.nil ⟨rfl,rfl,_,rfl,rfl,Step.refl _ _⟩
      refine bB.cons ?_ ?_
      ·intro wD E sD;refine aA (aA (aA (Rg.aI rfl rfl (Rg.move rfl rfl ?_))));refine Rg.nil ⟨rfl,rfl,_,rfl,?_,Step.refl _ _⟩;exact congrArg Value.bool (decide_eq_true RW)
      refine bB.cons ?_ ?_
      ·intro wD E sD;refine aA (Rg.aI rfl rfl (Rg.move rfl rfl ?_));exact Rg.nil ⟨rfl,rfl,_,rfl,rfl,Step.refl _ _⟩
      refine bB.cons ?_ ?_
      ·intro wD E sD;refine aA (Rg.aI rfl rfl (Rg.move rfl rfl ?_));exact Rg.nil ⟨rfl,rfl,_,rfl,rfl,Step.refl _ _⟩
      refine bB.cons ?_ ?_
      ·intro wD E sD;refine aA (aA (aA (Rg.aI rfl rfl ?_)));refine Rg.idx (M:=M) Tryz.underlying32 I3 rfl rfl rfl (by assumption) (by repeat (first|exact Le.refl _ _|refine Le.trans (Step.le (by assumption)) ?_)) (by omega) (fun ad3 RX NI NJ=>?_);obtain rfl:RX=x:=Option.some.inj (NI.symm.trans (by simpa using hx));exact Rg.nil ⟨rfl,rfl,_,rfl,NJ,Step.refl _ _⟩
      refine bB.cons ?_ ?_
      ·intro wD E sD;intro v11 Cj;refine aA (Rg.aI rfl rfl ?_);refine Rg.cD (M:=M) Tryz.underlying3 rfl rfl (by assumption) (by repeat (first|exact Le.refl _ _|refine Le.trans (Step.le (by assumption)) ?_)) (fun Yp=>?_);exact Rg.nil ⟨rfl,rfl,_,rfl,rfl,Step.refl _ _⟩
      refine bB.cons ?_ ?_
      ·intro wD E sD;refine aA (Rg.aI rfl rfl (Rg.move rfl rfl ?_));exact Rg.nil ⟨rfl,rfl,_,rfl,rfl,Step.refl _ _⟩
      refine bB.cons ?_ ?_
      ·intro wD E sD;refine aA (Rg.aI rfl rfl (Rg.move rfl rfl ?_));exact Rg.nil ⟨rfl,rfl,_,rfl,rfl,Step.refl _ _⟩
      refine bB.cons ?_ ?_
      ·intro wD E sD;refine aA (aA (Rg.aI rfl rfl (Rg.jB rfl rfl rfl (by omega) ?_)));exact Rg.nil ⟨rfl,rfl,_,rfl,rfl,Step.refl _ _⟩
      refine bB.cons ?_ ?_
      ·intro wD E sD;refine aA (aA (aA (Rg.aI rfl rfl ?_)));refine Rg.idx (M:=M) Tryz.underlying32 I3 rfl rfl rfl (by assumption) (by repeat (first|exact Le.refl _ _|refine Le.trans (Step.le (by assumption)) ?_)) (by omega) (fun ad4 RY NK NL=>?_);obtain rfl:RY=y:=Option.some.inj (NK.symm.trans (by rw[show((k:Int)-1).toNat=k-1 from by omega];exact Gm));exact Rg.nil ⟨rfl,rfl,_,rfl,NL,Step.refl _ _⟩
      refine bB.cons ?_ ?_
      ·intro wD E sD;intro Yq NM;refine aA (Rg.aI rfl rfl ?_);refine Rg.cD (M:=M) Tryz.underlying3 rfl rfl (by assumption) (by repeat (first|exact Le.refl _ _|refine Le.trans (Step.le (by assumption)) ?_)) (fun Yr=>?_);exact Rg.nil ⟨rfl,rfl,_,rfl,rfl,Step.refl _ _⟩
      refine bB.cons ?_ ?_
      ·intro wD E sD;refine aA (aA (aA (Rg.aI rfl rfl (Rg.nN rfl rfl rfl ?_))));exact Rg.nil ⟨rfl,rfl,_,rfl,rfl,Step.refl _ _⟩
      refine bB.cons ?_ ?_
      ·intro wD E sD;refine aA (aA (aA (Rg.aI rfl rfl (Rg.bY rfl rfl rfl ?_))));exact Rg.nil ⟨rfl,rfl,_,rfl,rfl,Step.refl _ _⟩
      refine bB.cons ?_ ?_
      ·intro wD E sD;refine aA (aA (Rg.bD rfl rfl rfl ?_));exact Rg.nil ⟨rfl,rfl,_,rfl,rfl,Step.refl _ _⟩
      exact bB.nil
     ·intro Gw lv;refine aA (aA ?_);intro NH DJ;refine aA (aA (aA (aA (aA (aA (aA (aA ?_)))))));intro ad5 Ys;refine aA (aA (aA (aA ?_)));intro ad6 Yt;refine aA (aA (aA (aA ?_)));refine T.dJ rfl (fun c4=>?_) (fun c4=>?_)
      ·refine T.seq (T.region (Rg.assign rfl rfl (Rg.nil (T.ret ?_))));refine aV rfl rfl ⟨?_,s1.aB lv⟩;rw[hr,ez hx,decide_eq_false (by omega)];rfl
      ·refine T.skip (T.region (Rg.move rfl rfl (Rg.dd rfl rfl rfl (by omega) (Rg.assign rfl rfl (Rg.nil ?_)))));refine⟨rfl,(k+1,x),(.cons rfl (.cons rfl .nil)),?_,?_⟩
       ·refine⟨s1.aB lv,by have:=(List.getElem?_eq_some_iff.1 hx).1;simp only;omega,?_,?_,fun h=>by simp at h,fun _=>by simpa using hx⟩
        ·rw[hr,ez hx,decide_eq_true (by omega),Bool.true_and]
        ·simp only;omega
       ·have:=(List.getElem?_eq_some_iff.1 hx).1;simp only;omega
    ·have h0':=h0 (by omega);apply T.draw (M:=M) mixed [bW.eq _,bW.eq _,bW.ptr (RT.int .i64) x,bW.eq _,bW.eq _,bW.eq (.bool false),bW.eq _,bW.eq _,bW.eq (.bool false),bW.eq undef,bW.eq undef,bW.eq undef,bW.eq undef,bW.eq undef,bW.eq undef,bW.eq undef,bW.eq undef,bW.eq undef,bW.eq undef,bW.eq _,bW.eq _]
     ·rfl
     ·refine bB.cons ?_ ?_
      ·intro wD E sD;refine Rg.move rfl rfl ?_;exact Rg.nil ⟨rfl,rfl,_,rfl,rfl,Step.refl _ _⟩
      refine bB.cons ?_ ?_
      ·intro wD E sD;refine Rg.move rfl rfl ?_;exact Rg.nil ⟨rfl,rfl,_,rfl,rfl,Step.refl _ _⟩
      refine bB.cons ?_ ?_
      ·intro wD E sD;refine aA (aA ?_);refine Rg.idx (M:=M) Tryz.underlying32 I3 rfl rfl rfl (by assumption) (by repeat (first|exact Le.refl _ _|refine Le.trans (Step.le (by assumption)) ?_)) (by omega) (fun EI Gv Av jt=>?_);obtain rfl:Gv=x:=Option.some.inj (Av.symm.trans (by simpa using hx));exact Rg.nil ⟨rfl,rfl,_,rfl,jt,Step.refl _ _⟩
      refine bB.cons ?_ ?_
      ·intro wD E sD;intro v2 nq;refine Rg.cD (M:=M) Tryz.underlying3 rfl rfl (by assumption) (by repeat (first|exact Le.refl _ _|refine Le.trans (Step.le (by assumption)) ?_)) (fun LS=>?_);exact Rg.nil ⟨rfl,rfl,_,rfl,rfl,Step.refl _ _⟩
      refine bB.cons ?_ ?_
      ·intro wD E sD;refine aA (Rg.fN rfl rfl rfl ?_);exact Rg.nil ⟨rfl,rfl,_,rfl,rfl,Step.refl _ _⟩
      refine bB.cons ?_ ?_
      ·intro wD E sD;refine aA (Rg.move rfl rfl ?_);refine Rg.nil ⟨rfl,rfl,_,rfl,?_,Step.refl _ _⟩;exact congrArg Value.bool (decide_eq_false Ci)
      refine bB.cons ?_ ?_
      ·intro wD E sD;refine aA (Rg.aI rfl rfl (Rg.move rfl rfl ?_));exact Rg.nil ⟨rfl,rfl,_,rfl,rfl,Step.refl _ _⟩
      refine bB.cons ?_ ?_
      ·intro wD E sD;refine aA (aA (Rg.aI rfl rfl (Rg.tf rfl rfl rfl ?_)));exact Rg.nil ⟨rfl,rfl,_,rfl,rfl,Step.refl _ _⟩
      refine bB.cons ?_ ?_
      ·intro wD E sD;refine aA (aA (aA (Rg.aI rfl rfl (Rg.move rfl rfl ?_))));refine Rg.nil ⟨rfl,rfl,_,rfl,?_,Step.refl _ _⟩;exact congrArg Value.bool (decide_eq_false RW)
      refine bB.cons ?_ ?_
      ·intro wD E sD;refine aA ?_;exact Rg.bJ rfl rfl rfl rfl (Rg.nil ⟨rfl,rfl,_,rfl,rfl,Step.refl _ _⟩)
      refine bB.cons ?_ ?_
      ·intro wD E sD;refine aA ?_;exact Rg.bJ rfl rfl rfl rfl (Rg.nil ⟨rfl,rfl,_,rfl,rfl,Step.refl _ _⟩)
      refine bB.cons ?_ ?_
      ·intro wD E sD;refine aA (aA (aA ?_));exact Rg.bJ rfl rfl rfl rfl (Rg.nil ⟨rfl,rfl,_,rfl,rfl,Step.refl _ _⟩)
      refine bB.cons ?_ ?_
      ·intro wD E sD;refine aA (aA ?_);exact Rg.bJ rfl rfl rfl rfl (Rg.nil ⟨rfl,rfl,_,rfl,rfl,Step.refl _ _⟩)
      refine bB.cons ?_ ?_
      ·intro wD E sD;refine aA ?_;exact Rg.bJ rfl rfl rfl rfl (Rg.nil ⟨rfl,rfl,_,rfl,rfl,Step.refl _ _⟩)
      refine bB.cons ?_ ?_
      ·intro wD E sD;refine aA ?_;exact Rg.bJ rfl rfl rfl rfl (Rg.nil ⟨rfl,rfl,_,rfl,rfl,Step.refl _ _⟩)
      refine bB.cons ?_ ?_
      ·intro wD E sD;refine aA (aA ?_);exact Rg.bJ rfl rfl rfl rfl (Rg.nil ⟨rfl,rfl,_,rfl,rfl,Step.refl _ _⟩)
      refine bB.cons ?_ ?_
      ·intro wD E sD;refine aA (aA (aA ?_));exact Rg.bJ rfl rfl rfl rfl (Rg.nil ⟨rfl,rfl,_,rfl,rfl,Step.refl _ _⟩)
      refine bB.cons ?_ ?_
      ·intro wD E sD;refine aA (aA ?_);exact Rg.bJ rfl rfl rfl rfl (Rg.nil ⟨rfl,rfl,_,rfl,rfl,Step.refl _ _⟩)
      refine bB.cons ?_ ?_
      ·intro wD E sD;refine aA (aA (aA ?_));exact Rg.bJ rfl rfl rfl rfl (Rg.nil ⟨rfl,rfl,_,rfl,rfl,Step.refl _ _⟩)
      refine bB.cons ?_ ?_
      ·intro wD E sD;refine aA (aA (aA (Rg.aI rfl rfl (Rg.bD rfl rfl rfl ?_))));exact Rg.nil ⟨rfl,rfl,_,rfl,rfl,Step.refl _ _⟩
      refine bB.cons ?_ ?_
      ·intro wD E sD;refine aA (aA (Rg.bD rfl rfl rfl ?_));exact Rg.nil ⟨rfl,rfl,_,rfl,rfl,Step.refl _ _⟩
      exact bB.nil
     ·intro Gw lv;refine aA (aA ?_);intro NH DJ;refine aA (aA (aA (aA (aA (aA (aA (aA (aA (aA (aA (aA ?_)))))))))));refine aA (aA (aA (aA (aA (aA (T.iff rfl (T.skip (T.region (Rg.move rfl rfl (Rg.dd rfl rfl rfl (by omega) (Rg.assign rfl rfl ?_)))))))))));refine Rg.nil ?_;refine⟨rfl,(k+1,x),(.cons rfl (.cons rfl .nil)),?_,?_⟩
      ·refine⟨s1.aB lv,by have:=(List.getElem?_eq_some_iff.1 hx).1;simp only;omega,?_,?_,fun h=>by simp at h,fun _=>by simpa using hx⟩
       ·rw[hr,ez hx,decide_eq_true (by omega),Bool.true_and]
       ·simp only;omega
      ·have:=(List.getElem?_eq_some_iff.1 hx).1;simp only;omega
  ·refine T.exit (T.seq (T.region (Rg.assign rfl rfl (Rg.nil (T.ret ?_)))));refine aV rfl rfl ⟨?_,s1⟩;rw[hr,List.drop_eq_nil_of_le (by omega)];rfl
theorem nS {M:aL} {w0:World} {v:Value} {l:List Int} (hM:Lt M w0) (hv:((RT.int .i64).sl).V M w0 l v) (hr0:eI (-1) l=true) (Gf:l.length≤1099511627776):
  Spec Tryz.prog 139 #[v] w0 (fun v' w'=>Step M w0 M w' aE∧(RT.u8.sl).V M w' (dO l) v'):=by
 have yM:=gE (n:=l.length) (by omega);have kO:∀x∈l,x≤9223372036854775807:=fun x hx=>by obtain⟨i,hi⟩:=List.mem_iff_getElem?.1 hx;exact(yF hv hi).2
 have ahv:(dO l).length≤9+9*l.length:=by have:=qT l (-1) (by decide) kO hr0;simp only[dO,List.length_append];omega
 refine bu (args:=[_]) (fn:=Tryz.f139) Tryz.func139 rfl (n:=37) Tryz.ntmps139 (T.seq (T.region (Rg.assign rfl rfl (Rg.nil (T.seq (T.region (Rg.move rfl rfl ?_)))))))
 first|refine Rg.cG Tryz.underlying32 rfl (by assumption) rfl ?_|refine Rg.gp Tryz.underlying32 rfl (by assumption) rfl ?_
 refine Rg.call rfl rfl Gq (Au (M:=M) hM (by omega)) (fun ub wb hb=>?_);obtain⟨Mb,sb,rI⟩:=hb;refine Rg.assign rfl rfl (Rg.nil (T.seq (T.seq (T.region (Rg.assign rfl rfl (Rg.nil (T.block ?_)))))));refine T.loop (σ:=Nat×Int×Value×List UInt8) (fun s=>[(0,v),(3,s.2.2.1),(4,.int .i64 s.1)]) (fun s w=>s.2.2.2++jZ s.2.1 (l.drop s.1)=dO l∧s.1≤l.length∧eI s.2.1 (l.drop s.1)=true∧ -1≤s.2.1∧(s.1=0→s.2.1= -1)∧(0<s.1→l[s.1-1]? =some s.2.1)∧(0<s.1→0≤s.2.1)∧∃M1,Lt M1 w∧Step M w0 M1 w aE∧Own RT.u8 5 M1 w w0.heap.size s.2.2.1 s.2.2.2) (fun s=>l.length-s.1) (0,-1,_,put l.length) (.cons rfl (.cons rfl (.cons rfl .nil))) ?_ ?_
 ·exact⟨rfl,Nat.zero_le _,hr0,by simp only;omega,fun _=>rfl,fun h=>absurd h (Nat.lt_irrefl 0),fun h=>absurd h (Nat.lt_irrefl 0),Mb,sb.lt hM,sb,rI⟩
 ·rintro⟨k,last,u0,acc⟩ w1 ⟨kP,hk,hrs,NN,h0,h1,h2p,M1,mI,s1,ho⟩;dsimp only at kP hk hrs NN h0 h1 h2p ho ⊢;refine T.seq (T.seq (T.region (Rg.move rfl rfl (Rg.move rfl rfl ?_))))
  first|refine Rg.cG Tryz.underlying32 rfl (by assumption) rfl ?_|refine Rg.gp Tryz.underlying32 rfl (by assumption) rfl ?_
  refine Rg.fN rfl rfl rfl (Rg.nil ?_);refine T.dJ rfl (fun c3=>?_) (fun c3=>?_)
  ·refine T.skip (T.seq (T.block (T.seq (T.region (Rg.move rfl rfl (Rg.move rfl rfl ?_))))));obtain⟨x,hx⟩:∃x,l[k]? =some x:=⟨_,List.getElem?_eq_getElem (by omega)⟩;have hxr:=yF hv hx;obtain⟨hlx,hrx⟩:=yQ hx hrs;refine Rg.idx (M:=M) Tryz.underlying32 I3 rfl rfl rfl (hv.le (s1.back).le) (Le.refl _ _) (by omega) (fun NO qp Gx oJ=>?_);obtain rfl:qp=x:=Option.some.inj (Gx.symm.trans (by simpa using hx));refine Rg.cD (M:=M) Tryz.underlying3 rfl rfl oJ (Le.refl _ _) (fun _=>?_);refine Rg.assign rfl rfl (Rg.nil (T.seq (T.seq (T.region (Rg.move rfl rfl (Rg.tf rfl rfl rfl (Rg.nil ?_)))))));refine T.dJ rfl (fun c6=>?_) (fun c6=>?_)
   ·apply T.draw (M:=M1) mixed [bW.eq _,bW.eq _,bW.ptr (RT.int .i64) qp,bW.eq _,bW.eq _,bW.eq _,bW.eq _,bW.ptr (RT.int .i64) last,bW.eq _,bW.eq _,bW.eq _,bW.eq _]
    ·rfl
    ·refine bB.cons ?_ ?_
     ·intro wD E sD;refine Rg.move rfl rfl ?_;exact Rg.nil ⟨rfl,rfl,_,rfl,rfl,Step.refl _ _⟩
     refine bB.cons ?_ ?_
     ·intro wD E sD;refine Rg.move rfl rfl ?_;exact Rg.nil ⟨rfl,rfl,_,rfl,rfl,Step.refl _ _⟩
     refine bB.cons ?_ ?_
     ·intro wD E sD;refine aA (aA ?_);refine Rg.idx (M:=M1) Tryz.underlying32 I3 rfl rfl rfl (by assumption) (by repeat (first|exact Le.refl _ _|refine Le.trans (Step.le (by assumption)) ?_)) (by omega) (fun NP Yu RZ nT=>?_);obtain rfl:Yu=qp:=Option.some.inj (RZ.symm.trans (by simpa using hx));exact Rg.nil ⟨rfl,rfl,_,rfl,nT,Step.refl _ _⟩
     refine bB.cons ?_ ?_
     ·intro wD E sD;intro v2 nq;refine Rg.cD (M:=M1) Tryz.underlying3 rfl rfl (by assumption) (by repeat (first|exact Le.refl _ _|refine Le.trans (Step.le (by assumption)) ?_)) (fun aea=>?_);exact Rg.nil ⟨rfl,rfl,_,rfl,rfl,Step.refl _ _⟩
     refine bB.cons ?_ ?_
     ·intro wD E sD;refine Rg.move rfl rfl ?_;exact Rg.nil ⟨rfl,rfl,_,rfl,rfl,Step.refl _ _⟩
     refine bB.cons ?_ ?_
     ·intro wD E sD;refine Rg.move rfl rfl ?_;exact Rg.nil ⟨rfl,rfl,_,rfl,rfl,Step.refl _ _⟩
     refine bB.cons ?_ ?_
     ·intro wD E sD;refine aA (Rg.jB rfl rfl rfl (by omega) ?_);exact Rg.nil ⟨rfl,rfl,_,rfl,rfl,Step.refl _ _⟩
     refine bB.cons ?_ ?_
     ·intro wD E sD;refine aA (aA ?_);refine Rg.idx (M:=M1) Tryz.underlying32 I3 rfl rfl rfl (by assumption) (by repeat (first|exact Le.refl _ _|refine Le.trans (Step.le (by assumption)) ?_)) (by omega) (fun ahy Yv R0 R1=>?_);obtain rfl:Yv=last:=Option.some.inj (R0.symm.trans (by rw[show((k:Int)-1).toNat=k-1 from by omega];exact h1 (by omega)));exact Rg.nil ⟨rfl,rfl,_,rfl,R1,Step.refl _ _⟩
     refine bB.cons ?_ ?_
     ·intro wD E sD;intro v7 pT;refine Rg.cD (M:=M1) Tryz.underlying3 rfl rfl (by assumption) (by repeat (first|exact Le.refl _ _|refine Le.trans (Step.le (by assumption)) ?_)) (fun aeb=>?_);exact Rg.nil ⟨rfl,rfl,_,rfl,rfl,Step.refl _ _⟩
     refine bB.cons ?_ ?_
     ·intro wD E sD;refine aA (aA (Rg.jB rfl rfl rfl (by omega) ?_));exact Rg.nil ⟨rfl,rfl,_,rfl,rfl,Step.refl _ _⟩
     refine bB.cons ?_ ?_
     ·intro wD E sD;refine aA (Rg.jB rfl rfl rfl (by omega) ?_);exact Rg.nil ⟨rfl,rfl,_,rfl,rfl,Step.refl _ _⟩
     refine bB.cons ?_ ?_
     ·intro wD E sD;refine aA (aA (aA ?_));intro v2 nq;refine aA (aA (aA (aA ?_)));intro v7 pT;refine aA (aA (aA (Rg.assign rfl rfl ?_)));exact Rg.nil ⟨rfl,rfl,_,rfl,rfl,Step.refl _ _⟩
     exact bB.nil
    ·intro Wz JC;refine aA (aA ?_);intro R2 LU;refine aA (aA (aA (aA ?_)));intro R3 LV;refine aA (aA (aA (aA ?_)));replace ho:=ho.a8 JC;replace mI:=JC.lt mI;replace s1:=s1.aB JC;refine T.region (Rg.move rfl rfl (Rg.move rfl rfl (Rg.eqv (v':= .int .i64 (((qp-last-1).toNat:Nat):Int)) (by congr 1;omega) ?_)));have hpx:=gE (n:=(qp-last-1).toNat) (by omega);have hpp:=uk (qp-last-1).toNat;have NQ:=si hx last;have mD:=congrArg List.length kP;rw[NQ]at mD;simp only[List.length_append]at mD;refine Rg.call rfl rfl Gq (ph (M:=M1) mI (by omega)) (fun u w2 h2=>?_);obtain⟨s2,hu⟩:=h2;refine Rg.append (M:=M1) (base:=w0.heap.size) Tryz.underlying147 I5 rfl rfl rfl rfl (ho.a8 s2) hu (Le.refl _ _) (by omega) (by omega) (Nat.le_trans s1.size s2.size) (fun v3 M3 w3 so s3=>?_);refine Rg.assign rfl rfl (Rg.nil (T.region (Rg.move rfl rfl (Rg.dd rfl rfl rfl (by omega) (Rg.assign rfl rfl (Rg.nil ?_))))));refine⟨rfl,(k+1,qp,v3,acc++put (qp-last-1).toNat),(.cons rfl (.cons rfl (.cons rfl .nil))),?_,?_⟩
     ·refine⟨?_,by simp only;omega,hrx,by simp only;omega,fun h=>by simp at h,fun _=>by simpa using hx,fun _=>by simp only;omega,M3,s3.lt (s2.lt mI),(s1.aB s2).cF s3 (ho.a8 s2) (Nat.le_refl _),so⟩;rw[←kP,NQ,List.append_assoc]
     ·simp only;omega
   ·refine T.skip (T.region (Rg.move rfl rfl (Rg.move rfl rfl (Rg.eqv (v':= .int .i64 (((qp-last-1).toNat:Nat):Int)) (by congr 1;omega) ?_))));have hpx:=gE (n:=(qp-last-1).toNat) (by omega);have hpp:=uk (qp-last-1).toNat;have NQ:=si hx last;have mD:=congrArg List.length kP;rw[NQ]at mD;simp only[List.length_append]at mD;refine Rg.call rfl rfl Gq (ph (M:=M1) mI (by omega)) (fun u w2 h2=>?_);obtain⟨s2,hu⟩:=h2;refine Rg.append (M:=M1) (base:=w0.heap.size) Tryz.underlying147 I5 rfl rfl rfl rfl (ho.a8 s2) hu (Le.refl _ _) (by omega) (by omega) (Nat.le_trans s1.size s2.size) (fun v3 M3 w3 so s3=>?_);refine Rg.assign rfl rfl (Rg.nil (T.region (Rg.move rfl rfl (Rg.dd rfl rfl rfl (by omega) (Rg.assign rfl rfl (Rg.nil ?_))))));refine⟨rfl,(k+1,qp,v3,acc++put (qp-last-1).toNat),(.cons rfl (.cons rfl (.cons rfl .nil))),?_,?_⟩
    ·refine⟨?_,by simp only;omega,hrx,by simp only;omega,fun h=>by simp at h,fun _=>by simpa using hx,fun _=>by simp only;omega,M3,s3.lt (s2.lt mI),(s1.aB s2).cF s3 (ho.a8 s2) (Nat.le_refl _),so⟩;rw[←kP,NQ,List.append_assoc]
    ·simp only;omega
  ·refine T.exit (T.seq (T.region (Rg.move rfl rfl (Rg.assign rfl rfl (Rg.nil (T.ret ?_))))));refine aV rfl rfl ⟨s1.back,?_⟩;rw[←kP,List.drop_eq_nil_of_le (by omega),jZ,List.append_nil];rw[List.drop_eq_nil_of_le (by omega),jZ,List.append_nil]at kP;exact Own.close hM s1 ho (by rw[kP];omega)
end Go.K

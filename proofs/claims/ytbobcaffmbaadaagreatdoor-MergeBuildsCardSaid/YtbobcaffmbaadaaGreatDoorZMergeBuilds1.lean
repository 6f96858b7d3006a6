/- What the law 'MergeBuilds' needs of walks and plain Lean, part 1: nothing is assumed beyond the texts that it imports. -/
import Derived.ArgAppend
import Derived.Below
import Derived.ChangeOld
import Derived.Deep.MidRow
import Derived.IntWalk
import Derived.LaidByTextLater
import Derived.LaidHandle
import Derived.LaidLaws
import Derived.LaidMore
import Derived.Laws.AppendOwn
import Derived.Laws.BytesString
import Derived.Laws.Cover3
import Derived.Laws.NewBlocks
import Derived.Laws.Pointers
import Derived.Laws.Slices
import Derived.Laws.Small
import Derived.MakeChecks
import Derived.OpenShut
import Derived.Orders
import Derived.ProofKit
import Derived.RangeFuncLeaves
import Derived.RangeFuncNested
import Derived.SevenTiedAt
import Derived.ShutString
import Derived.SizedLaws
import Derived.Stop.Joined
import Derived.TacticsIn
import Derived.WalkKit
set_option linter.unusedVariables false
set_option linter.unusedSimpArgs false
theorem aM {α:Type} {c:α} {P:α→Prop} (h:P c):∀x,x=c→P x:=fun x hx=>hx▸h
namespace Go.K
abbrev Sl:=List (Nat×Value)
def lk:Sl→Nat→Option Value
 |[],_=>none
 |(k,v)::l,t=>bif Nat.beq k t then some v else lk l t
structure iY (n:Nat) (a:Act) (L:Sl) (ds:List Deferred):Prop where
 size:n≤a.tmps.size
 defers:a.defers=ds
 at_:∀t v,lk L t=some v→a.tmps[t]? =some v
def ev (L:Sl):Operand→Option Value
 |.tmp t=>lk L t
 |.const v=>some v
 |.global g=>some (.pointer (some ⟨g,0,none⟩))
 |.func f=>some (.func (.func f) #[] #[])
theorem iY.eval {n a L ds} (h:iY n a L ds) {x:Operand} {v:Value} (hx:ev L x=some v):a.eval x=v:=by
 cases x with
 |tmp t=>simp only[ev]at hx;simp[Act.eval,h.at_ t v hx]
 |const u=>simp only[ev]at hx;cases hx;rfl
 |global g=>simp only[ev]at hx;cases hx;rfl
 |func f=>simp only[ev]at hx;cases hx;rfl
theorem iY.put {n a L ds} (h:iY n a L ds) {d:Nat} (hd:d<n) (v:Value):iY n (a.put (some d) v) ((d,v)::L) ds:=by
 refine⟨?_,h.defers,?_⟩
 ·simp only[Act.put,Array.size_setIfInBounds];exact h.size
 ·intro t u ht;simp only[lk]at ht;have hs:=h.size;by_cases e:d=t
  ·subst e;simp only[Nat.beq_refl,cond_true]at ht
   cases ht;simp only[Act.put];rw[Array.getElem?_setIfInBounds];simp;omega
  ·have e':Nat.beq d t=false:=by
    cases hb:Nat.beq d t with
    |false=>rfl
    |true=>exact absurd (Nat.eq_of_beq_eq_true hb) e
   rw[e']at ht;simp only[cond_false]at ht;simp only[Act.put];rw[Array.getElem?_setIfInBounds,if_neg e];exact h.at_ t u ht
def Sub:Sl→Sl→Prop
 |[],_=>True
 |(t,v)::A,B=>lk B t=some v∧Sub A B
theorem Sub.nil {B:Sl}:Sub [] B:=trivial
theorem Sub.cons {t:Nat} {v:Value} {A B:Sl} (h:lk B t=some v) (h':Sub A B):Sub ((t,v)::A) B:=⟨h,h'⟩
theorem Sub.lk {A B:Sl} (h:Sub A B) {t:Nat} {v:Value} (ht:lk A t=some v):lk B t=some v:=by
 induction A with
 |nil=>simp[K.lk]at ht
 |cons p A ih=>
  obtain⟨k,u⟩:=p;obtain⟨h1,h2⟩:=h;simp only[K.lk]at ht
  cases hb:Nat.beq k t with
  |true=>
   rw[hb]at ht;simp only[cond_true]at ht;cases ht;rw[←Nat.eq_of_beq_eq_true hb];exact h1
  |false=>rw[hb]at ht;exact ih h2 ht
theorem iY.sub {n a A B ds} (h:iY n a B ds) (hs:Sub A B):iY n a A ds:=⟨h.size,h.defers,fun t v ht=>h.at_ t v (hs.lk ht)⟩
abbrev FW (r:Option Nat):Fence:={Fence.wide with round:=r}
abbrev Kt:=Exit→Sl→List Deferred→World→Prop
def up (n:Nat) (K:Kt):Exit→Act→World→Prop:=fun e a w=>∃L ds,iY n a L ds∧K e L ds w
structure T (P:Program) (r:Option Nat) (n:Nat) (c:Code) (L:Sl) (ds:List Deferred) (w:World) (K:Kt):Prop where
 run:∀a,iY n a L ds→c.wpIn (FW r) 0 P (up n K) a w
structure Rg (P:Program) (r:Option Nat) (n:Nat) (ops:Array Oper) (rest:List Oper) (L:Sl) (ds:List Deferred) (w:World) (K:Kt):Prop where
 run:∀a,iY n a L ds→wpListIn (FW r) 0 P ops (up n K) rest a w
@[reducible] def rQ (k:Sl→List Deferred→World→Prop) (K:Kt):Kt
 |.normal,L,ds,w=>k L ds w
 |e,L,ds,w=>K e L ds w
@[reducible] def jJ (id:Nat) (K:Kt):Kt
 |.exit id',L,ds,w=>if id'=id then K .normal L ds w else K (.exit id') L ds w
 |e,L,ds,w=>K e L ds w
section
variable {P:Program} {r:Option Nat} {n:Nat} {L:Sl} {ds:List Deferred} {w:World} {K:Kt}
theorem T.mono {c:Code} {K':Kt} (h:T P r n c L ds w K) (hK:∀e L ds w,K e L ds w→K' e L ds w):T P r n c L ds w K':=
 ⟨fun a ha=>wpIn_mono (h.run a ha) fun _ _ _ ⟨L,ds,h1,h2⟩=>⟨L,ds,h1,hK _ _ _ _ h2⟩⟩
theorem T.weaken {c:Code} (L':Sl) (hs:Sub L' L) (h:T P r n c L' ds w K):T P r n c L ds w K:=⟨fun a ha=>h.run a (ha.sub hs)⟩
theorem T.skip (h:K .normal L ds w):T P r n .skip L ds w K:=⟨fun a ha=>wpIn_skip ⟨L,ds,ha,h⟩⟩
theorem T.exit {id:Nat} (h:K (.exit id) L ds w):T P r n (.exit id) L ds w K:=⟨fun a ha=>wpIn_exit ⟨L,ds,ha,h⟩⟩
theorem T.ret (h:K .ret L ds w):T P r n .ret L ds w K:=⟨fun a ha=>wpIn_ret ⟨L,ds,ha,h⟩⟩
theorem T.seq {x y:Code} (h:T P r n x L ds w (rQ (fun L ds w=>T P r n y L ds w K) K)):T P r n (.seq x y) L ds w K:=by
 refine⟨fun a ha=>wpIn_seq (wpIn_mono (h.run a ha) ?_)⟩;rintro e a' w' ⟨L',qw,rR,hK⟩
 cases e with
 |normal=>exact hK.run a' rR
 |exit id=>exact⟨L',qw,rR,hK⟩
 |goto id=>exact⟨L',qw,rR,hK⟩
 |ret=>exact⟨L',qw,rR,hK⟩
 |panic c=>exact⟨L',qw,rR,hK⟩
 |outgrown=>exact⟨L',qw,rR,hK⟩
theorem T.block {id:Nat} {c:Code} (h:T P r n c L ds w (jJ id K)):T P r n (.block id c) L ds w K:=by
 refine⟨fun a ha=>wpIn_block (wpIn_mono (h.run a ha) ?_)⟩;rintro e a' w' ⟨L',qw,rR,hK⟩
 cases e with
 |normal=>exact⟨L',qw,rR,hK⟩
 |exit id'=>
  simp only[Exit.inBlock];simp only[jJ]at hK
  split
  ·rename_i e';rw[if_pos e']at hK;exact⟨L',qw,rR,hK⟩
  ·rename_i e';rw[if_neg e']at hK;exact⟨L',qw,rR,hK⟩
 |goto id=>exact⟨L',qw,rR,hK⟩
 |ret=>exact⟨L',qw,rR,hK⟩
 |panic c=>exact⟨L',qw,rR,hK⟩
 |outgrown=>exact⟨L',qw,rR,hK⟩
theorem T.cond {c:Operand} {x y:Code} {b:Bool} (hc:ev L c=some (.bool b)) (ht:b=true→T P r n x L ds w K) (hf:b=false→T P r n y L ds w K):
  T P r n (.cond c x y) L ds w K:=by
 refine⟨fun a ha=>?_⟩;have:=ha.eval hc
 cases b with
 |true=>exact wpIn_cond_true this ((ht rfl).run a ha)
 |false=>exact wpIn_cond_false this ((hf rfl).run a ha)
theorem T.dQ {c:Operand} {x y:Code} {p:Prop} [Decidable p] (hc:ev L c=some (.bool (decide p))) (ht:p→T P r n x L ds w K) (hf: ¬p→T P r n y L ds w K):
  T P r n (.cond c x y) L ds w K:= .cond hc (fun h=>ht (of_decide_eq_true h)) (fun h=>hf (of_decide_eq_false h))
theorem T.tZ {c:Operand} {x y:Code} (hc:ev L c=some (.bool true)) (ht:T P r n x L ds w K):T P r n (.cond c x y) L ds w K:= .cond hc (fun _=>ht) (fun h=>by cases h)
theorem T.iff {c:Operand} {x y:Code} (hc:ev L c=some (.bool false)) (hf:T P r n y L ds w K):T P r n (.cond c x y) L ds w K:= .cond hc (fun h=>by cases h) (fun _=>hf)
theorem least {σ:Type} (m:σ→Nat) (p:σ→Prop):(∃s,p s)→∃s,p s∧∀s',p s'→m s≤m s':=by
 have key:∀k s,m s=k→p s→∃s,p s∧∀s',p s'→m s≤m s':=by
  intro k
  induction k using Nat.strongRecOn with
  |_ k ih=>
   intro s hs hp;by_cases h:∃s',p s'∧m s'<k
   ·obtain⟨s',PI,dY⟩:=h;exact ih (m s') dY s' rfl PI
   ·exact⟨s,hp,fun s' PI=>by
     rcases Nat.lt_or_ge (m s') (m s)with h'|h'
     ·exact absurd ⟨s',PI,hs▸h'⟩ h
     ·exact h'⟩
 rintro⟨s,hp⟩;exact key _ s rfl hp
theorem T.loop {σ:Type} {c:Code} (Lf:σ→Sl) (I:σ→World→Prop) (m:σ→Nat) (s0:σ) (hL:Sub (Lf s0) L) (h0:I s0 w)
  (round:∀s w,I s w→T P r n c (Lf s) ds w (rQ (fun L' qw w'=>qw=ds∧∃s',Sub (Lf s') L'∧I s' w'∧m s'<m s) K)):T P r n (.loop c) L ds w K:=by
 classical
 refine⟨fun a ha=>?_⟩
 let J:σ→Act→World→Prop:=fun s a w=>iY n a (Lf s) ds∧I s w
 let μ:Act→World→Nat:=fun a w=>if h:∃s,J s a w then m (Classical.choose (least m (J · a w) h))else 0
 refine wpIn_loop (fun a w=>∃s,J s a w) μ ⟨s0,ha.sub hL,h0⟩ ?_;rintro a w hJ;have hc:=Classical.choose_spec (least m (J · a w) hJ);have hμ:μ a w=m (Classical.choose (least m (J · a w) hJ)):=by simp only[μ];rw[dif_pos hJ]
 rw[hμ];generalize Classical.choose (least m (J · a w) hJ)=s at hc;obtain⟨⟨hs,hi⟩,_⟩:=hc;refine wpIn_mono ((round s w hi).run a hs) ?_;rintro e a' w' ⟨L',qw,rR,hK⟩
 cases e with
 |normal=>
  obtain⟨rfl,s',P2,iy,dY⟩:=hK;have Uq:∃s,J s a' w':=⟨s',rR.sub P2,iy⟩;refine⟨Uq,?_⟩;have h2:=(Classical.choose_spec (least m (J · a' w') Uq)).2 s' ⟨rR.sub P2,iy⟩;simp only[μ];rw[dif_pos Uq];omega
 |exit id=>exact⟨L',qw,rR,hK⟩
 |goto id=>exact⟨L',qw,rR,hK⟩
 |ret=>exact⟨L',qw,rR,hK⟩
 |panic c=>exact⟨L',qw,rR,hK⟩
 |outgrown=>exact⟨L',qw,rR,hK⟩
theorem T.region {id:Nat} {l:List Oper} (h:Rg P r n l.toArray l L ds w K):T P r n (.region id l.toArray false) L ds w K:=
 ⟨fun a ha=>wpIn_region_lit (h.run a ha)⟩
variable {ops:Array Oper} {rest:List Oper} {o:Oper}
theorem Rg.nil (h:K .normal L ds w):Rg P r n ops [] L ds w K:=⟨fun _ ha=>wpListIn_nil ⟨L,ds,ha,h⟩⟩
theorem DC (o6:∀c,o.op≠ .defer c) {a:Act} {next:Act→World→Prop} {Q:Exit→Act→World→Prop}
  (h:o.uponIn (FW r) 0 P a next Q ((execOp a.eval o).run P w)):o.wpIn (FW r) 0 P a w next Q:=
 ⟨fun _ _=>trivial,by rw[Oper.semAt_eq _ _ _ o6];exact h⟩
theorem Rg.op (o6:∀c,o.op≠ .defer c) (hg:o.guard=none) {d:Nat} (hd:o.dst=some d) (Jv:Nat.blt d n=true) (v:Value) (w':World)
  (gY:∀ρ:Operand→Value,(∀x u,ev L x=some u→ρ x=u)→(execOp ρ o).run P w= .ok (.value v) w')
  (h:Rg P r n ops rest ((d,v)::L) ds w' K):Rg P r n ops (o::rest) L ds w K:=by
 refine⟨fun a ha=>wpListIn_plain hg fun K' P3=>DC o6 ?_⟩;rw[gY a.eval (fun x u hx=>ha.eval hx),Oper.uponIn_value,hd];exact P3 _ _ (h.run _ (ha.put (by simpa[Nat.blt_eq]using Jv) v))
theorem Rg.Sj (o6:∀c,o.op≠ .defer c) (hg:o.guard=none) (hd:o.dst=none) (w':World)
  (gY:∀ρ:Operand→Value,(∀x u,ev L x=some u→ρ x=u)→(execOp ρ o).run P w= .ok .skip w')
  (h:Rg P r n ops rest L ds w' K):Rg P r n ops (o::rest) L ds w K:=by
 refine⟨fun a ha=>wpListIn_plain hg fun K' P3=>DC o6 ?_⟩;rw[gY a.eval (fun x u hx=>ha.eval hx),Oper.uponIn_skip,hd];exact P3 _ _ (h.run _ ha)
def Spec (P:Program) (f:FuncId) (args:Array Value) (w:World) (Q:Value→World→Prop):Prop:=
 Calls P f args w fun e w'=>∃v,e= .returned v∧Q v w'
theorem Spec.mono {f:FuncId} {args:Array Value} {Q Q':Value→World→Prop} (h:Spec P f args w Q) (hq:∀v w',Q v w'→Q' v w'):Spec P f args w Q':=
 Calls.mono h fun _ _ ⟨v,he,hv⟩=>⟨v,he,hq _ _ hv⟩
theorem Rg.Gn (o6:∀c,o.op≠ .defer c) (hg:o.guard=none) {d:Nat} (hd:o.dst=some d) (Jv:Nat.blt d n=true) {f:FuncId} {args:Array Value} {w1:World} {Q:Value→World→Prop}
  (gY:∀ρ:Operand→Value,(∀x u,ev L x=some u→ρ x=u)→(execOp ρ o).run P w= .ok (.enter f args) w1)
  (hs:Spec P f args w1 Q) (h:∀v w',Q v w'→Rg P r n ops rest ((d,v)::L) ds w' K):Rg P r n ops (o::rest) L ds w K:=by
 refine⟨fun a ha=>wpListIn_plain hg fun K' P3=>DC o6 ?_⟩;rw[gY a.eval (fun x u hx=>ha.eval hx),Oper.uponIn_enter,hd];refine⟨fun h=>by simp[FW,Fence.wide]at h,?_⟩
 have hc:CallsIn (FW r) (0-1) P f args w1 fun e w'=>∃v,e= .returned v∧Q v w':=by
  cases r with
  |none=>exact callsIn_wide.2 hs
  |some l=>exact CallsIn.inRound l (callsIn_wide.2 hs)
 refine hc.mono ?_;rintro e w' ⟨v,rfl,hv⟩;exact P3 _ _ ((h v w' hv).run _ (ha.put (by simpa[Nat.blt_eq]using Jv) v))
def yA (ops:Array Oper) (j:Nat):Option Nat:=(ops[j]?).bind (·.dst)
theorem yB {a:Act} (ha:iY n a L ds) {j g:Nat} {b:Bool} (hj:yA ops j=some g) (hb:lk L g=some (.bool b)):yielded ops a.tmps j=some b:=by
 unfold yielded;unfold yA at hj;rw[hj];simp[ha.at_ g _ hb]
theorem Rg.Ur {g:Nat} {b:Bool} (hb:lk L g=some (.bool b)) (ht:b=true→Rg P r n ops rest ((g,.bool true)::L) ds w K) (hf:b=false→Rg P r n ops rest ((g,.bool false)::L) ds w K):
  Rg P r n ops rest L ds w K:=by
 have key:∀c,b=c→∀t v,lk ((g,.bool c)::L) t=some v→lk L t=some v:=by
  rintro c rfl t v h;simp only[lk]at h
  cases Yy:Nat.beq g t with
  |true=>rw[Yy]at h;simp only[cond_true]at h;rw[←Nat.eq_of_beq_eq_true Yy,hb];exact h
  |false=>rw[Yy]at h;exact h
 refine⟨fun a ha=>?_⟩
 cases b with
 |true=>exact(ht rfl).run a ⟨ha.size,ha.defers,fun t v h=>ha.at_ t v (key true rfl t v h)⟩
 |false=>exact(hf rfl).run a ⟨ha.size,ha.defers,fun t v h=>ha.at_ t v (key false rfl t v h)⟩
theorem Rg.bE {g:Nat} {p:Prop} [Decidable p] (hb:lk L g=some (.bool (decide p))) (ht:p→Rg P r n ops rest ((g,.bool true)::L) ds w K) (hf: ¬p→Rg P r n ops rest ((g,.bool false)::L) ds w K):
  Rg P r n ops rest L ds w K:= .Ur hb (fun h=>ht (of_decide_eq_true h)) (fun h=>hf (of_decide_eq_false h))
theorem Rg.Il {g:Nat} {p:Prop} [Decidable p] (hb:lk L g=some (.bool (decide p))) (hp:p) (k:Rg P r n ops rest ((g,.bool true)::L) ds w K):Rg P r n ops rest L ds w K:=
 .bE hb (fun _=>k) (fun h=>absurd hp h)
theorem Rg.yC {g:Nat} {p:Prop} [Decidable p] (hb:lk L g=some (.bool (decide p))) (hp: ¬p) (k:Rg P r n ops rest ((g,.bool false)::L) ds w K):Rg P r n ops rest L ds w K:=
 .bE hb (fun h=>absurd h hp) (fun _=>k)
theorem T.vP {c:Operand} {x y:Code} {p:Prop} [Decidable p] (hc:ev L c=some (.bool (decide p))) (hp: ¬p) (h:T P r n y L ds w K):T P r n (.cond c x y) L ds w K:= .dQ hc (fun h=>absurd h hp) (fun _=>h)
theorem Rg.aI {dst:Option Nat} {op:Op} {ty:TypeId} {pos:String} {af:Array Edge} {j g:Nat} {b:Bool} (hj:yA ops j=some g) (hb:lk L g=some (.bool b))
  (h:Rg P r n ops ({dst,op,type:=ty,pos,after:=af,guard:=none}::rest) L ds w K):Rg P r n ops ({dst,op,type:=ty,pos,after:=af,guard:=some (j,b)}::rest) L ds w K:=by
 refine⟨fun a ha=>?_⟩;have h1:=h.run a ha;have hy:=yB ha hj hb;simp only[wpListIn,Region.wanted,if_true]at h1;simp only[wpListIn,Region.wanted,hy,beq_self_eq_true,if_true];exact h1
theorem Rg.bO {d:Nat} {op:Op} {ty:TypeId} {pos:String} {af:Array Edge} {j g:Nat} {b c:Bool} (hj:yA ops j=some g) (hb:lk L g=some (.bool b)) (eN:(b==c)=false)
  (Jv:Nat.blt d n=true) (h:Rg P r n ops rest ((d,undef)::L) ds w K):Rg P r n ops ({dst:=some d,op,type:=ty,pos,after:=af,guard:=some (j,c)}::rest) L ds w K:=by
 refine⟨fun a ha=>?_⟩;have hy:=yB ha hj hb;have P5:b≠c:=by simpa using eN
 simp only[wpListIn,Region.wanted,hy];rw[if_neg (by simpa using P5)];exact⟨fun _ _=>trivial,h.run _ (ha.put (by simpa[Nat.blt_eq]using Jv) undef)⟩
end
section
variable {P:Program} {r:Option Nat} {n:Nat} {L:Sl} {ds:List Deferred} {w:World} {K:Kt} {ops:Array Oper} {rest:List Oper}
theorem AK {a:Act} (ha:iY n a L ds) {j g:Nat} (hj:yA ops j=some g) (hb:lk L g=some undef):yielded ops a.tmps j=none:=by
 unfold yielded;unfold yA at hj;rw[hj];simp[ha.at_ g _ hb,undef]
theorem Rg.eA {d:Nat} {op:Op} {ty:TypeId} {pos:String} {af:Array Edge} {j g:Nat} {c:Bool} (hj:yA ops j=some g) (hb:lk L g=some undef)
  (Jv:Nat.blt d n=true) (h:Rg P r n ops rest ((d,undef)::L) ds w K):Rg P r n ops ({dst:=some d,op,type:=ty,pos,after:=af,guard:=some (j,c)}::rest) L ds w K:=by
 refine⟨fun a ha=>?_⟩;have hy:=AK ha hj hb;simp only[wpListIn,Region.wanted,hy];rw[if_neg (by simp)];exact⟨fun _ _=>trivial,h.run _ (ha.put (by simpa[Nat.blt_eq]using Jv) undef)⟩
end
def vQ:Nat→List Value→Sl
 |_,[]=>[]
 |i,v::l=>(i,v)::vQ (i+1) l
theorem Be (l:List Value):∀(i t:Nat) (v:Value),lk (vQ i l) t=some v→i≤t∧l[t-i]? =some v:=by
 induction l with
 |nil=>intro i t v h;simp[vQ,lk]at h
 |cons u l ih=>
  intro i t v h;simp only[vQ,lk]at h
  cases hb:Nat.beq i t with
  |true=>
   rw[hb]at h;simp only[cond_true]at h;cases h;have:=Nat.eq_of_beq_eq_true hb;subst this;exact⟨Nat.le_refl _,by simp⟩
  |false=>
   rw[hb]at h;obtain⟨h1,h2⟩:=ih (i+1) t v h;refine⟨by omega,?_⟩;rw[show t-i=(t-(i+1))+1 from by omega];simpa using h2
def xQ (P:Program) (fn:Func) (Q:Value→World→Prop):Kt
 |.normal,L,ds,w| .ret,L,ds,w=>ds=[]∧∀a:Act,(∀t v,lk L t=some v→a.tmps[t]? =some v)→∃v,(results fn a.tmps).run P w= .ok v w∧Q v w
 |_,_,_,_=>False
theorem bg {P:Program} {f:FuncId} {fn:Func} {c:Code} {args:List Value} {w:World} {Q:Value→World→Prop} (hf:P.funcs[f]? =some fn) (hb:fn.body=some c) {n:Nat} (hn:fn.ntmps=n)
  (h:T P none n c (vQ 0 args) [] w (xQ P fn Q)):Spec P f args.toArray w Q:=by
 refine(callsIn_wide (n:=0)).1 (callsIn_of_wp hf hb trivial ?_);refine wpIn_mono (h.run _ ⟨?_,rfl,?_⟩) ?_
 ·simp[hn];omega
 ·intro t v ht;obtain⟨_,h2⟩:=Be args 0 t v ht;simp only[Nat.sub_zero]at h2;have dY:t<args.length:=(List.getElem?_eq_some_iff.1 h2).1;simp only;rw[Array.getElem?_append_left (by simpa using dY)];simpa using h2
 ·rintro e a w' ⟨L,ds,ha,hK⟩
  cases e with
  |normal=>obtain⟨h1,h2⟩:=hK;obtain⟨v,h3,h4⟩:=h2 a ha.at_;exact⟨ha.defers.trans h1,v,h3,v,rfl,h4⟩
  |ret=>obtain⟨h1,h2⟩:=hK;obtain⟨v,h3,h4⟩:=h2 a ha.at_;exact⟨ha.defers.trans h1,v,h3,v,rfl,h4⟩
  |exit id=>exact hK.elim
  |goto id=>exact hK.elim
  |panic c=>exact hK.elim
  |outgrown=>exact hK.elim
section
variable {P:Program} {fn:Func} {L:Sl} {w:World} {Q:Value→World→Prop}
theorem aV {t:Nat} {v:Value} (hr:fn.results= #[.tmp t]) (hv:lk L t=some v) (h:Q v w):
  xQ P fn Q .ret L [] w:=
 ⟨rfl,fun a ha=>⟨v,by simp[results,hr,ha t v hv],h⟩⟩
theorem DD (hr:fn.results= #[]) (h:Q (.tuple #[]) w):
  xQ P fn Q .ret L [] w:=
 ⟨rfl,fun a ha=>⟨_,by simp[results,hr],h⟩⟩
theorem fp {t u:Nat} {x y:Value} (hr:fn.results= #[.tmp t,.tmp u]) (hx:lk L t=some x) (hy:lk L u=some y) (h:Q (.tuple #[x,y]) w):
  xQ P fn Q .ret L [] w:=
 ⟨rfl,fun a ha=>⟨_,by simp[results,hr,ha _ _ hx,ha _ _ hy],h⟩⟩
theorem so {t u s:Nat} {x y z:Value} (hr:fn.results= #[.tmp t,.tmp u,.tmp s]) (hx:lk L t=some x) (hy:lk L u=some y) (hz:lk L s=some z) (h:Q (.tuple #[x,y,z]) w):
  xQ P fn Q .ret L [] w:=
 ⟨rfl,fun a ha=>⟨_,by simp[results,hr,ha _ _ hx,ha _ _ hy,ha _ _ hz],h⟩⟩
end
end Go.K
namespace Go.K
open Go.RowKit (Below)
abbrev aD:=Nat→Prop
def aC:aD:=fun _=>False
def ins (M:aD) (b:Nat):aD:=fun k=>k=b∨M k
def Le (M:aD) (w:World) (M':aD) (w':World):Prop:=∀b,b<w.heap.size→¬M b→¬M' b∧w'.heap[b]? =w.heap[b]?
theorem ak {w:World} {b:Nat} {o:Obj} (h:w.heap[b]? =some o):b<w.heap.size:=(Array.getElem?_eq_some_iff.1 h).1
theorem Le.refl (M:aD) (w:World):Le M w M w:=fun _ _ h=>⟨h,rfl⟩
theorem Le.trans {M1 M2 M3:aD} {w1 w2 w3:World} (h:Le M1 w1 M2 w2) (h':Le M2 w2 M3 w3):Le M1 w1 M3 w3:=fun b hb hm=>by
 obtain⟨h1,h2⟩:=h b hb hm
 have oC:b<w2.heap.size:=by
  have:w1.heap[b]? =some w1.heap[b]:=Array.getElem?_eq_getElem hb;exact ak (h2.trans this)
 obtain⟨h3,h4⟩:=h' b oC h1;exact⟨h3,h4.trans h2⟩
def Lt (M:aD) (w:World):Prop:=∀b,M b→b<w.heap.size
theorem Lt.none (w:World):Lt aC w:=fun _ h=>h.elim
structure Step (M:aD) (w:World) (M':aD) (w':World) (N:aD):Prop where
 lt:Lt M w→Lt M' w'
 os:w'.os=w.os
 tape:w'.tape=w.tape
 output:w'.output=w.output
 size:w.heap.size≤w'.heap.size
 mem:∀b,b<w.heap.size→(M' b↔M b)
 same:∀b,b<w.heap.size→¬N b→w'.heap[b]? =w.heap[b]?
 sub:∀b,N b→M b
theorem Step.refl (M:aD) (w:World):Step M w M w aC:=⟨id,rfl,rfl,rfl,Nat.le_refl _,fun _ _=>Iff.rfl,fun _ _ _=>rfl,fun _ h=>h.elim⟩
theorem Step.le {M M' N:aD} {w w':World} (h:Step M w M' w' N):Le M w M' w':=fun b hb hm=>⟨fun yh=>hm ((h.mem b hb).1 yh),h.same b hb fun hn=>hm (h.sub b hn)⟩
theorem Step.trans {M1 M2 M3 N N':aD} {w1 w2 w3:World} (h:Step M1 w1 M2 w2 N) (h':Step M2 w2 M3 w3 N') (hN:∀b,b<w1.heap.size→N' b→N b):Step M1 w1 M3 w3 N:=
 ⟨fun h0=>h'.lt (h.lt h0),h'.os.trans h.os,h'.tape.trans h.tape,h'.output.trans h.output,Nat.le_trans h.size h'.size,
  fun b hb=>(h'.mem b (Nat.lt_of_lt_of_le hb h.size)).trans (h.mem b hb),
  fun b hb hn=>(h'.same b (Nat.lt_of_lt_of_le hb h.size) (fun h2=>hn (hN b hb h2))).trans (h.same b hb hn),h.sub⟩
theorem Step.aB {M1 M2 M3 N:aD} {w1 w2 w3:World} (h:Step M1 w1 M2 w2 N) (h':Step M2 w2 M3 w3 aC):Step M1 w1 M3 w3 N:=h.trans h' fun _ _ h=>h.elim
theorem Step.cB {M M' N N':aD} {w w':World} (h:Step M w M' w' N) (hN:∀b,N b→N' b) (hs:∀b,N' b→M b):Step M w M' w' N':=
 ⟨h.lt,h.os,h.tape,h.output,h.size,h.mem,fun b hb hn=>h.same b hb fun h2=>hn (hN b h2),hs⟩
theorem Step.any {M M':aD} {w w':World} (h:Step M w M' w' aC) (M1:aD):Step M1 w M1 w' aC:=
 ⟨fun h0 b hb=>Nat.lt_of_lt_of_le (h0 b hb) h.size,h.os,h.tape,h.output,h.size,fun _ _=>Iff.rfl,h.same,fun _ h=>h.elim⟩
theorem Step.back {M M' N:aD} {w w':World} (h:Step M w M' w' N):Step M w M w' N:=⟨fun h0 b hb=>Nat.lt_of_lt_of_le (h0 b hb) h.size,h.os,h.tape,h.output,h.size,fun _ _=>Iff.rfl,h.same,h.sub⟩
theorem Step.below {M:aD} {M':aD} {w w':World} (h:Step M w M' w' aC):Below w.heap.size w w':=⟨h.os,h.tape,h.output,h.size,fun k hk=>h.same k hk fun h=>h.elim⟩
theorem Step.aL {M M':aD} {w w':World} (h:Step M w M' w' aC) {b:Nat} {o:Obj} (hb:w.heap[b]? =some o):w'.heap[b]? =some o:=(h.same b (ak hb) fun h=>h.elim).trans hb
theorem Step.keep {M M' N:aD} {w w':World} (h:Step M w M' w' N) {b:Nat} {o:Obj} (hb:w.heap[b]? =some o) (hn: ¬N b):w'.heap[b]? =some o:=(h.same b (ak hb) hn).trans hb
theorem Le.close {M0 M N:aD} {w0 w:World} (hl:Lt M0 w0) (s:Step M0 w0 M w N):Le M w M0 w:=fun b _ hm=>
 ⟨fun h0=>hm ((s.mem b (hl b h0)).2 h0),rfl⟩
theorem cW (M:aD) (w:World) (o:Obj):Step M w M (w.alloc o) aC:=
 ⟨fun h b hb=>Nat.lt_of_lt_of_le (h b hb) (by simp),rfl,rfl,rfl,by simp,fun _ _=>Iff.rfl,fun k hk _=>Below.heap_alloc w o k hk,fun _ h=>h.elim⟩
theorem me (M:aD) (w:World):Step M w M w.drew aC:=⟨fun h=>h,rfl,rfl,rfl,Nat.le_refl _,fun _ _=>Iff.rfl,fun _ _ _=>rfl,fun _ h=>h.elim⟩
theorem Step.own {M M' N:aD} {w w':World} (s:Step M w M' w' N) {b:Nat} (hb:w.heap.size≤b) (PJ:b<w'.heap.size):Step M w (ins M' b) w' N:=
 ⟨fun h k hk=>by
  rcases hk with rfl|hk
  ·exact PJ
  ·exact s.lt h k hk,s.os,s.tape,s.output,s.size,fun k hk=>⟨fun h=>by
  rcases h with rfl|h
  ·omega
  ·exact(s.mem k hk).1 h,fun h=> .inr ((s.mem k hk).2 h)⟩,s.same,s.sub⟩
structure RT (α:Type) where
 n:Nat
 agg:Bool
 R:aD→World→α→List Value→Prop
 len:∀{M w x vs},R M w x vs→vs.length=n
 one:∀{M w x vs},R M w x vs→∀v∈vs,v.oneCell'=true
 le:∀{M w M' w' x vs},Le M w M' w'→R M w x vs→R M' w' x vs
def RT.val {α:Type} (A:RT α) (vs:List Value):Value:=if A.agg then .agg vs.toArray else vs.headD undef
def RT.V {α:Type} (A:RT α) (M:aD) (w:World) (x:α) (v:Value):Prop:=∃vs,A.R M w x vs∧v=A.val vs
theorem RT.V.le {α:Type} {A:RT α} {M M':aD} {w w':World} {x:α} {v:Value} (hl:Le M w M' w') (h:A.V M w x v):A.V M' w' x v:=by
 obtain⟨vs,h1,h2⟩:=h;exact⟨vs,A.le hl h1,h2⟩
def RT.int (k:IntKind):RT Int where
 n:=1
 agg:=false
 R:=fun _ _ x vs=>vs=[.int k x]∧k.min≤x∧x≤k.max
 len:=by rintro _ _ x vs ⟨rfl,_⟩;rfl
 one:=by rintro _ _ x vs ⟨rfl,_⟩ v hv;simp at hv;subst hv;rfl
 le:=fun _ h=>h
def RT.u8:RT UInt8 where
 n:=1
 agg:=false
 R:=fun _ _ x vs=>vs=[.int .u8 x.toNat]
 len:=by rintro _ _ x vs rfl;rfl
 one:=by rintro _ _ x vs rfl v hv;simp at hv;subst hv;rfl
 le:=fun _ h=>h
def RT.str:RT (List UInt8) where
 n:=1
 agg:=false
 R:=fun _ _ x vs=>vs=[.string ⟨x.toArray⟩]∧x.length≤140737488355328
 len:=by rintro _ _ x vs ⟨rfl,_⟩;rfl
 one:=by rintro _ _ x vs ⟨rfl,_⟩ v hv;simp at hv;subst hv;rfl
 le:=fun _ h=>h
theorem tn {M M':aD} {w w':World} (hl:Le M w M' w') {b o:Nat} {vs:List Value} (hm: ¬M b) (h:w.rangeAt b o vs):w'.rangeAt b o vs:=by
 intro j v hv;have hc:=h j v hv;have hb:b<w.heap.size:=World.block_lt_of_cell? w ⟨b,o+j,none⟩ hc;rw[World.cell?_of_block (w:=w) (hl b hb hm).2];exact hc
def vR {α:Type} (A:RT α) (M:aD) (w:World) (a:Option Addr) (xs:List α):Prop:=
 xs=[]∨∃b o,a=some ⟨b,o,none⟩∧¬M b∧∀i x,xs[i]? =some x→∃vs,A.R M w x vs∧w.rangeAt b (o+i*A.n) vs
theorem vR.le {α:Type} {A:RT α} {M M':aD} {w w':World} {a:Option Addr} {xs:List α} (hn:0<A.n) (hl:Le M w M' w') (h:vR A M w a xs):vR A M' w' a xs:=by
 rcases h with h|⟨b,o,h1,h2,h3⟩
 ·exact .inl h
 ·cases xs with
  |nil=>exact .inl rfl
  |cons x xs=>
   obtain⟨vs,hv,hr⟩:=h3 0 x rfl;have ud:0<vs.length:=by rw[A.len hv];exact hn
   have hc:=hr 0 vs[0] (List.getElem?_eq_getElem ud);have hb:b<w.heap.size:=World.block_lt_of_cell? w _ hc;refine .inr ⟨b,o,h1,(hl b hb h2).1,fun i x hi=>?_⟩;obtain⟨vs,hv,hr⟩:=h3 i x hi;exact⟨vs,A.le hl hv,tn hl h2 hr⟩
def RT.sl {α:Type} (A:RT α) (hn:0<A.n:=by decide):RT (List α) where
 n:=1
 agg:=false
 R:=fun M w xs vs=>∃a cap,vs=[.slice a xs.length cap]∧xs.length≤cap∧xs.length≤140737488355328∧vR A M w a xs
 len:=by rintro _ _ x vs ⟨a,cap,rfl,_⟩;rfl
 one:=by rintro _ _ x vs ⟨a,cap,rfl,_⟩ v hv;simp at hv;subst hv;rfl
 le:=by
  rintro M w M' w' xs vs hl ⟨a,cap,h1,h2,h3,h4⟩;exact⟨a,cap,h1,h2,h3,h4.le hn hl⟩
def RT.pair {α β:Type} (A:RT α) (B:RT β):RT (α×β) where
 n:=A.n+B.n
 agg:=true
 R:=fun M w x vs=>∃va vb,vs=va++vb∧A.R M w x.1 va∧B.R M w x.2 vb
 len:=by rintro _ _ x vs ⟨va,vb,rfl,h1,h2⟩;rw[List.length_append,A.len h1,B.len h2]
 one:=by
  rintro _ _ x vs ⟨va,vb,rfl,h1,h2⟩ v hv;rcases List.mem_append.1 hv with hv|hv
  ·exact A.one h1 v hv
  ·exact B.one h2 v hv
 le:=by rintro M w M' w' x vs hl ⟨va,vb,h0,h1,h2⟩;exact⟨va,vb,h0,A.le hl h1,B.le hl h2⟩
theorem yD {k:IntKind} {M:aD} {w:World} {x:Int} {v:Value}:(RT.int k).V M w x v↔v= .int k x∧k.min≤x∧x≤k.max:=
 ⟨fun⟨_,⟨h1,h2⟩,h3⟩=>by subst h1;exact⟨h3,h2⟩,fun⟨h1,h2⟩=>⟨_,⟨rfl,h2⟩,h1⟩⟩
theorem Us {M:aD} {w:World} {x:UInt8} {v:Value}:RT.u8.V M w x v↔v= .int .u8 x.toNat:=⟨fun⟨_,h1,h2⟩=>by cases h1;exact h2,fun h=>⟨_,rfl,h⟩⟩
theorem kS {M:aD} {w:World} {x:List UInt8} {v:Value}:RT.str.V M w x v↔v= .string ⟨x.toArray⟩∧x.length≤140737488355328:=
 ⟨fun⟨_,⟨h1,h2⟩,h3⟩=>by subst h1;exact⟨h3,h2⟩,fun⟨h1,h2⟩=>⟨_,⟨rfl,h2⟩,h1⟩⟩
theorem iz {α:Type} {A:RT α} {hn:0<A.n} {M:aD} {w:World} {xs:List α} {v:Value}:
  (A.sl hn).V M w xs v↔∃a cap,v= .slice a xs.length cap∧xs.length≤cap∧xs.length≤140737488355328∧vR A M w a xs:=
 ⟨fun⟨_,⟨a,cap,h1,h2⟩,h3⟩=>by subst h1;exact⟨a,cap,h3,h2⟩,fun⟨a,cap,h1,h2⟩=>⟨_,⟨a,cap,rfl,h2⟩,h1⟩⟩
theorem pW {α:Type} {A:RT α} {hn:0<A.n} {M:aD} {w:World}:(A.sl hn).V M w [] (.slice none 0 0):=iz.2 ⟨none,0,rfl,Nat.zero_le _,Nat.zero_le _,.inl rfl⟩
theorem dD {α:Type} {A:RT α} {hn:0<A.n} {M:aD} {w:World} {xs:List α} {v:Value} (h:(A.sl hn).V M w xs v):xs.length≤140737488355328:=by
 obtain⟨_,_,_,_,h,_⟩:=iz.1 h;exact h
def eg {α:Type} (A:RT α) (M:aD) (w:World):List α→List Value→Prop
 |[],C=>C=[]
 |x::xs,C=>∃vs rest,C=vs++rest∧A.R M w x vs∧eg A M w xs rest
theorem eg.le {α:Type} {A:RT α} {M M':aD} {w w':World} (hl:Le M w M' w'):∀{xs:List α} {C:List Value},eg A M w xs C→eg A M' w' xs C
 |[],_,h=>h
 |_::_,_,⟨vs,rest,h1,h2,h3⟩=>⟨vs,rest,h1,A.le hl h2,eg.le hl h3⟩
theorem eg.length {α:Type} {A:RT α} {M:aD} {w:World}:∀{xs:List α} {C:List Value},eg A M w xs C→C.length=xs.length*A.n
 |[],_,h=>by cases h;simp
 |x::xs,_,⟨vs,rest,h1,h2,h3⟩=>by subst h1;rw[List.length_append,A.len h2,eg.length h3,List.length_cons,Nat.add_mul];omega
theorem eg.one {α:Type} {A:RT α} {M:aD} {w:World}:∀{xs:List α} {C:List Value},eg A M w xs C→∀u∈C,u.oneCell'=true
 |[],_,h,u,hu=>by cases h;cases hu
 |x::xs,_,⟨vs,rest,h1,h2,h3⟩,u,hu=>by
  subst h1;rcases List.mem_append.1 hu with hu|hu
  ·exact A.one h2 u hu
  ·exact eg.one h3 u hu
theorem eg.append {α:Type} {A:RT α} {M:aD} {w:World} {ys:List α} {D:List Value} (hd:eg A M w ys D):∀{xs:List α} {C:List Value},eg A M w xs C→eg A M w (xs++ys) (C++D)
 |[],_,h=>by cases h;simpa using hd
 |_::_,_,⟨vs,rest,h1,h2,h3⟩=>⟨vs,rest++D,by subst h1;simp,h2,eg.append hd h3⟩
theorem eg.at_ {α:Type} {A:RT α} {M:aD} {w:World}:∀{xs:List α} {C:List Value},eg A M w xs C→∀i x,xs[i]? =some x→∃vs,A.R M w x vs∧∀j v,vs[j]? =some v→C[i*A.n+j]? =some v
 |[],_,_,i,x,hi=>by simp at hi
 |y::xs,_,⟨vs,rest,h1,h2,h3⟩,0,x,hi=>by
  simp at hi;subst hi;subst h1;refine⟨vs,h2,fun j v hv=>?_⟩;have hj:j<vs.length:=(List.getElem?_eq_some_iff.1 hv).1;rw[Nat.zero_mul,Nat.zero_add,List.getElem?_append_left hj];exact hv
 |y::xs,_,⟨vs,rest,h1,h2,h3⟩,i+1,x,hi=>by
  subst h1;obtain⟨us,hu,hr⟩:=eg.at_ h3 i x (by simpa using hi);refine⟨us,hu,fun j v hv=>?_⟩;have:=hr j v hv;have hl:=A.len h2;rw[List.getElem?_append_right (by rw[hl,Nat.add_mul];omega),hl,Nat.add_mul];rw[show i*A.n+1*A.n+j-A.n=i*A.n+j from by omega];exact this
theorem vR.all {α:Type} {A:RT α} {M:aD} {w:World} {b o:Nat}:∀{xs:List α},(∀i x,xs[i]? =some x→∃vs,A.R M w x vs∧w.rangeAt b (o+i*A.n) vs)→
  ∃C,eg A M w xs C∧w.rangeAt b o C:=by
 intro xs
 induction xs generalizing o with
 |nil=>intro _;exact⟨[],rfl,fun j v hv=>by simp at hv⟩
 |cons x xs ih=>
  intro h;obtain⟨vs,hv,hr⟩:=h 0 x rfl
  obtain⟨C,hC,hD⟩:=ih (o:=o+A.n) (fun i y hi=>by
   obtain⟨us,hu,hs⟩:=h (i+1) y (by simpa using hi);refine⟨us,hu,?_⟩;rw[show o+A.n+i*A.n=o+(i+1)*A.n from by rw[Nat.add_mul];omega];exact hs)
  refine⟨vs++C,⟨vs,C,rfl,hv,hC⟩,fun j v hj=>?_⟩;have hl:=A.len hv;rcases Nat.lt_or_ge j vs.length with dY|Lj
  ·rw[List.getElem?_append_left dY]at hj;have:=hr j v hj;simpa using this
  ·rw[List.getElem?_append_right Lj]at hj;have:=hD (j-vs.length) v hj;rw[show o+A.n+(j-vs.length)=o+j from by omega]at this;exact this
structure Own {α:Type} (A:RT α) (e:TypeId) (M:aD) (w:World) (base:Nat) (v:Value) (xs:List α):Prop where
 row:∃C,w.ownsRow base e A.n v xs.length C∧eg A M w xs C
 mut_:∀b,v.ownBlock=some b→M b
theorem Own.nil {α:Type} (A:RT α) (e:TypeId) (M:aD) (w:World) (base:Nat):Own A e M w base (.slice none 0 0) []:=
 ⟨⟨[],World.ownsRow_nil w base e A.n,rfl⟩,fun b h=>by simp[Value.ownBlock]at h⟩
theorem Own.isSlice {α:Type} {A:RT α} {e:TypeId} {M:aD} {w:World} {base:Nat} {v:Value} {xs:List α} (h:Own A e M w base v xs):∃a cap,v= .slice a xs.length cap∧xs.length≤cap:=by
 obtain⟨⟨C,hr,_⟩,_⟩:=h;rcases hr.2 with⟨h1,h2⟩|⟨g,cap,cur,h1,_,_,h4,_⟩
 ·exact⟨none,0,by rw[h1,h2],by omega⟩
 ·exact⟨_,cap,h1,h4⟩
theorem Own.base {α:Type} {A:RT α} {e:TypeId} {M:aD} {w:World} {base:Nat} {v:Value} {xs:List α} (h:Own A e M w base v xs):∀b,v.ownBlock=some b→base≤b∧b<w.heap.size:=by
 obtain⟨⟨C,hr,_⟩,_⟩:=h;exact hr.lt
theorem Own.step {α:Type} {A:RT α} {e:TypeId} {M M' N:aD} {w w':World} {base:Nat} {v:Value} {xs:List α} (h:Own A e M w base v xs) (s:Step M w M' w' N)
  (hn:∀b,v.ownBlock=some b→¬N b):Own A e M' w' base v xs:=by
 obtain⟨⟨C,hr,ha⟩,hm⟩:=h;refine⟨⟨C,⟨hr.1,?_⟩,ha.le s.le⟩,fun b hb=>(s.mem b (hr.lt b hb).2).2 (hm b hb)⟩;rcases hr.2 with h1|⟨g,cap,cur,h1,h2,h3,h4⟩
 ·exact .inl h1
 ·exact .inr ⟨g,cap,cur,h1,h2,s.keep h3 (hn g (by rw[h1];rfl)),h4⟩
theorem Own.aO {α:Type} {A:RT α} {e:TypeId} {M M':aD} {w w':World} {base:Nat} {v:Value} {xs:List α} (h:Own A e M w base v xs) (s:Step M w M' w' aC):Own A e M' w' base v xs:=h.step s fun _ _ h=>h
theorem Own.sl {α:Type} {A:RT α} {hn:0<A.n} {e:TypeId} {M:aD} {w:World} {base:Nat} {v:Value} {xs:List α} (h:Own A e M w base v xs) {M0:aD} (hle:Le M w M0 w)
  (hb:∀b,v.ownBlock=some b→¬M0 b) (hlen:xs.length≤140737488355328):(A.sl hn).V M0 w xs v:=by
 obtain⟨⟨C,hr,ha⟩,hm⟩:=h;rcases hr.2 with⟨h1,h2⟩|⟨g,cap,cur,h1,h2,h3,h4,h5,h6,h7⟩
 ·have:xs=[]:=List.eq_nil_of_length_eq_zero h2;subst this;subst h1;exact pW
 ·subst h1;refine iz.2 ⟨_,cap,rfl,h4,hlen,.inr ⟨g,0,rfl,hb g rfl,fun i x hi=>?_⟩⟩;obtain⟨vs,hv,hj⟩:=ha.at_ i x hi;refine⟨vs,A.le hle hv,fun j u hu=>?_⟩;have h8:=hj j u hu;rw[←h7,List.getElem?_take]at h8
  split at h8
  ·simp only[World.cell?,h3];simpa using h8
  ·cases h8
theorem Own.close {α:Type} {A:RT α} {hn:0<A.n} {e:TypeId} {M0 M N:aD} {w0 w:World} {v:Value} {xs:List α} (hl:Lt M0 w0) (s:Step M0 w0 M w N) (h:Own A e M w w0.heap.size v xs)
  (hlen:xs.length≤140737488355328):(A.sl hn).V M0 w xs v:=
 h.sl (Le.close hl s) (fun b hb h0=>by have:=(h.base b hb).1;have:=hl b h0;omega) hlen
def TI (P:Program) (t:TypeId) (z:Value) (size bytes:Nat):Prop:=(P.info? t).map (fun i=>(i.zero,i.size,i.bytes))=some (some z,size,bytes)
theorem TI.get {P:Program} {t:TypeId} {z:Value} {size bytes:Nat} (h:TI P t z size bytes):∃i,P.info? t=some i∧i.zero=some z∧i.size=size∧i.bytes=bytes:=by
 unfold TI at h
 cases hi:P.info? t with
 |none=>simp[hi]at h
 |some i=>simp[hi]at h;exact⟨i,rfl,h.1,h.2.1,h.2.2⟩
theorem TI.sizeOf {P:Program} {t:TypeId} {z:Value} {size bytes:Nat} (h:TI P t z size bytes) (w:World):(Go.sizeOf t).run P w= .ok size w:=by
 obtain⟨i,h1,h2,h3,h4⟩:=h.get;simp[Go.sizeOf,typeInfo,h1,h3]
end Go.K
namespace Go.K
section
variable {P:Program} {r:Option Nat} {n:Nat} {L:Sl} {ds:List Deferred} {w:World} {K:Kt} {ops:Array Oper} {rest:List Oper}
variable {d:Nat} {ty:TypeId} {pos:String} {af:Array Edge} {x y z:Operand}
theorem Rg.eqv {d:Nat} {v v':Value} (h:v=v') (k:Rg P r n ops rest ((d,v')::L) ds w K):Rg P r n ops rest ((d,v)::L) ds w K:=by subst h;exact k
theorem Rg.move {v:Value} (hx:ev L x=some v) (hd:Nat.blt d n=true) (k:Rg P r n ops rest ((d,v)::L) ds w K):
  Rg P r n ops ({dst:=some d,op:= .move x,type:=ty,pos,after:=af,guard:=none}::rest) L ds w K:=
 .op (fun _ h=>by cases h) rfl rfl hd v w (fun ρ h=>by simp only[execOp];rw[h x v hx];simp) k
theorem Rg.assign {v:Value} (hx:ev L x=some v) (hd:Nat.blt d n=true) (k:Rg P r n ops rest ((d,v)::L) ds w K):
  Rg P r n ops ({dst:=some d,op:= .assign x,type:=ty,pos,after:=af,guard:=none}::rest) L ds w K:=
 .op (fun _ h=>by cases h) rfl rfl hd v w (fun ρ h=>by simp only[execOp];rw[h x v hx];simp) k
theorem Rg.cb {v:Value} (hx:ev L x=some (.bool true)) (hy:ev L y=some v) (hd:Nat.blt d n=true) (k:Rg P r n ops rest ((d,v)::L) ds w K):
  Rg P r n ops ({dst:=some d,op:= .pick x y z,type:=ty,pos,after:=af,guard:=none}::rest) L ds w K:=
 .op (fun _ h=>by cases h) rfl rfl hd v w (fun ρ h=>by simp only[execOp];rw[h x _ hx,h y v hy];simp[asBool]) k
theorem Rg.bC {v:Value} (hx:ev L x=some (.bool false)) (hz:ev L z=some v) (hd:Nat.blt d n=true) (k:Rg P r n ops rest ((d,v)::L) ds w K):
  Rg P r n ops ({dst:=some d,op:= .pick x y z,type:=ty,pos,after:=af,guard:=none}::rest) L ds w K:=
 .op (fun _ h=>by cases h) rfl rfl hd v w (fun ρ h=>by simp only[execOp];rw[h x _ hx,h z v hz];simp[asBool]) k
theorem Rg.not {b:Bool} {xt:TypeId} (hx:ev L x=some (.bool b)) (hd:Nat.blt d n=true) (k:Rg P r n ops rest ((d,.bool (!b))::L) ds w K):
  Rg P r n ops ({dst:=some d,op:= .unOp .not xt x,type:=ty,pos,after:=af,guard:=none}::rest) L ds w K:=
 .op (fun _ h=>by cases h) rfl rfl hd _ w (fun ρ h=>by simp only[execOp];rw[h x _ hx];simp[Op.unary]) k
theorem P7 {op:BinOp} {k:IntKind} {p q:Int} {t:TypeId} {x y:Operand} {v:Value} {s:Sem Value} (hs:binOp op t (.int k p) (.int k q)=s) (hr:s.run P w= .ok v w):
  Sem.run P (do eqGuard op t x y (.int k p) (.int k q);binOp op t (.int k p) (.int k q)) w= .ok v w:=by
 rw[hs];have:(eqGuard op t x y (.int k p) (.int k q)).run P w= .ok () w:=by unfold eqGuard;cases op<;>simp
 simp[Sem.run_bind,this,hr]
theorem Rg.bin {op:BinOp} {t t':TypeId} {k:IntKind} {p q:Int} {v:Value} (hx:ev L x=some (.int k p)) (hy:ev L y=some (.int k q)) (hd:Nat.blt d n=true)
  (hr:(binOp op t (.int k p) (.int k q)).run P w= .ok v w) (kk:Rg P r n ops rest ((d,v)::L) ds w K):
  Rg P r n ops ({dst:=some d,op:= .binOp op t x y t',type:=ty,pos,after:=af,guard:=none}::rest) L ds w K:=
 .op (fun _ h=>by cases h) rfl rfl hd v w (fun ρ h=>by
  simp only[execOp];rw[h x _ hx,h y _ hy,Sem.run_bind,P7 rfl hr];simp) kk
theorem Rg.dg {t t':TypeId} {p q:Int} (hx:ev L x=some (.int .i64 p)) (hy:ev L y=some (.int .i64 q)) (hd:Nat.blt d n=true)
  (hb: -9223372036854775808≤p+q∧p+q≤9223372036854775807) (k:Rg P r n ops rest ((d,.int .i64 (p+q))::L) ds w K):
  Rg P r n ops ({dst:=some d,op:= .binOp .add t x y t',type:=ty,pos,after:=af,guard:=none}::rest) L ds w K:=
 .bin hx hy hd (by simp[binOp,Op.intArith,IntWalk.i64_in _ hb]) k
theorem Rg.jK {t t':TypeId} {p q:Int} (hx:ev L x=some (.int .i64 p)) (hy:ev L y=some (.int .i64 q)) (hd:Nat.blt d n=true)
  (hb: -9223372036854775808≤p-q∧p-q≤9223372036854775807) (k:Rg P r n ops rest ((d,.int .i64 (p-q))::L) ds w K):
  Rg P r n ops ({dst:=some d,op:= .binOp .sub t x y t',type:=ty,pos,after:=af,guard:=none}::rest) L ds w K:=
 .bin hx hy hd (by simp[binOp,Op.intArith,IntWalk.i64_in _ hb]) k
theorem Rg.P9 {t t':TypeId} {p q:Int} (hx:ev L x=some (.int .i64 p)) (hy:ev L y=some (.int .i64 q)) (hd:Nat.blt d n=true)
  (hb: -9223372036854775808≤p*q∧p*q≤9223372036854775807) (k:Rg P r n ops rest ((d,.int .i64 (p*q))::L) ds w K):
  Rg P r n ops ({dst:=some d,op:= .binOp .mul t x y t',type:=ty,pos,after:=af,guard:=none}::rest) L ds w K:=
 .bin hx hy hd (by simp[binOp,Op.intArith,IntWalk.i64_in _ hb]) k
theorem Rg.xR {t t':TypeId} {κ:IntKind} {p q:Int} (hx:ev L x=some (.int κ p)) (hy:ev L y=some (.int κ q)) (hd:Nat.blt d n=true)
  (k:Rg P r n ops rest ((d,.int κ (κ.wrap (p+q)))::L) ds w K):
  Rg P r n ops ({dst:=some d,op:= .binOp .add t x y t',type:=ty,pos,after:=af,guard:=none}::rest) L ds w K:= .bin hx hy hd (by simp[binOp,Op.intArith]) k
theorem Rg.Ut {t t':TypeId} {κ:IntKind} {p q:Int} (hx:ev L x=some (.int κ p)) (hy:ev L y=some (.int κ q)) (hd:Nat.blt d n=true)
  (k:Rg P r n ops rest ((d,.int κ (κ.wrap (p-q)))::L) ds w K):
  Rg P r n ops ({dst:=some d,op:= .binOp .sub t x y t',type:=ty,pos,after:=af,guard:=none}::rest) L ds w K:= .bin hx hy hd (by simp[binOp,Op.intArith]) k
theorem Rg.Jw {t t':TypeId} {κ:IntKind} {p q:Int} (hx:ev L x=some (.int κ p)) (hy:ev L y=some (.int κ q)) (hd:Nat.blt d n=true)
  (k:Rg P r n ops rest ((d,.int κ (κ.wrap (p*q)))::L) ds w K):
  Rg P r n ops ({dst:=some d,op:= .binOp .mul t x y t',type:=ty,pos,after:=af,guard:=none}::rest) L ds w K:= .bin hx hy hd (by simp[binOp,Op.intArith]) k
theorem Rg.AL {t t':TypeId} {p q:Int} (hx:ev L x=some (.int .i64 p)) (hy:ev L y=some (.int .i64 q)) (hd:Nat.blt d n=true)
  (hb:0≤p∧p≤9223372036854775807∧1≤q) (k:Rg P r n ops rest ((d,.int .i64 (p/q))::L) ds w K):
  Rg P r n ops ({dst:=some d,op:= .binOp .quo t x y t',type:=ty,pos,after:=af,guard:=none}::rest) L ds w K:=
 .bin hx hy hd (by simp[binOp,Op.intDiv,show q≠0 from by omega,IntWalk.i64_quo p q hb]) k
theorem Rg.AM {t t':TypeId} {κ:IntKind} {p q:Int} (hx:ev L x=some (.int κ p)) (hy:ev L y=some (.int κ q)) (hd:Nat.blt d n=true)
  (hb:0≤p∧1≤q) (k:Rg P r n ops rest ((d,.int κ (p%q))::L) ds w K):
  Rg P r n ops ({dst:=some d,op:= .binOp .rem t x y t',type:=ty,pos,after:=af,guard:=none}::rest) L ds w K:=
 .bin hx hy hd (by simp[binOp,Op.intDiv,show q≠0 from by omega,IntWalk.rem_in p q hb.1]) k
theorem Rg.neg {xt:TypeId} {p:Int} (hx:ev L x=some (.int .i64 p)) (hd:Nat.blt d n=true) (hb: -9223372036854775808≤ -p∧ -p≤9223372036854775807)
  (k:Rg P r n ops rest ((d,.int .i64 (-p))::L) ds w K):
  Rg P r n ops ({dst:=some d,op:= .unOp .neg xt x,type:=ty,pos,after:=af,guard:=none}::rest) L ds w K:=
 .op (fun _ h=>by cases h) rfl rfl hd _ w (fun ρ h=>by simp only[execOp];rw[h x _ hx];simp[Op.unary,Op.intArith,IntWalk.i64_in _ hb]) k
theorem Rg.shr {t t':TypeId} {κ κ':IntKind} {p q:Int} (hx:ev L x=some (.int κ p)) (hy:ev L y=some (.int κ' q)) (hd:Nat.blt d n=true) (hq:0≤q)
  (k:Rg P r n ops rest ((d,.int κ (p.fdiv (2^min q.toNat κ.bits)))::L) ds w K):
  Rg P r n ops ({dst:=some d,op:= .binOp .shr t x y t',type:=ty,pos,after:=af,guard:=none}::rest) L ds w K:=
 .op (fun _ h=>by cases h) rfl rfl hd _ w (fun ρ h=>by
  simp only[execOp];rw[h x _ hx,h y _ hy];simp[eqGuard,binOp,Op.shift,show¬q<0 from by omega]) k
theorem Rg.shl {t t':TypeId} {κ κ':IntKind} {p q:Int} (hx:ev L x=some (.int κ p)) (hy:ev L y=some (.int κ' q)) (hd:Nat.blt d n=true) (hq:0≤q)
  (k:Rg P r n ops rest ((d,.int κ (κ.wrap (p*2^min q.toNat κ.bits)))::L) ds w K):
  Rg P r n ops ({dst:=some d,op:= .binOp .shl t x y t',type:=ty,pos,after:=af,guard:=none}::rest) L ds w K:=
 .op (fun _ h=>by cases h) rfl rfl hd _ w (fun ρ h=>by
  simp only[execOp];rw[h x _ hx,h y _ hy];simp[eqGuard,binOp,Op.shift,show¬q<0 from by omega]) k
theorem Rg.and {t t':TypeId} {κ:IntKind} {p q:Int} (hx:ev L x=some (.int κ p)) (hy:ev L y=some (.int κ q)) (hd:Nat.blt d n=true)
  (k:Rg P r n ops rest ((d,.int κ (κ.wrap (BitVec.ofInt κ.bits p&&&BitVec.ofInt κ.bits q).toNat))::L) ds w K):
  Rg P r n ops ({dst:=some d,op:= .binOp .and t x y t',type:=ty,pos,after:=af,guard:=none}::rest) L ds w K:= .bin hx hy hd (by simp[binOp,Op.intBits]) k
theorem Rg.or {t t':TypeId} {κ:IntKind} {p q:Int} (hx:ev L x=some (.int κ p)) (hy:ev L y=some (.int κ q)) (hd:Nat.blt d n=true)
  (k:Rg P r n ops rest ((d,.int κ (κ.wrap (BitVec.ofInt κ.bits p|||BitVec.ofInt κ.bits q).toNat))::L) ds w K):
  Rg P r n ops ({dst:=some d,op:= .binOp .or t x y t',type:=ty,pos,after:=af,guard:=none}::rest) L ds w K:= .bin hx hy hd (by simp[binOp,Op.intBits]) k
theorem Rg.andNot {t t':TypeId} {κ:IntKind} {p q:Int} (hx:ev L x=some (.int κ p)) (hy:ev L y=some (.int κ q)) (hd:Nat.blt d n=true)
  (k:Rg P r n ops rest ((d,.int κ (κ.wrap (BitVec.ofInt κ.bits p&&& ~~~ BitVec.ofInt κ.bits q).toNat))::L) ds w K):
  Rg P r n ops ({dst:=some d,op:= .binOp .andNot t x y t',type:=ty,pos,after:=af,guard:=none}::rest) L ds w K:= .bin hx hy hd (by simp[binOp,Op.intBits]) k
theorem Rg.B8 {t t':TypeId} {κ:IntKind} {p q:Int} (hx:ev L x=some (.int κ p)) (hy:ev L y=some (.int κ q)) (hd:Nat.blt d n=true)
  (k:Rg P r n ops rest ((d,.bool (decide (p=q)))::L) ds w K):
  Rg P r n ops ({dst:=some d,op:= .binOp .eql t x y t',type:=ty,pos,after:=af,guard:=none}::rest) L ds w K:=
 .bin hx hy hd (by simp[binOp,Op.intCmp];rfl) k
theorem Rg.my {t t':TypeId} {κ:IntKind} {p q:Int} (hx:ev L x=some (.int κ p)) (hy:ev L y=some (.int κ q)) (hd:Nat.blt d n=true)
  (k:Rg P r n ops rest ((d,.bool (decide (p≠q)))::L) ds w K):
  Rg P r n ops ({dst:=some d,op:= .binOp .neq t x y t',type:=ty,pos,after:=af,guard:=none}::rest) L ds w K:=
 .bin hx hy hd (by simp[binOp,Op.intCmp];by_cases h:p=q<;>simp[h]) k
theorem Rg.fZ {t t':TypeId} {κ:IntKind} {p q:Int} (hx:ev L x=some (.int κ p)) (hy:ev L y=some (.int κ q)) (hd:Nat.blt d n=true)
  (k:Rg P r n ops rest ((d,.bool (decide (p<q)))::L) ds w K):
  Rg P r n ops ({dst:=some d,op:= .binOp .lss t x y t',type:=ty,pos,after:=af,guard:=none}::rest) L ds w K:= .bin hx hy hd (by simp[binOp,Op.intCmp]) k
theorem Rg.qx {t t':TypeId} {κ:IntKind} {p q:Int} (hx:ev L x=some (.int κ p)) (hy:ev L y=some (.int κ q)) (hd:Nat.blt d n=true)
  (k:Rg P r n ops rest ((d,.bool (decide (p≤q)))::L) ds w K):
  Rg P r n ops ({dst:=some d,op:= .binOp .leq t x y t',type:=ty,pos,after:=af,guard:=none}::rest) L ds w K:= .bin hx hy hd (by simp[binOp,Op.intCmp]) k
theorem Rg.tR {t t':TypeId} {κ:IntKind} {p q:Int} (hx:ev L x=some (.int κ p)) (hy:ev L y=some (.int κ q)) (hd:Nat.blt d n=true)
  (k:Rg P r n ops rest ((d,.bool (decide (q<p)))::L) ds w K):
  Rg P r n ops ({dst:=some d,op:= .binOp .gtr t x y t',type:=ty,pos,after:=af,guard:=none}::rest) L ds w K:= .bin hx hy hd (by simp[binOp,Op.intCmp]) k
theorem Rg.lI {t t':TypeId} {κ:IntKind} {p q:Int} (hx:ev L x=some (.int κ p)) (hy:ev L y=some (.int κ q)) (hd:Nat.blt d n=true)
  (k:Rg P r n ops rest ((d,.bool (decide (q≤p)))::L) ds w K):
  Rg P r n ops ({dst:=some d,op:= .binOp .geq t x y t',type:=ty,pos,after:=af,guard:=none}::rest) L ds w K:= .bin hx hy hd (by simp[binOp,Op.intCmp]) k
theorem Rg.conv {s t:TypeId} {κ κ':IntKind} {p:Int} {u:TypeDesc} (hs:P.underlying s=some u) (ht:P.underlying t=some (.int κ')) (hx:ev L x=some (.int κ p)) (hd:Nat.blt d n=true)
  (k:Rg P r n ops rest ((d,.int κ' (κ'.wrap p))::L) ds w K):
  Rg P r n ops ({dst:=some d,op:= .convert s t x,type:=ty,pos,after:=af,guard:=none}::rest) L ds w K:=
 .op (fun _ h=>by cases h) rfl rfl hd _ w (fun ρ h=>by
  simp only[execOp];rw[h x _ hx];simp[convert,run_underlying hs,run_underlying ht,Conv.intToInt]) k
theorem Rg.vS {s t:TypeId} {κ:IntKind} {p:Int} {u:TypeDesc} (hs:P.underlying s=some u) (ht:P.underlying t=some (.int .i64)) (hx:ev L x=some (.int κ p)) (hd:Nat.blt d n=true)
  (hb: -9223372036854775808≤p∧p≤9223372036854775807) (k:Rg P r n ops rest ((d,.int .i64 p)::L) ds w K):
  Rg P r n ops ({dst:=some d,op:= .convert s t x,type:=ty,pos,after:=af,guard:=none}::rest) L ds w K:=
 .conv hs ht hx hd (by rw[IntWalk.i64_in _ hb];exact k)
theorem Rg.min2 {DE:Array TypeId} {κ κ':IntKind} {p q:Int} (hx:ev L x=some (.int κ p)) (hy:ev L y=some (.int κ' q)) (hd:Nat.blt d n=true)
  (k:Rg P r n ops rest ((d,.int κ (min p q))::L) ds w K):
  Rg P r n ops ({dst:=some d,op:= .call {callee:= .builtin .min,args:= #[x,y],argTypes:=DE},type:=ty,pos,after:=af,guard:=none}::rest) L ds w K:=
 .op (fun _ h=>by cases h) rfl rfl hd _ w (fun ρ h=>by
  simp only[execOp,resolve,List.map_toArray,List.map_cons,List.map_nil,h x _ hx,h y _ hy];simp[invoke,builtin,Builtin.min_,Builtin.min2];rw[Int.min_def];split<;>split<;>omega) k
theorem Rg.max2 {DE:Array TypeId} {κ κ':IntKind} {p q:Int} (hx:ev L x=some (.int κ p)) (hy:ev L y=some (.int κ' q)) (hd:Nat.blt d n=true)
  (k:Rg P r n ops rest ((d,.int κ (max p q))::L) ds w K):
  Rg P r n ops ({dst:=some d,op:= .call {callee:= .builtin .max,args:= #[x,y],argTypes:=DE},type:=ty,pos,after:=af,guard:=none}::rest) L ds w K:=
 .op (fun _ h=>by cases h) rfl rfl hd _ w (fun ρ h=>by
  simp only[execOp,resolve,List.map_toArray,List.map_cons,List.map_nil,h x _ hx,h y _ hy];simp[invoke,builtin,Builtin.max_,Builtin.max2];rw[Int.max_def];split<;>split<;>omega) k
theorem Rg.extract {vs:Array Value} {i:Nat} {v:Value} (hx:ev L x=some (.tuple vs)) (hv:vs[i]? =some v) (hd:Nat.blt d n=true) (k:Rg P r n ops rest ((d,v)::L) ds w K):
  Rg P r n ops ({dst:=some d,op:= .extract x i,type:=ty,pos,after:=af,guard:=none}::rest) L ds w K:=
 .op (fun _ h=>by cases h) rfl rfl hd v w (fun ρ h=>by simp only[execOp];rw[h x _ hx];simp[Instr.extract,hv]) k
theorem Rg.cL {t e:TypeId} {α:Type} {A:RT α} {hn:0<A.n} {M:aD} {w1:World} {xs:List α} {v:Value} (ht:P.underlying t=some (.slice e)) (hx:ev L x=some v) (hv:(A.sl hn).V M w1 xs v) (hd:Nat.blt d n=true)
  (k:Rg P r n ops rest ((d,.int .i64 xs.length)::L) ds w K):
  Rg P r n ops ({dst:=some d,op:= .call {callee:= .builtin .len,args:= #[x],argTypes:= #[t]},type:=ty,pos,after:=af,guard:=none}::rest) L ds w K:=by
 obtain⟨a,cap,rfl,_⟩:=iz.1 hv
 exact .op (fun _ h=>by cases h) rfl rfl hd _ w (fun ρ h=>by
  simp only[execOp,resolve,List.map_toArray,List.map_cons,List.map_nil,h x _ hx];simp[invoke,builtin,Builtin.len_,run_underlying ht,goInt]) k
theorem Rg.gZ {t e e':TypeId} {α:Type} {A:RT α} {M:aD} {w1:World} {base:Nat} {xs:List α} {v:Value} (ht:P.underlying t=some (.slice e)) (hx:ev L x=some v) (hv:Own A e' M w1 base v xs) (hd:Nat.blt d n=true)
  (k:Rg P r n ops rest ((d,.int .i64 xs.length)::L) ds w K):
  Rg P r n ops ({dst:=some d,op:= .call {callee:= .builtin .len,args:= #[x],argTypes:= #[t]},type:=ty,pos,after:=af,guard:=none}::rest) L ds w K:=by
 obtain⟨a,cap,rfl,_⟩:=hv.isSlice
 exact .op (fun _ h=>by cases h) rfl rfl hd _ w (fun ρ h=>by
  simp only[execOp,resolve,List.map_toArray,List.map_cons,List.map_nil,h x _ hx];simp[invoke,builtin,Builtin.len_,run_underlying ht,goInt]) k
theorem Rg.nQ {t:TypeId} {s:ByteArray} (ht:P.underlying t=some .string) (hx:ev L x=some (.string s)) (hd:Nat.blt d n=true)
  (k:Rg P r n ops rest ((d,.int .i64 s.size)::L) ds w K):
  Rg P r n ops ({dst:=some d,op:= .call {callee:= .builtin .len,args:= #[x],argTypes:= #[t]},type:=ty,pos,after:=af,guard:=none}::rest) L ds w K:=
 .op (fun _ h=>by cases h) rfl rfl hd _ w (fun ρ h=>by
  simp only[execOp,resolve,List.map_toArray,List.map_cons,List.map_nil,h x _ hx];simp[invoke,builtin,Builtin.len_,run_underlying ht,goInt]) k
theorem kx (l:List UInt8):(⟨l.toArray⟩:ByteArray).toList=l:=by
 have key:∀(k i:Nat) (acc:List UInt8),i≤l.length→l.length-i=k→ByteArray.toList.loop ⟨l.toArray⟩ i acc=acc.reverse++l.drop i:=by
  intro k
  induction k with
  |zero=>
   intro i acc hi hk;unfold ByteArray.toList.loop;rw[if_neg (by simp[ByteArray.size];omega),List.drop_eq_nil_of_le (by omega)];simp
  |succ k ih=>
   intro i acc hi hk;unfold ByteArray.toList.loop;rw[if_pos (by simp[ByteArray.size];omega),ih (i+1) _ (by omega) (by omega)];have dY:i<l.length:=by omega
   rw[List.drop_eq_getElem_cons dY];simp[ByteArray.get!,getElem!_pos,dY]
 have:=key l.length 0 [] (Nat.zero_le _) (by omega);simpa[ByteArray.toList]using this
theorem Rg.cat {t t':TypeId} {p q:List UInt8} (hx:ev L x=some (.string ⟨p.toArray⟩)) (hy:ev L y=some (.string ⟨q.toArray⟩)) (hd:Nat.blt d n=true) (hb:p.length+q.length≤9223372036854775807)
  (k:Rg P r n ops rest ((d,.string ⟨(p++q).toArray⟩)::L) ds w K):
  Rg P r n ops ({dst:=some d,op:= .binOp .add t x y t',type:=ty,pos,after:=af,guard:=none}::rest) L ds w K:=by
 have e:(⟨p.toArray⟩:ByteArray)++⟨q.toArray⟩=⟨(p++q).toArray⟩:=by apply ByteArray.ext;simp
 refine .op (fun _ h=>by cases h) rfl rfl hd _ w (fun ρ h=>?_) k;simp only[execOp];rw[h x _ hx,h y _ hy];have: ¬(IntKind.max .i64<((ByteArray.size ⟨p.toArray⟩+ByteArray.size ⟨q.toArray⟩:Nat):Int)):=by simp[ByteArray.size,IntKind.max,IntKind.signed,IntKind.bits];omega
 simp[eqGuard,binOp,Op.stringOp,this,e];simp[ByteArray.size];omega
theorem Rg.Im {t t':TypeId} {p q:List UInt8} (hx:ev L x=some (.string ⟨p.toArray⟩)) (hy:ev L y=some (.string ⟨q.toArray⟩)) (hd:Nat.blt d n=true)
  (k:Rg P r n ops rest ((d,.bool (decide (p=q)))::L) ds w K):
  Rg P r n ops ({dst:=some d,op:= .binOp .eql t x y t',type:=ty,pos,after:=af,guard:=none}::rest) L ds w K:=
 .op (fun _ h=>by cases h) rfl rfl hd _ w (fun ρ h=>by
  simp only[execOp];rw[h x _ hx,h y _ hy];simp[eqGuard,binOp,Op.stringOp,kx];by_cases h:p=q<;>simp[h]) k
theorem Rg.Lk {t t':TypeId} {p q:List UInt8} (hx:ev L x=some (.string ⟨p.toArray⟩)) (hy:ev L y=some (.string ⟨q.toArray⟩)) (hd:Nat.blt d n=true)
  (k:Rg P r n ops rest ((d,.bool (decide (p≠q)))::L) ds w K):
  Rg P r n ops ({dst:=some d,op:= .binOp .neq t x y t',type:=ty,pos,after:=af,guard:=none}::rest) L ds w K:=
 .op (fun _ h=>by cases h) rfl rfl hd _ w (fun ρ h=>by
  simp only[execOp];rw[h x _ hx,h y _ hy];simp[eqGuard,binOp,Op.stringOp,kx];by_cases h:p=q<;>simp[h]) k
def PK (L:Sl):List Operand→Option (List Value)
 |[]=>some []
 |x::xs=>match ev L x,PK L xs with
  |some v,some vs=>some (v::vs)
  |_,_=>none
theorem pf {L:Sl} {ρ:Operand→Value} (h:∀x u,ev L x=some u→ρ x=u):∀{xs:List Operand} {vs:List Value},PK L xs=some vs→xs.map ρ=vs
 |[],vs,he=>by simp only[PK]at he;cases he;rfl
 |x::xs,vs,he=>by
  simp only[PK]at he
  split at he
  ·rename_i v us h1 h2
   cases he;simp[h x v h1,pf h h2]
  ·cases he
def Enters (P:Program) (f:FuncId):Prop:=∀args w,(callFunc f args).run P w= .ok (.enter f args) w
theorem enters {f:FuncId} {fn:Func} (hf:P.funcs[f]? =some fn) (hb:fn.body.isNone=false) (hn:(fn.name== "runtime.NumGoroutine")=false):Enters P f:=fun args w=>by
 unfold callFunc;simp only[Sem.run_bind,program,Sem.run,Result.andThen,hf,hn];simp[hb]
theorem Rg.call {f:FuncId} {xs:List Operand} {vs:List Value} {DE:Array TypeId} {Q:Value→World→Prop} (jd:PK L xs=some vs) (hd:Nat.blt d n=true) (he:Enters P f)
  (hs:Spec P f vs.toArray w Q) (k:∀v w',Q v w'→Rg P r n ops rest ((d,v)::L) ds w' K):
  Rg P r n ops ({dst:=some d,op:= .call {callee:= .value (.func f),args:=xs.toArray,argTypes:=DE},type:=ty,pos,after:=af,guard:=none}::rest) L ds w K:=
 .Gn (w1:=w) (fun _ h=>by cases h) rfl rfl hd (fun ρ h=>by
  have h1:=pf h jd;have h2:ρ (.func f)= .func (.func f) #[] #[]:=h _ _ rfl;simp only[execOp,resolve,List.map_toArray,h1,h2];simpa[Deferred.ofValue,invoke]using he _ _) hs k
theorem Rg.nz {f:FuncId} {first captured:List Value} {xs:List Operand} {vs:List Value} {DE:Array TypeId} {Q:Value→World→Prop} (hx:ev L x=some (.func (.func f) first.toArray captured.toArray))
  (jd:PK L xs=some vs) (hd:Nat.blt d n=true) (he:Enters P f)
  (hs:Spec P f (first++vs++captured).toArray w Q) (k:∀v w',Q v w'→Rg P r n ops rest ((d,v)::L) ds w' K):
  Rg P r n ops ({dst:=some d,op:= .call {callee:= .value x,args:=xs.toArray,argTypes:=DE},type:=ty,pos,after:=af,guard:=none}::rest) L ds w K:=
 .Gn (w1:=w) (fun _ h=>by cases h) rfl rfl hd (fun ρ h=>by
  have h1:=pf h jd;simp only[execOp,resolve,List.map_toArray,h1,h x _ hx];simpa[Deferred.ofValue,invoke]using he _ _) hs k
theorem Rg.makeFunc {f:FuncId} {xs ys:List Operand} {vs us:List Value} (jd:PK L xs=some vs) (xS:PK L ys=some us) (hd:Nat.blt d n=true)
  (k:Rg P r n ops rest ((d,.func (.func f) vs.toArray us.toArray)::L) ds w K):
  Rg P r n ops ({dst:=some d,op:= .makeFunc (.func f) xs.toArray ys.toArray,type:=ty,pos,after:=af,guard:=none}::rest) L ds w K:=
 .op (fun _ h=>by cases h) rfl rfl hd _ w (fun ρ h=>by
  simp only[execOp,List.map_toArray,pf h jd,pf h xS];simp[Instr.makeFunc]) k
end
end Go.K
namespace Go.K
def cO {α:Type} (A:RT α) (M:aD) (w:World) (v:Value) (x:α):Prop:=∃b o vs,v= .pointer (some ⟨b,o,none⟩)∧¬M b∧A.R M w x vs∧w.rangeAt b o vs
theorem cO.le {α:Type} {A:RT α} (hn:0<A.n) {M M':aD} {w w':World} {v:Value} {x:α} (hl:Le M w M' w') (h:cO A M w v x):cO A M' w' v x:=by
 obtain⟨b,o,vs,h1,h2,h3,h4⟩:=h;have hp:0<vs.length:=by rw[A.len h3];exact hn
 have hc:=h4 0 (vs[0]'hp) (List.getElem?_eq_getElem hp);exact⟨b,o,vs,h1,(hl b (World.block_lt_of_cell? w _ hc) h2).1,A.le hl h3,tn hl h2 h4⟩
structure Part {α β:Type} (A:RT α) (B:RT β) (f:α→β) (off:Nat):Prop where
 get:∀{M w x vs},A.R M w x vs→∃a b c,vs=a++b++c∧a.length=off∧B.R M w (f x) b
theorem Part.fst {α β:Type} (A:RT α) (B:RT β):Part (A.pair B) A Prod.fst 0:=⟨fun {_ _ _ _} ⟨va,vb,h0,h1,_⟩=>⟨[],va,vb,by simpa using h0,rfl,h1⟩⟩
theorem Part.snd {α β:Type} (A:RT α) (B:RT β):Part (A.pair B) B Prod.snd A.n:=⟨fun {_ _ _ _} ⟨va,vb,h0,h1,h2⟩=>⟨va,vb,[],by simpa using h0,A.len h1,h2⟩⟩
theorem Part.trans {α β γ:Type} {A:RT α} {B:RT β} {C:RT γ} {f:α→β} {g:β→γ} {i j:Nat} (h:Part A B f i) (h':Part B C g j):Part A C (g∘f) (i+j):=
 ⟨fun {_ _ _ _} hx=>by
  obtain⟨a,b,c,h1,h2,h3⟩:=h.get hx;obtain⟨a',b',c',h4,h5,h6⟩:=h'.get h3;exact⟨a++a',b',c'++c,by rw[h1,h4];simp,by rw[List.length_append,h2,h5],h6⟩⟩
theorem cO.part {α β:Type} {A:RT α} {B:RT β} {f:α→β} {off:Nat} (hp:Part A B f off) {M:aD} {w:World} {b o:Nat} {x:α} {vs:List Value} (hm: ¬M b) (hx:A.R M w x vs) (hr:w.rangeAt b o vs):
  cO B M w (.pointer (some ⟨b,o+off,none⟩)) (f x):=by
 obtain⟨a,c,e,h1,h2,h3⟩:=hp.get hx;refine⟨b,o+off,c,rfl,hm,h3,fun j v hv=>?_⟩;have hj:j<c.length:=(List.getElem?_eq_some_iff.1 hv).1
 have:=hr (off+j) v (by
  rw[h1,List.append_assoc,List.getElem?_append_right (by omega),h2,List.getElem?_append_left (by omega)];rw[show off+j-off=j from by omega];exact hv)
 rwa [show o+(off+j)=o+off+j from by omega]at this
def flat:TypeDesc→Bool
 |.struct _| .array _ _=>false
 |_=>true
theorem ue {P:Program} {w:World} {t:TypeId} {u:TypeDesc} (hu:P.underlying t=some u) (hf:flat u=true) {b o:Nat} {v:Value} (hc:w.cell? ⟨b,o,none⟩=some v):
  (Instr.loadAt t (.pointer (some ⟨b,o,none⟩))).run P w= .ok v w:=by
 have Gp:(isAgg t).run P w= .ok false w:=by
  unfold isAgg;rw[Sem.run_bind,run_underlying hu w]
  cases u<;>simp_all [flat,Result.andThen]
 simp[Instr.loadAt,Instr.sureAddr,loadVar,Gp,load,Sem.run,hc]
theorem nR {P:Program} {w:World} {t:TypeId} {z:Value} {bytes:Nat} (ht:TI P t z 1 bytes) {b o:Nat} {v:Value} (h1:v.oneCell'=true) (hc:(w.cell? ⟨b,o,none⟩).isSome=true) (hf:w.frozen? ⟨b,o,none⟩=false):
  (Instr.storeAt t (.pointer (some ⟨b,o,none⟩)) v).run P w= .ok () (w.setCell ⟨b,o,none⟩ v):=by
 obtain⟨u,hu⟩:=Option.isSome_iff_exists.1 hc;have hv:v.cells= #[v]:=by cases v<;>simp_all [Value.oneCell',Value.cells]
 simp only[Instr.storeAt,Instr.sureAddr,storeVar,Sem.run_bind,Sem.run_pure,Result.andThen_ok,ht.sizeOf,hv];simp only[List.size_toArray,List.length_cons,List.length_nil,ne_eq,not_true_eq_false,if_false,storeCells,Addr.add_mid]
 cases v<;>simp_all [store,Sem.run,Value.oneCell']
section
variable {P:Program} {r:Option Nat} {n:Nat} {L:Sl} {ds:List Deferred} {w:World} {K:Kt} {ops:Array Oper} {rest:List Oper}
variable {d:Nat} {ty:TypeId} {pos:String} {af:Array Edge} {x y z:Operand} {α:Type} {A:RT α}
theorem Rg.idx {t e:TypeId} {i:Operand} {κ:IntKind} {j:Int} {hn:0<A.n} {M M1:aD} {w1:World} {xs:List α} {v zv:Value} {bytes:Nat} (ht:P.underlying t=some (.slice e)) (hi:TI P e zv A.n bytes)
  (hx:ev L x=some v) (Gq:ev L i=some (.int κ j)) (hd:Nat.blt d n=true) (hv:(A.sl hn).V M1 w1 xs v) (hle:Le M1 w1 M w) (hj:0≤j∧j<xs.length)
  (k:∀u a,xs[j.toNat]? =some a→cO A M w u a→Rg P r n ops rest ((d,u)::L) ds w K):
  Rg P r n ops ({dst:=some d,op:= .indexAddr t x i,type:=ty,pos,after:=af,guard:=none}::rest) L ds w K:=by
 obtain⟨a,cap,rfl,hc,hl,hs⟩:=iz.1 (hv.le hle);have dY:j.toNat<xs.length:=by omega
 rcases hs with rfl|⟨b,o,rfl,hm,DF⟩
 ·simp at dY
 ·obtain⟨vs,h1,h2⟩:=DF _ _ (List.getElem?_eq_getElem dY);refine .op (fun _ h=>by cases h) rfl rfl hd (.pointer (some ⟨b,o+j.toNat*A.n,none⟩)) w (fun ρ h=>?_) (k _ xs[j.toNat] (List.getElem?_eq_getElem dY) ⟨b,_,vs,rfl,hm,h1,h2⟩);simp only[execOp,h x _ hx,h i _ Gq];simp[Instr.indexAt,run_underlying ht,asIntOf,hj,hi.sizeOf,Addr.add_mid]
theorem Rg.load {t:TypeId} {u:TypeDesc} {M M1:aD} {w1:World} {p:Value} {a:α} (hu:P.underlying t=some u) (hf:flat u=true) (hA:A.n=1) (hg:A.agg=false)
  (hx:ev L x=some p) (hd:Nat.blt d n=true) (hp:cO A M1 w1 p a) (hle:Le M1 w1 M w) (k:∀v,A.V M w a v→Rg P r n ops rest ((d,v)::L) ds w K):
  Rg P r n ops ({dst:=some d,op:= .load t x,type:=ty,pos,after:=af,guard:=none}::rest) L ds w K:=by
 obtain⟨b,o,vs,rfl,hm,h1,h2⟩:=hp.le (by omega) hle;have hl:=A.len h1
 match vs,hl with
 |[v],_=>
  refine .op (fun _ h=>by cases h) rfl rfl hd v w (fun ρ h=>?_) (k v ⟨[v],h1,by simp[RT.val,hg]⟩);simp only[execOp,h x _ hx];have:=ue (P:=P) hu hf (h2 0 v rfl);simp only[Nat.add_zero]at this;rw[Sem.run_bind,this];simp
 |[],hl=>simp at hl;omega
 |_::_::_,hl=>simp at hl;omega
theorem Rg.Qa {t:TypeId} {κ:IntKind} {M1:aD} {w1:World} {p:Value} {a:Int} (hu:P.underlying t=some (.int κ)) (hx:ev L x=some p) (hd:Nat.blt d n=true) {M:aD} (hp:cO (RT.int κ) M1 w1 p a)
  (hle:Le M1 w1 M w) (k:κ.min≤a→a≤κ.max→Rg P r n ops rest ((d,.int κ a)::L) ds w K):
  Rg P r n ops ({dst:=some d,op:= .load t x,type:=ty,pos,after:=af,guard:=none}::rest) L ds w K:=
 .load hu rfl rfl rfl hx hd hp hle fun v hv=>by obtain⟨rfl,h1,h2⟩:=yD.1 hv;exact k h1 h2
theorem jE {hn:0<A.n} {M:aD} {w:World} {xs:List α} {v:Value} (h:(A.sl hn).V M w xs v):v.cells= #[v]:=by
 obtain⟨a,cap,rfl,_⟩:=iz.1 h;rfl
theorem gv {M:aD} {w:World} {x:Int} (h: -9223372036854775808≤x∧x≤9223372036854775807):(RT.int .i64).V M w x (.int .i64 x):=yD.2 ⟨rfl,h.1,h.2⟩
theorem Rg.cN {t:TypeId} {M1:aD} {w1:World} {p:Value} {a:Int} (hu:P.underlying t=some (.int .i64)) (hx:ev L x=some p) (hd:Nat.blt d n=true) {M:aD} (hp:cO (RT.int .i64) M1 w1 p a)
  (hle:Le M1 w1 M w) (k: -9223372036854775808≤a∧a≤9223372036854775807→Rg P r n ops rest ((d,.int .i64 a)::L) ds w K):
  Rg P r n ops ({dst:=some d,op:= .load t x,type:=ty,pos,after:=af,guard:=none}::rest) L ds w K:=
 .Qa hu hx hd hp hle fun h1 h2=>k ⟨h1,h2⟩
theorem B9 {hn:0<(RT.int .i64).n} {M:aD} {w:World} {xs:List Int} {v:Value} (h:((RT.int .i64).sl hn).V M w xs v) {i:Nat} {x:Int} (hx:xs[i]? =some x): -9223372036854775808≤x∧x≤9223372036854775807:=by
 obtain⟨a,cap,_,_,_,hs⟩:=iz.1 h;rcases hs with rfl|⟨b,o,_,_,DF⟩
 ·simp at hx
 ·obtain⟨vs,h1,_⟩:=DF i x hx;exact⟨h1.2.1,h1.2.2⟩
theorem Rg.Uu {t:TypeId} {M1:aD} {w1:World} {p:Value} {a:UInt8} (hu:P.underlying t=some (.int .u8)) (hx:ev L x=some p) (hd:Nat.blt d n=true) {M:aD} (hp:cO RT.u8 M1 w1 p a)
  (hle:Le M1 w1 M w) (k:Rg P r n ops rest ((d,.int .u8 a.toNat)::L) ds w K):
  Rg P r n ops ({dst:=some d,op:= .load t x,type:=ty,pos,after:=af,guard:=none}::rest) L ds w K:=
 .load hu rfl rfl rfl hx hd hp hle fun v hv=>by rw[Us.1 hv];exact k
theorem Rg.dM {t:TypeId} {fs:TypeDesc} {zv:Value} {bytes:Nat} {M M1:aD} {w1:World} {p:Value} {a:α} (hu:P.underlying t=some fs) (hf:fs.isRow=true) (hi:TI P t zv A.n bytes) (hA:0<A.n) (hg:A.agg=true)
  (hx:ev L x=some p) (hd:Nat.blt d n=true) (hp:cO A M1 w1 p a) (hle:Le M1 w1 M w) (k:∀v,A.V M w a v→Rg P r n ops rest ((d,v)::L) ds w K):
  Rg P r n ops ({dst:=some d,op:= .load t x,type:=ty,pos,after:=af,guard:=none}::rest) L ds w K:=by
 obtain⟨b,o,vs,rfl,hm,h1,h2⟩:=hp.le hA hle;refine .op (fun _ h=>by cases h) rfl rfl hd (.agg vs.toArray) w (fun ρ h=>?_) (k _ ⟨vs,h1,by simp[RT.val,hg]⟩);simp only[execOp,h x _ hx];obtain⟨i,yi,_,AG,_⟩:=hi.get;have:=run_loadAt_mid (P:=P) w b o t vs fs h2 hu hf (by simp[yi,AG,A.len h1]);simp[this]
theorem Rg.fieldAddr {β:Type} {B:RT β} {f:α→β} {off:Nat} {s:TypeId} {fs:Array Field} {fd:Field} {j:Nat} {zv:Value} {bytes:Nat} {M M1:aD} {w1:World} {p:Value} {a:α}
  (hu:P.underlying s=some (.struct fs)) (Ll:fs[j]? =some fd) (ho:fd.offset=off) (hi:TI P fd.type zv B.n bytes) (hB:0<B.n) (hp:Part A B f off)
  (hx:ev L x=some p) (hd:Nat.blt d n=true) (hA:0<A.n) (Yz:cO A M1 w1 p a) (hle:Le M1 w1 M w) (k:∀u,cO B M w u (f a)→Rg P r n ops rest ((d,u)::L) ds w K):
  Rg P r n ops ({dst:=some d,op:= .fieldAddr s x j,type:=ty,pos,after:=af,guard:=none}::rest) L ds w K:=by
 obtain⟨b,o,vs,rfl,hm,h1,h2⟩:=Yz.le hA hle;refine .op (fun _ h=>by cases h) rfl rfl hd _ w (fun ρ h=>?_) (k _ (cO.part hp hm h1 h2));simp only[execOp,h x _ hx];simp[Instr.fieldAt,run_underlying hu,Ll,Instr.sureAddr,fieldPlace,hi.sizeOf,show B.n≠0 from by omega,ho,Addr.add_mid]
theorem vR.slice {M:aD} {w:World} {a:Option Addr} {xs:List α} (lo hi cap m:Nat) (h1:lo≤hi) (h2:hi≤xs.length) (hm:hi≤m) (hs:vR A M w a xs):
  vR A M w (if m=lo then a else a.map (·.add (lo*A.n))) ((xs.take hi).drop lo):=by
 by_cases qy:m=lo
 ·left;apply List.drop_eq_nil_of_le;rw[List.length_take];omega
 ·rw[if_neg qy];rcases hs with rfl|⟨b,o,rfl,h3,h4⟩
  ·left;simp
  ·right;refine⟨b,o+lo*A.n,by simp[Addr.add_mid],h3,fun i x hx=>?_⟩;rw[List.getElem?_drop,List.getElem?_take]at hx
   split at hx
   ·obtain⟨vs,h5,h6⟩:=h4 _ _ hx;refine⟨vs,h5,?_⟩;rw[show o+lo*A.n+i*A.n=o+(lo+i)*A.n from by rw[Nat.add_mul];omega];exact h6
   ·cases hx
theorem jg {t e:TypeId} (ht:P.underlying t=some (.slice e)):P.underlying t=some (.slice (P.elem t)):=by simp[Program.elem,ht]
theorem pg {t e:TypeId} (ht:P.underlying t=some (.slice e)):P.elem t=e:=by simp[Program.elem,ht]
theorem Rg.Ln {t e:TypeId} {l h:Operand} {κ κ':IntKind} {lo hi:Int} {hn:0<A.n} {M:aD} {w1:World} {xs:List α} {v zv:Value} {bytes:Nat} (ht:P.underlying t=some (.slice e)) (Ca:TI P e zv A.n bytes)
  (hx:ev L x=some v) (hl:ev L l=some (.int κ lo)) (hh:ev L h=some (.int κ' hi)) (hd:Nat.blt d n=true) (hv:(A.sl hn).V M w1 xs v) (hb:0≤lo∧lo≤hi∧hi≤xs.length)
  (k:∀u,(A.sl hn).V M w1 ((xs.take hi.toNat).drop lo.toNat) u→Rg P r n ops rest ((d,u)::L) ds w K):
  Rg P r n ops ({dst:=some d,op:= .slice t x (some l) (some h) none,type:=ty,pos,after:=af,guard:=none}::rest) L ds w K:=by
 obtain⟨a,cap,rfl,hc,hlen,hs⟩:=iz.1 hv;have yE:((xs.take hi.toNat).drop lo.toNat).length=hi.toNat-lo.toNat:=by rw[List.length_drop,List.length_take];omega
 refine .op (fun _ h=>by cases h) rfl rfl hd (sliced a lo.toNat hi.toNat cap A.n) w (fun ρ hρ=>?_) (k _ (iz.2 ⟨_,cap-lo.toNat,?_,by omega,by omega,hs.slice lo.toNat hi.toNat cap cap (by omega) (by omega) (by omega)⟩))
 ·simp only[execOp,hρ x _ hx,Option.map_some,Option.map_none,hρ l _ hl,hρ h _ hh];rw[Sem.run_bind,run_sliceAt_slice _ _ _ _ _ _ (jg ht),run_slice_lh _ _ _ _ _ (jg ht) _ _ _ _ hb.1 hb.2.1 (by omega),pg ht,Ca.sizeOf];simp
 ·rw[yE];rfl
theorem Rg.Cb {t e:TypeId} {h:Operand} {κ':IntKind} {hi:Int} {hn:0<A.n} {M:aD} {w1:World} {xs:List α} {v zv:Value} {bytes:Nat} (ht:P.underlying t=some (.slice e)) (Ca:TI P e zv A.n bytes)
  (hx:ev L x=some v) (hh:ev L h=some (.int κ' hi)) (hd:Nat.blt d n=true) (hv:(A.sl hn).V M w1 xs v) (hb:0≤hi∧hi≤xs.length)
  (k:∀u,(A.sl hn).V M w1 (xs.take hi.toNat) u→Rg P r n ops rest ((d,u)::L) ds w K):
  Rg P r n ops ({dst:=some d,op:= .slice t x none (some h) none,type:=ty,pos,after:=af,guard:=none}::rest) L ds w K:=by
 obtain⟨a,cap,rfl,hc,hlen,hs⟩:=iz.1 hv;have yE:(xs.take hi.toNat).length=hi.toNat:=by rw[List.length_take];omega
 have Gr:=hs.slice (A:=A) 0 hi.toNat cap cap (by omega) (by omega) (by omega);rw[List.drop_zero]at Gr;refine .op (fun _ h=>by cases h) rfl rfl hd (sliced a 0 hi.toNat cap A.n) w (fun ρ hρ=>?_) (k _ (iz.2 ⟨_,cap,?_,by omega,by omega,Gr⟩))
 ·simp only[execOp,hρ x _ hx,Option.map_some,Option.map_none,hρ h _ hh];rw[Sem.run_bind,run_sliceAt_slice _ _ _ _ _ _ (jg ht),run_slice_h _ _ _ _ _ (jg ht) _ _ hb.1 (by omega),pg ht,Ca.sizeOf];simp
 ·rw[yE];simp[sliced]
theorem Rg.Qb {t e:TypeId} {l:Operand} {κ:IntKind} {lo:Int} {hn:0<A.n} {M:aD} {w1:World} {xs:List α} {v zv:Value} {bytes:Nat} (ht:P.underlying t=some (.slice e)) (Ca:TI P e zv A.n bytes)
  (hx:ev L x=some v) (hl:ev L l=some (.int κ lo)) (hd:Nat.blt d n=true) (hv:(A.sl hn).V M w1 xs v) (hb:0≤lo∧lo≤xs.length)
  (k:∀u,(A.sl hn).V M w1 (xs.drop lo.toNat) u→Rg P r n ops rest ((d,u)::L) ds w K):
  Rg P r n ops ({dst:=some d,op:= .slice t x (some l) none none,type:=ty,pos,after:=af,guard:=none}::rest) L ds w K:=by
 obtain⟨a,cap,rfl,hc,hlen,hs⟩:=iz.1 hv;have yE:(xs.drop lo.toNat).length=xs.length-lo.toNat:=by rw[List.length_drop]
 have Gr:=hs.slice (A:=A) lo.toNat xs.length cap cap (by omega) (by omega) (by omega);rw[List.take_length]at Gr;refine .op (fun _ h=>by cases h) rfl rfl hd (sliced a lo.toNat xs.length cap A.n) w (fun ρ hρ=>?_) (k _ (iz.2 ⟨_,cap-lo.toNat,?_,by omega,by omega,Gr⟩))
 ·simp only[execOp,hρ x _ hx,Option.map_some,Option.map_none,hρ l _ hl];rw[Sem.run_bind,run_sliceAt_slice _ _ _ _ _ _ (jg ht),run_slice_l _ _ _ _ _ (jg ht) _ _ hb.1 (by omega),pg ht,Ca.sizeOf];simp
 ·rw[yE];rfl
theorem Rg.Gt {t e:TypeId} {h m:Operand} {κ κ':IntKind} {hi mx:Int} {hn:0<A.n} {M:aD} {w1:World} {xs:List α} {v zv:Value} {bytes:Nat} (ht:P.underlying t=some (.slice e)) (Ca:TI P e zv A.n bytes)
  (hx:ev L x=some v) (hh:ev L h=some (.int κ hi)) (hm:ev L m=some (.int κ' mx)) (hd:Nat.blt d n=true) (hv:(A.sl hn).V M w1 xs v) (hb:hi=xs.length∧mx=xs.length)
  (k:∀a,(A.sl hn).V M w1 xs (.slice a xs.length xs.length)→(a=none→xs=[])→Rg P r n ops rest ((d,.slice a xs.length xs.length)::L) ds w K):
  Rg P r n ops ({dst:=some d,op:= .slice t x none (some h) (some m),type:=ty,pos,after:=af,guard:=none}::rest) L ds w K:=by
 obtain⟨a,cap,rfl,hc,hlen,hs⟩:=iz.1 hv;obtain⟨rfl,rfl⟩:=hb;refine .op (fun _ h=>by cases h) rfl rfl hd (.slice a xs.length xs.length) w (fun ρ hρ=>?_) (k a (iz.2 ⟨_,xs.length,rfl,Nat.le_refl _,hlen,hs⟩) ?_)
 ·simp only[execOp,hρ x _ hx,Option.map_some,Option.map_none,hρ h _ hh,hρ m _ hm];rw[Sem.run_bind,run_sliceAt_slice _ _ _ _ _ _ (jg ht),run_slice_hm _ _ _ _ _ (jg ht) _ _ _ _ (by omega) (by omega) (by omega),pg ht,Ca.sizeOf];simp only[Result.andThen_ok,sliced,Int.toNat_natCast,Nat.zero_mul,Nat.sub_zero,Sem.run_pure];by_cases h0:xs.length=0
  ·simp[h0]
  ·rw[if_neg h0];rcases hs with rfl|⟨b,o,rfl,_⟩
   ·simp at h0
   ·simp[Addr.add_mid]
 ·rintro rfl;rcases hs with h|⟨b,o,h,_⟩
  ·exact h
  ·cases h
theorem cj (w:World) (o:Obj):(w.alloc o).heap[w.heap.size]? =some o:=heap_alloc_new w o
theorem Rg.box {e:TypeId} {v:Value} (M:aD) (hx:ev L x=some v) (hd:Nat.blt d n=true)
  (k:∀b w',w.heap.size≤b→b<w'.heap.size→w'.heap[b]? =some (.cells v.cells e (0,0))→Step M w (ins M b) w' aC→Rg P r n ops rest ((d,.pointer (some ⟨b,0,none⟩))::L) ds w' K):
  Rg P r n ops ({dst:=some d,op:= .box e x,type:=ty,pos,after:=af,guard:=none}::rest) L ds w K:=by
 refine .op (fun _ h=>by cases h) rfl rfl hd _ (w.alloc (.cells v.cells e)) (fun ρ hρ=>?_) (k w.heap.size _ (Nat.le_refl _) (by simp) (cj w _) ((cW M w _).own (Nat.le_refl _) (by simp)));simp only[execOp,hρ x _ hx];simp[Instr.box,newVar,newRow,newObj,Sem.run]
theorem Rg.alloc {e:TypeId} {zv:Value} {size bytes:Nat} (M:aD) (hi:TI P e zv size bytes) (hd:Nat.blt d n=true)
  (k:∀b w',w.heap.size≤b→b<w'.heap.size→w'.heap[b]? =some (.cells zv.cells e (0,0))→Step M w (ins M b) w' aC→Rg P r n ops rest ((d,.pointer (some ⟨b,0,none⟩))::L) ds w' K):
  Rg P r n ops ({dst:=some d,op:= .alloc e,type:=ty,pos,after:=af,guard:=none}::rest) L ds w K:=by
 obtain⟨i,h1,h2,h3,h4⟩:=hi.get;refine .op (fun _ h=>by cases h) rfl rfl hd _ (w.alloc (.cells zv.cells e)) (fun ρ hρ=>?_) (k w.heap.size _ (Nat.le_refl _) (by simp) (cj w _) ((cW M w _).own (Nat.le_refl _) (by simp)));simp only[execOp];simp[Instr.alloc,zeroValue,typeInfo,h1,h2,newVar,newRow,newObj,Sem.run]
theorem fG {b o:Nat} {cs:Array Value} {e:TypeId} {fr:Nat×Nat} {v:Value} (hb:w.heap[b]? =some (.cells cs e fr)) (hv:cs[o]? =some v):w.cell? ⟨b,o,none⟩=some v:=by
 simp[World.cell?,hb,hv]
theorem Rg.bR {t:TypeId} {u:TypeDesc} {b o:Nat} {cs:Array Value} {e:TypeId} {fr:Nat×Nat} {v:Value} (hu:P.underlying t=some u) (hf:flat u=true) (hx:ev L x=some (.pointer (some ⟨b,o,none⟩))) (hd:Nat.blt d n=true)
  (hb:w.heap[b]? =some (.cells cs e fr)) (hv:cs[o]? =some v) (k:Rg P r n ops rest ((d,v)::L) ds w K):
  Rg P r n ops ({dst:=some d,op:= .load t x,type:=ty,pos,after:=af,guard:=none}::rest) L ds w K:=
 .op (fun _ h=>by cases h) rfl rfl hd v w (fun ρ hρ=>by
  simp only[execOp,hρ x _ hx];rw[Sem.run_bind,ue (P:=P) hu hf (fG hb hv)];simp) k
theorem yF {b o:Nat} {cs:Array Value} {e:TypeId} {fr:Nat×Nat} {v:Value} (hb:w.heap[b]? =some (.cells cs e fr)):(w.setCell ⟨b,o,none⟩ v).heap[b]? =some (.cells (cs.setIfInBounds o v) e fr):=by
 simp[World.setCell,Array.getElem?_modify,hb]
theorem ug (M:aD) {b o:Nat} {v:Value} (hm:M b):Step M w M (w.setCell ⟨b,o,none⟩ v) (fun k=>k=b):=
 ⟨fun h b hb=>by simpa[World.setCell]using h b hb,rfl,rfl,rfl,by simp[World.setCell],fun _ _=>Iff.rfl,fun k _ hn=>Go.RowKit.Below.heap_setCell w _ v k hn,fun k hk=>by subst hk;exact hm⟩
theorem Rg.dv {t:TypeId} {zv:Value} {bytes:Nat} {b o:Nat} {cs:Array Value} {e:TypeId} {u v:Value} {M:aD} (hi:TI P t zv 1 bytes) (hx:ev L x=some (.pointer (some ⟨b,o,none⟩))) (hy:ev L y=some v)
  (hb:w.heap[b]? =some (.cells cs e (0,0))) (hv:cs[o]? =some u) (h1:v.oneCell'=true) (hm:M b)
  (k:∀w',w'.heap[b]? =some (.cells (cs.setIfInBounds o v) e (0,0))→Step M w M w' (fun k=>k=b)→Rg P r n ops rest L ds w' K):
  Rg P r n ops ({dst:=none,op:= .store t x y,type:=ty,pos,after:=af,guard:=none}::rest) L ds w K:=by
 refine .Sj (fun _ h=>by cases h) rfl rfl (w.setCell ⟨b,o,none⟩ v) (fun ρ hρ=>?_) (k _ (yF hb) (ug M hm));simp only[execOp,hρ x _ hx,hρ y _ hy];have:=nR (P:=P) hi (w:=w) (b:=b) (o:=o) h1 (by rw[fG hb hv];rfl) (by simp[World.frozen?,hb]);simp[this]
theorem DG (size:Nat) (zs vs:Array Value) (v:Value) (hz:zs.size=size) (hv:v.cells=vs) (hs:vs.size=size):Instr.fill (fun i=>some (i*size,size)) zs [(0,v)]=some vs:=by
 simp only[Instr.fill,hv,hs,Nat.zero_mul,Nat.zero_add,hz];simp only[ne_eq,not_true_eq_false,decide_false,Bool.false_or,Nat.lt_irrefl,decide_false,gt_iff_lt,if_false,Bool.false_eq_true];congr 1
 have key:∀(l:List Value) (k:Nat) (cs:Array Value),k+l.length=cs.size→∀j:Nat,((l.zipIdx k).foldl (fun(cs:Array Value) (x:Value×Nat)=>cs.setIfInBounds x.2 x.1) cs)[j]? =if j<k then cs[j]? else l[j-k]? :=by
  intro l
  induction l with
  |nil=>
   intro k cs hk j;simp at hk ⊢;intro h;omega
  |cons a l ih=>
   intro k cs hk j;simp only[List.zipIdx_cons,List.foldl_cons];rw[ih (k+1) _ (by simp at hk ⊢;omega) j];rw[Array.getElem?_setIfInBounds];simp at hk;by_cases h1:j<k
   ·rw[if_pos (by omega),if_pos h1,if_neg (by omega)]
   ·by_cases h2:j=k
    ·subst h2;rw[if_pos (by omega),if_pos rfl,if_neg h1];simp;omega
    ·rw[if_neg (by omega),if_neg h1,show j-k=(j-(k+1))+1 from by omega];simp
 apply Array.ext_getElem?;intro j;have:=key vs.toList 0 zs (by simp[hs,hz]) j;simp only[Nat.not_lt_zero,if_false,Nat.sub_zero,Array.getElem?_toList]at this;rw[←this];rw[←Array.foldl_toList];simp[Array.toList_zipIdx]
theorem Rg.lV {t e:TypeId} {zv v:Value} {bytes:Nat} {hn:0<A.n} {M:aD} {a:α} (ht:P.underlying t=some (.slice e)) (hi:TI P e zv A.n bytes) (Cc:A.n≤1000) (hx:ev L x=some v) (hd:Nat.blt d n=true) (hm:Lt M w)
  (hv:A.V M w a v) (Du:A.agg=true∨A.n=1∧A.agg=false) (k:∀u w',(A.sl hn).V M w' [a] u→Step M w M w' aC→Rg P r n ops rest ((d,u)::L) ds w' K):
  Rg P r n ops ({dst:=some d,op:= .buildSlice t 1 #[(0,x)],type:=ty,pos,after:=af,guard:=none}::rest) L ds w K:=by
 obtain⟨vs,h1,h2⟩:=hv;have hl:=A.len h1;have tp:=A.one h1
 have hc:v.cells=vs.toArray:=by
  subst h2;rcases Du with hg|⟨h3,hg⟩
  ·simp[RT.val,hg,Value.cells]
  ·match vs,hl,h3 with
   |[u],_,_=>
    have:=tp u (by simp);simp only[RT.val,hg,List.headD_cons]
    cases u<;>simp_all [Value.cells,Value.oneCell']
   |[],hl,h3=>simp at hl;omega
   |_::_::_,hl,h3=>simp at hl;omega
 obtain⟨i,yi,AG,hi3,YA⟩:=hi.get;have hs:=cW M w (.cells vs.toArray e)
 refine .op (fun _ h=>by cases h) rfl rfl hd (.slice (some ⟨w.heap.size,0,none⟩) 1 1) (w.alloc (.cells vs.toArray e)) (fun ρ hρ=>?_)
  (k _ _ (iz.2 ⟨_,1,rfl,Nat.le_refl _,by simp,.inr ⟨w.heap.size,0,rfl,fun h=>by have:=hm _ h;omega,fun i x hx=>?_⟩⟩) hs)
 ·simp only[execOp,List.map_toArray,List.map_cons,List.map_nil,hρ x _ hx];simp only[Instr.buildSlice,Sem.run_bind,run_underlying ht,Result.andThen_ok,hi.sizeOf,Nat.one_mul];rw[if_neg (by omega),if_neg (by omega)];simp only[Sem.run_bind,zeroValue,typeInfo,program,Sem.run,yi,AG,Result.andThen_ok,Sem.run_pure];rw[DG A.n _ vs.toArray v (by simp) hc (by simpa using hl)];simp[newRow,newObj,Sem.run]
 ·cases i with
  |zero=>
   simp at hx;subst hx;refine⟨vs,A.le hs.le h1,fun j u hu=>?_⟩;exact fG (cj w _) (by simpa using hu)
  |succ i=>simp at hx
theorem Bf (size:Nat) (zs:Array Value) (i:Nat) (v:Value) (vs:List Value) (rest:List (Nat×Value)) (hv:v.cells=vs.toArray) (hs:vs.length=size) (hz:i*size+size≤zs.size):
  ∃Qd,Instr.fill (fun i=>some (i*size,size)) zs ((i,v)::rest)=Instr.fill (fun i=>some (i*size,size)) Qd rest∧Qd.size=zs.size∧
   ∀j,Qd[j]? =if i*size≤j∧j<i*size+size then vs[j-i*size]? else zs[j]? :=by
 have key:∀(l:List Value) (k o:Nat) (cs:Array Value),o+k+l.length≤cs.size→((l.zipIdx k).foldl (fun(cs:Array Value) (x:Value×Nat)=>cs.setIfInBounds (o+x.2) x.1) cs).size=cs.size∧
   ∀j:Nat,((l.zipIdx k).foldl (fun(cs:Array Value) (x:Value×Nat)=>cs.setIfInBounds (o+x.2) x.1) cs)[j]? =if o+k≤j∧j<o+k+l.length then l[j-(o+k)]? else cs[j]? :=by
  intro l
  induction l with
  |nil=>
   intro k o cs hk;refine⟨rfl,fun j=>?_⟩;simp;intro h1 h2;omega
  |cons a l ih=>
   intro k o cs hk;simp only[List.zipIdx_cons,List.foldl_cons];simp only[List.length_cons]at hk;obtain⟨h1,h2⟩:=ih (k+1) o (cs.setIfInBounds (o+k) a) (by simp;omega);refine⟨by rw[h1];simp,fun j=>?_⟩;rw[h2 j,Array.getElem?_setIfInBounds,List.length_cons];by_cases h3:o+(k+1)≤j∧j<o+(k+1)+l.length
   ·rw[if_pos h3,if_pos (by omega),show j-(o+k)=(j-(o+(k+1)))+1 from by omega];simp
   ·rw[if_neg h3];by_cases h4:o+k=j
    ·subst h4;rw[if_pos rfl,if_pos (by omega),if_pos (by omega)];simp
    ·rw[if_neg h4,if_neg (by omega)]
 obtain⟨k1,k2⟩:=key vs 0 (i*size) zs (by omega);refine⟨_,?_,k1,fun j=>?_⟩
 ·conv=>lhs;rw[Instr.fill]
  simp only[hv,hs];simp[hs,show¬(zs.size<i*size+size) by omega]
 ·rw[k2 j,Nat.add_zero,hs]
def Uv {α:Type} (A:RT α) (M:aD) (w:World) (L:List (Nat×Value)):Nat→List (Nat×Operand)→List α→Prop
 |_,[],xs=>xs=[]
 |i,p::ps,xs=>∃a aa v,xs=a::aa∧p.1=i∧ev L p.2=some v∧A.V M w a v∧Uv A M w L (i+1) ps aa
theorem Lo {α:Type} {A:RT α} {M:aD} {w:World} {a:α} {vs:List Value} (h1:A.R M w a vs) (Du:A.agg=true∨A.n=1∧A.agg=false):(A.val vs).cells=vs.toArray:=by
 have hl:=A.len h1;have tp:=A.one h1;rcases Du with hg|⟨h3,hg⟩
 ·simp[RT.val,hg,Value.cells]
 ·match vs,hl,h3 with
  |[u],_,_=>
   have:=tp u (by simp);simp only[RT.val,hg,List.headD_cons]
   cases u<;>simp_all [Value.cells,Value.oneCell']
  |[],hl,h3=>simp at hl;omega
  |_::_::_,hl,h3=>simp at hl;omega
theorem DH {α:Type} {A:RT α} {M:aD} {w:World} {L:List (Nat×Value)} (Du:A.agg=true∨A.n=1∧A.agg=false):∀(ps:List (Nat×Operand)) (i:Nat) (xs:List α) (zs:Array Value),
  Uv A M w L i ps xs→zs.size=(i+xs.length)*A.n→
  ∃(hU:List (Nat×Value)) (C:List Value) (Qd:Array Value),(∀ρ:Operand→Value,(∀x v,ev L x=some v→ρ x=v)→ps.map (fun p=>(p.1,ρ p.2))=hU)∧eg A M w xs C∧Instr.fill (fun i=>some (i*A.n,A.n)) zs hU=some Qd∧Qd.size=zs.size∧
   ∀j,Qd[j]? =if i*A.n≤j then C[j-i*A.n]? else zs[j]?
 |[],i,xs,zs,hp,hz=>by
  cases hp;refine⟨[],[],zs,fun ρ _=>rfl,rfl,rfl,rfl,fun j=>?_⟩
  split
  ·simp at hz ⊢;omega
  ·rfl
 |p::ps,i,xs,zs,hp,hz=>by
  obtain⟨a,aa,v,rfl,hpi,KY,hv,hr⟩:=hp;obtain⟨vs,h1,h2⟩:=hv;have hc:=Lo h1 Du;rw[←h2]at hc;have hl:=A.len h1;have hmul:(i+(a::aa).length)*A.n=i*A.n+A.n+aa.length*A.n:=by rw[List.length_cons,Nat.add_mul,Nat.add_mul];omega
  obtain⟨z1,e1,e2,e3⟩:=Bf A.n zs i v vs (ps.map fun _=>(0,undef)) hc hl (by rw[hz,hmul];omega);obtain⟨hU,C,z2,f1,f2,f3,f4,f5⟩:=DH Du ps (i+1) aa z1 hr (by rw[e2,hz,List.length_cons,show i+1+aa.length=i+(aa.length+1)from by omega]);obtain⟨z1',e1',e2',e3'⟩:=Bf A.n zs i v vs hU hc hl (by rw[hz,hmul];omega);have hzz:z1=z1':=Array.ext_getElem? fun j=>by rw[e3 j,e3' j]
  subst hzz;refine⟨(i,v)::hU,vs++C,z2,fun ρ hρ=>by rw[List.map_cons,f1 ρ hρ,hpi,hρ _ _ KY],⟨vs,C,rfl,h1,f2⟩,by rw[e1',f3],by rw[f4,e2],fun j=>?_⟩;rw[f5 j,e3 j,Nat.add_mul,Nat.one_mul];by_cases h3:i*A.n+A.n≤j
  ·rw[if_pos h3,if_pos (by omega),List.getElem?_append_right (by omega),hl,show j-i*A.n-A.n=j-(i*A.n+A.n)from by omega]
  ·rw[if_neg h3];by_cases h4:i*A.n≤j
   ·rw[if_pos (by omega),if_pos h4,List.getElem?_append_left (by omega)]
   ·rw[if_neg (by omega),if_neg h4]
theorem Rg.Sk {t e:TypeId} {zv:Value} {bytes nn:Nat} {ps:Array (Nat×Operand)} {hn:0<A.n} {M:aD} {xs:List α} (ht:P.underlying t=some (.slice e)) (hi:TI P e zv A.n bytes) (hz:zv.cells.size=A.n) (Cc:nn*A.n≤16777216) (X3:nn=xs.length) (ky:Uv A M w L 0 ps.toList xs) (hd:Nat.blt d n=true) (hm:Lt M w)
  (Du:A.agg=true∨A.n=1∧A.agg=false) (hnz:0<nn) (k:∀u w',(A.sl hn).V M w' xs u→Step M w M w' aC→Rg P r n ops rest ((d,u)::L) ds w' K):
  Rg P r n ops ({dst:=some d,op:= .buildSlice t nn ps,type:=ty,pos,after:=af,guard:=none}::rest) L ds w K:=by
 subst X3;obtain⟨i,yi,AG,hi3,YA⟩:=hi.get;obtain⟨hU,C,Qd,f1,f2,f3,f4,f5⟩:=DH Du ps.toList 0 xs (Array.map (fun x=>zv.cells[x%zv.cells.size]!) (Array.range (xs.length*A.n))) ky (by simp);have hzC:Qd=C.toArray:=Array.ext_getElem? fun j=>by rw[f5 j,Nat.zero_mul,if_pos (Nat.zero_le _),Nat.sub_zero];simp
 subst hzC;have hs:=cW M w (.cells C.toArray e);have ud:0<xs.length*A.n:=Nat.mul_pos hnz hn;have hlen:xs.length≤16777216:=Nat.le_trans (by have:=Nat.mul_le_mul_left xs.length hn;omega) Cc
 refine .op (fun _ h=>by cases h) rfl rfl hd (.slice (some ⟨w.heap.size,0,none⟩) xs.length xs.length) (w.alloc (.cells C.toArray e)) (fun ρ hρ=>?_)
  (k _ _ (iz.2 ⟨_,_,rfl,Nat.le_refl _,by omega,.inr ⟨w.heap.size,0,rfl,fun h=>by have:=hm _ h;omega,fun i x hx=>?_⟩⟩) hs)
 ·have hmp:(ps.map fun(i,x)=>(i,ρ x)).toList=hU:=by rw[Array.toList_map];exact f1 ρ hρ
  simp only[execOp];simp only[Instr.buildSlice,Sem.run_bind,run_underlying ht,Result.andThen_ok,hi.sizeOf];rw[if_neg (by omega),if_neg (by omega)];simp only[Sem.run_bind,zeroValue,typeInfo,program,Sem.run,yi,AG,Result.andThen_ok,Sem.run_pure];rw[hmp,f3];simp[newRow,newObj,Sem.run]
 ·obtain⟨us,h1,h2⟩:=(f2.le hs.le).at_ i x hx;exact⟨us,h1,fun j u hu=>by rw[Nat.zero_add];exact fG (cj w _) (by simpa using h2 j u hu)⟩
def jF (M:aD) (v:Value):aD:=fun k=>v.ownBlock=some k∨M k
def fD (v:Value):aD:=fun k=>v.ownBlock=some k
theorem yj {M:aD} {w':World} {v':Value} (hs:w.heap.size≤w'.heap.size) (hv:∀b,v'.ownBlock=some b→b<w'.heap.size) (h:Lt M w):Lt (jF M v') w':=fun b hb=>by
 rcases hb with hb|hb
 ·exact hv b hb
 ·exact Nat.lt_of_lt_of_le (h b hb) hs
theorem Gu {M:aD} {w':World} {v v':Value} (hg:w.grownBy w' v.ownBlock) (hm:∀b,v.ownBlock=some b→M b) (hv:∀b,v'.ownBlock=some b→w.heap.size≤b∨v.ownBlock=some b) (dY:∀b,v'.ownBlock=some b→b<w'.heap.size):
  Step M w (jF M v') w' (fD v):=
 ⟨yj hg.size dY,hg.os,hg.tape,hg.output,hg.size,fun b hb=>⟨fun h=>by
  rcases h with h|h
  ·rcases hv b h with h2|h2
   ·omega
   ·exact hm b h2
  ·exact h,fun h=> .inr h⟩,fun b hb hn=>hg.block b hb (fun h=>hn h.symm),fun b hb=>hm b hb⟩
theorem pX {t ty e:TypeId} {zv:Value} {size bytes:Nat} (ht:P.underlying t=some (.slice e)) (hi:TI P e zv size bytes) (a:Option Addr) (l cap c:Nat) (b:Option Addr) (hl:l≤cap):
  (Builtin.append_ #[t,t] ty #[.slice a l cap,.slice b 0 c]).run P w= .ok (.slice a l cap) w:=by
 obtain⟨i,h1,h2,h3,h4⟩:=hi.get
 cases a<;>cases b<;>simp[Builtin.append_,run_underlying ht,sizeOf,typeInfo,h1,Builtin.lenOf,hl,Builtin.firstCells,loadCells,loadCellsFrom,storeCells]
theorem Own.iC {t ty e:TypeId} {zv:Value} {bytes:Nat} {hn:0<A.n} {M M2:aD} {base:Nat} {v u:Value} {xs ys:List α} (ht:P.underlying t=some (.slice e)) (hi:TI P e zv A.n bytes) (hz:zv.cells.size=A.n)
  (h:Own A e M w base v xs) (hle:Le M2 w M w) (hu:(A.sl hn).V M2 w ys u) (hlen:xs.length+ys.length≤140737488355328) (hb:(xs.length+ys.length)*bytes≤140737488355328) (ly:base≤w.heap.size):
  ∃v' w',(Builtin.append_ #[t,t] ty #[v,u]).run P w= .ok v' w'∧Own A e (jF M v') w' base v' (xs++ys)∧Step M w (jF M v') w' (fD v)∧(∀b,v'.ownBlock=some b→w.heap.size≤b∨v.ownBlock=some b):=by
 obtain⟨a,c,rfl,hc,hl,hs⟩:=iz.1 hu;obtain⟨i,h1,h2,h3,h4⟩:=hi.get;have Lq:xs.length+ys.length≤maxLen:=by unfold maxLen;omega
 rcases hs with rfl|⟨b,o,rfl,hmb,DF⟩
 ·obtain⟨a',cap,rfl,YB⟩:=h.isSlice;refine⟨_,w,pX ht hi a' xs.length cap c a YB,?_,?_,fun b hb=> .inr hb⟩
  ·rw[List.append_nil];obtain⟨⟨C,hr,ha⟩,hm⟩:=h;have hs:Step M w (jF M (.slice a' xs.length cap)) w aC:=⟨yj (Nat.le_refl _) (fun b hb=>(hr.lt b hb).2),rfl,rfl,rfl,Nat.le_refl _,fun b _=>⟨fun h=>h.elim (hm b) id,fun h=> .inr h⟩,fun _ _ _=>rfl,fun _ h=>h.elim⟩;exact⟨⟨C,hr,ha.le hs.le⟩,fun b hb=> .inl hb⟩
  ·exact⟨yj (Nat.le_refl _) (fun b hb=>(h.base b hb).2),rfl,rfl,rfl,Nat.le_refl _,fun b _=>⟨fun h'=>h'.elim (h.mut_ b) id,fun h=> .inr h⟩,fun _ _ _=>rfl,fun b hb=>h.mut_ b hb⟩
 ·obtain⟨D,hD,hDr⟩:=vR.all DF;have Sm:=hD.length;have Bg:∀j u,D[j]? =some u→w.cell? ((⟨b,o,none⟩:Addr).add j)=some u:=fun j u hj=>by rw[Addr.add_mid];exact hDr j u hj
  have hD1:=hD.one;obtain⟨⟨C,hr,ha⟩,hm⟩:=h;have hr':=hr;obtain⟨Uw,mz⟩:=hr'
  have fin:∀v' w',w'.ownsRow base e A.n v' (xs.length+ys.length) (C++D)→w.grownBy w' v.ownBlock→(∀b,v'.ownBlock=some b→w.heap.size≤b∨v.ownBlock=some b)→
    Own A e (jF M v') w' base v' (xs++ys)∧Step M w (jF M v') w' (fD v):=by
   intro v' w' ho hg sr;have kM:=Gu (M:=M) hg hm sr (fun b hb=>(ho.lt b hb).2);refine⟨⟨⟨C++D,by rw[List.length_append];exact ho,?_⟩,fun b hb=> .inl hb⟩,kM⟩;exact eg.append (hD.le (hle.trans kM.le)) (ha.le kM.le)
  rcases mz with⟨rfl,hx0⟩|⟨g,cap,cur,rfl,Ux,hg,hnc,hcm,hcs,YC⟩
  ·have hx:xs=[]:=List.eq_nil_of_length_eq_zero hx0;subst hx;have hC:C=[]:=List.eq_nil_of_length_eq_zero (by simpa using Uw);subst hC
   obtain⟨v',w',gY,ho,yG,_⟩:=run_append_own (P:=P) w w.heap.size t ty e i zv A.n bytes ht h1 h2 h3 h4 hz hn (.slice none 0 0) 0 [] (World.ownsRow_nil w _ e A.n) ⟨b,o,none⟩ ys.length c D Sm Bg hD1
    (by simpa using Lq) (by simpa using hb) (Nat.le_refl _)
   obtain⟨q1,q2⟩:=fin v' w' (by
    obtain⟨p1,p2⟩:=ho;refine⟨by simpa using p1,p2.imp (fun h=>by simpa using h) ?_⟩;rintro⟨g,cap,cur,p3,p4,p5⟩;exact⟨g,cap,cur,by simpa using p3,Nat.le_trans ly p4,by simpa using p5⟩) yG (fun k hk=> .inl (ho.lt k hk).1)
   exact⟨v',w',gY,q1,q2,fun k hk=> .inl (ho.lt k hk).1⟩
  ·by_cases Lr:xs.length+ys.length≤cap
   ·have aeg:xs.length*A.n+D.length≤cur.size:=by rw[Sm,hcs,←Nat.add_mul];exact Nat.mul_le_mul_right _ Lr
    have gY:=run_append_room (P:=P) w t ty e i ht h1 g xs.length cap cur hg ⟨b,o,none⟩ ys.length c D (by rw[Sm,←h3]) Bg hD1 Lr (by rw[h3];exact aeg);rw[h3]at gY;have hCD:(C++D).length=(xs.length+ys.length)*A.n:=by rw[List.length_append,Uw,Sm,Nat.add_mul]
    obtain⟨Qe,Uy⟩:∃c,c=(cur.toList.take (xs.length*A.n)++D++cur.toList.drop (xs.length*A.n+D.length)).toArray:=⟨_,rfl⟩;rw[←Uy]at gY
    have e1:Qe.size=cap*A.n:=by
     rw[Uy];simp only[List.size_toArray,List.length_append,List.length_take,List.length_drop,Array.length_toList];omega
    have e2:Qe.toList.take ((xs.length+ys.length)*A.n)=C++D:=by
     rw[Uy];simp only[YC];rw[←hCD];exact List.take_left
    obtain⟨q1,q2⟩:=fin (.slice (some ⟨g,0,none⟩) (xs.length+ys.length) cap) (w.setRow g Qe)
     ⟨hCD,.inr ⟨g,cap,Qe,rfl,Ux,setRow_heap w g cur _ e _ hg,Lr,hcm,e1,e2⟩⟩
     ⟨rfl,rfl,rfl,by simp,fun k _ hk=>setRow_other w g k _ (fun e=>hk (by simp[Value.ownBlock,e]))⟩ (fun k hk=> .inr hk)
    exact⟨_,_,gY,q1,q2,fun k hk=> .inr hk⟩
   ·have holds:∀j u,C[j]? =some u→w.cell? ((⟨g,0,none⟩:Addr).add j)=some u:=hr.cells (g:=g) rfl;obtain⟨v',w',gY,ho,yG⟩:=run_append_arg_grows (P:=P) w t ty e i zv A.n bytes ht h1 h2 h3 h4 hz hn ⟨g,0,none⟩ xs.length cap C Uw holds ⟨b,o,none⟩ ys.length c D Sm Bg (by omega) Lq hb
    obtain⟨q1,q2⟩:=fin v' w' ⟨ho.1,ho.2.imp id (fun⟨g',yH,YD,p3,p4,p5⟩=>⟨g',yH,YD,p3,Nat.le_trans ly p4,p5⟩)⟩
     ⟨yG.os,yG.tape,yG.output,yG.size,fun k hk _=>yG.block k hk (by simp)⟩ (fun k hk=> .inl (ho.lt k hk).1)
    exact⟨v',w',gY,q1,q2,fun k hk=> .inl (ho.lt k hk).1⟩
theorem Own.append {t ty e:TypeId} {zv:Value} {bytes:Nat} {hn:0<A.n} {M M2:aD} {base:Nat} {v u:Value} {xs ys:List α} (ht:P.underlying t=some (.slice e)) (hi:TI P e zv A.n bytes) (hz:zv.cells.size=A.n)
  (h:Own A e M w base v xs) (hle:Le M2 w M w) (hu:(A.sl hn).V M2 w ys u) (hlen:xs.length+ys.length≤140737488355328) (hb:(xs.length+ys.length)*bytes≤140737488355328) (ly:base≤w.heap.size):
  ∃v' w',(Builtin.append_ #[t,t] ty #[v,u]).run P w= .ok v' w'∧Own A e (jF M v') w' base v' (xs++ys)∧Step M w (jF M v') w' (fD v):=by
 obtain⟨v',w',h1,h2,h3,_⟩:=Own.iC (ty:=ty) ht hi hz h hle hu hlen hb ly;exact⟨v',w',h1,h2,h3⟩
theorem Rg.iC {t e:TypeId} {zv:Value} {bytes:Nat} {hn:0<A.n} {M M2:aD} {w2:World} {base:Nat} {v u:Value} {xs ys:List α} (ht:P.underlying t=some (.slice e)) (hi:TI P e zv A.n bytes) (hz:zv.cells.size=A.n)
  (hx:ev L x=some v) (hy:ev L y=some u) (hd:Nat.blt d n=true) (h:Own A e M w base v xs) (hu:(A.sl hn).V M2 w2 ys u) (hle:Le M2 w2 M w) (hlen:xs.length+ys.length≤140737488355328)
  (hb:(xs.length+ys.length)*bytes≤140737488355328) (ly:base≤w.heap.size)
  (k:∀v' w',Own A e (jF M v') w' base v' (xs++ys)→Step M w (jF M v') w' (fD v)→(∀b,v'.ownBlock=some b→w.heap.size≤b∨v.ownBlock=some b)→Rg P r n ops rest ((d,v')::L) ds w' K):
  Rg P r n ops ({dst:=some d,op:= .call {callee:= .builtin .append,args:= #[x,y],argTypes:= #[t,t]},type:=ty,pos,after:=af,guard:=none}::rest) L ds w K:=by
 obtain⟨v',w',gY,h1,h2,h3⟩:=Own.iC (ty:=ty) ht hi hz h (Le.refl M w) (hu.le hle) hlen hb ly;refine .op (fun _ h=>by cases h) rfl rfl hd v' w' (fun ρ hρ=>?_) (k v' w' h1 h2 h3);simp only[execOp,resolve,List.map_toArray,List.map_cons,List.map_nil,hρ x _ hx,hρ y _ hy];simp[invoke,builtin,gY]
def ix (v u:Value):Prop:=∀b,v.ownBlock=some b→u.ownBlock≠some b
theorem ix.symm {v u:Value} (h:ix v u):ix u v:=fun b h1 h2=>h b h2 h1
theorem ix.nil (v:Value):ix v (.slice none 0 0):=fun b _ h=>by cases h
theorem ix.grown {v v' u:Value} (h:ix v u) (hF:∀b,v'.ownBlock=some b→w.heap.size≤b∨v.ownBlock=some b) (hu:∀b,u.ownBlock=some b→b<w.heap.size):ix v' u:=fun b h1 h2=>by
 rcases hF b h1 with h3|h3
 ·have:=hu b h2;omega
 ·exact h b h3 h2
theorem Rg.append {t e:TypeId} {zv:Value} {bytes:Nat} {hn:0<A.n} {M M2:aD} {w2:World} {base:Nat} {v u:Value} {xs ys:List α} (ht:P.underlying t=some (.slice e)) (hi:TI P e zv A.n bytes) (hz:zv.cells.size=A.n)
  (hx:ev L x=some v) (hy:ev L y=some u) (hd:Nat.blt d n=true) (h:Own A e M w base v xs) (hu:(A.sl hn).V M2 w2 ys u) (hle:Le M2 w2 M w) (hlen:xs.length+ys.length≤140737488355328)
  (hb:(xs.length+ys.length)*bytes≤140737488355328) (ly:base≤w.heap.size)
  (k:∀v' M' w',Own A e M' w' base v' (xs++ys)→Step M w M' w' (fD v)→Rg P r n ops rest ((d,v')::L) ds w' K):
  Rg P r n ops ({dst:=some d,op:= .call {callee:= .builtin .append,args:= #[x,y],argTypes:= #[t,t]},type:=ty,pos,after:=af,guard:=none}::rest) L ds w K:=by
 obtain⟨v',w',gY,h1,h2⟩:=Own.append (ty:=ty) ht hi hz h (Le.refl M w) (hu.le hle) hlen hb ly;refine .op (fun _ h=>by cases h) rfl rfl hd v' w' (fun ρ hρ=>?_) (k v' _ w' h1 h2);simp only[execOp,resolve,List.map_toArray,List.map_cons,List.map_nil,hρ x _ hx,hρ y _ hy];simp[invoke,builtin,gY]
theorem Rg.yI {t e:TypeId} {zv:Value} {bytes:Nat} {hn:0<A.n} {M M2:aD} {w2:World} {a:Option Addr} {u:Value} {xs ys:List α} (ht:P.underlying t=some (.slice e)) (hi:TI P e zv A.n bytes) (hz:zv.cells.size=A.n)
  (hx:ev L x=some (.slice a xs.length xs.length)) (hy:ev L y=some u) (hd:Nat.blt d n=true) (h:(A.sl hn).V M w xs (.slice a xs.length xs.length)) (qz:a=none→xs=[]) (hu:(A.sl hn).V M2 w2 ys u) (hle:Le M2 w2 M w)
  (eN:0<ys.length) (hlen:xs.length+ys.length≤140737488355328) (hb:(xs.length+ys.length)*bytes≤140737488355328)
  (k:∀v' M' w',Own A e M' w' w.heap.size v' (xs++ys)→Step M w M' w' aC→Rg P r n ops rest ((d,v')::L) ds w' K):
  Rg P r n ops ({dst:=some d,op:= .call {callee:= .builtin .append,args:= #[x,y],argTypes:= #[t,t]},type:=ty,pos,after:=af,guard:=none}::rest) L ds w K:=by
 obtain⟨a2,c,rfl,hc,hl,hs⟩:=iz.1 (hu.le hle);obtain⟨i,h1,h2,h3,h4⟩:=hi.get;have Lq:xs.length+ys.length≤maxLen:=by unfold maxLen;omega
 rcases hs with rfl|⟨b,o,rfl,hmb,DF⟩
 ·simp at eN
 obtain⟨D,hD,hDr⟩:=vR.all DF;have Sm:=hD.length;have Bg:∀j u,D[j]? =some u→w.cell? ((⟨b,o,none⟩:Addr).add j)=some u:=fun j u hj=>by rw[Addr.add_mid];exact hDr j u hj
 have hD1:=hD.one
 have hold:∃C,eg A M w xs C∧∃v' w',(Builtin.append_ #[t,t] ty #[.slice a xs.length xs.length,.slice (some ⟨b,o,none⟩) ys.length c]).run P w= .ok v' w'∧w'.ownsRow w.heap.size e A.n v' (xs.length+ys.length) (C++D)∧w.grownBy w' none:=by
  cases a with
  |none=>
   have:=qz rfl;subst this
   obtain⟨v',w',gY,ho,yG,_⟩:=run_append_own (P:=P) w w.heap.size t ty e i zv A.n bytes ht h1 h2 h3 h4 hz hn (.slice none 0 0) 0 [] (World.ownsRow_nil w _ e A.n) ⟨b,o,none⟩ ys.length c D Sm Bg hD1
    (by simpa using Lq) (by simpa using hb) (Nat.le_refl _)
   exact⟨[],rfl,v',w',gY,by simpa using ho,⟨yG.os,yG.tape,yG.output,yG.size,fun k hk _=>yG.block k hk (by simp[Value.ownBlock])⟩⟩
  |some p=>
   obtain⟨_,_,he,_,_,hs1⟩:=iz.1 h
   cases he
   have hC:∃C,eg A M w xs C∧∀j u,C[j]? =some u→w.cell? (p.add j)=some u:=by
    rcases hs1 with rfl|⟨b1,o1,h5,X4,aei⟩
    ·exact⟨[],rfl,fun j u hj=>by simp at hj⟩
    ·cases h5;obtain⟨C,hC,YE⟩:=vR.all aei;exact⟨C,hC,fun j u hj=>by rw[Addr.add_mid];exact YE j u hj⟩
   obtain⟨C,hC,YE⟩:=hC;obtain⟨v',w',gY,ho,yG⟩:=run_append_arg_grows (P:=P) w t ty e i zv A.n bytes ht h1 h2 h3 h4 hz hn p xs.length xs.length C hC.length YE ⟨b,o,none⟩ ys.length c D Sm Bg (by omega) Lq hb;exact⟨C,hC,v',w',gY,ho,yG⟩
 obtain⟨C,hC,v',w',gY,ho,yG⟩:=hold
 have kM:Step M w (jF M v') w' aC:=⟨yj yG.size (fun b hb=>(ho.lt b hb).2),yG.os,yG.tape,yG.output,yG.size,fun k hk=>⟨fun h=>by
   rcases h with h|h
   ·have:=(ho.lt k h).1;omega
   ·exact h,fun h=> .inr h⟩,fun k hk _=>yG.block k hk (by simp),fun _ h=>h.elim⟩
 refine .op (fun _ h=>by cases h) rfl rfl hd v' w' (fun ρ hρ=>?_) (k v' _ w' ⟨⟨C++D,by rw[List.length_append];exact ho,eg.append (hD.le kM.le) (hC.le kM.le)⟩,fun b hb=> .inl hb⟩ kM);simp only[execOp,resolve,List.map_toArray,List.map_cons,List.map_nil,hρ x _ hx,hρ y _ hy];simp[invoke,builtin,gY]
def l1 (M:aD) (base:Nat):aD:=fun k=>base≤k∧M k
theorem Step.mA {M0 M M' N:aD} {w0 w w':World} {base:Nat} (h:Step M0 w0 M w N) (h':Step M w M' w' (l1 M base)) (hb:w0.heap.size≤base):Step M0 w0 M' w' N:=
 h.trans h' fun b h1 h2=>absurd h2.1 (by omega)
theorem Step.cX {e:TypeId} {M0 M M1 M' N:aD} {w0 w w1 w':World} {base:Nat} {v:Value} {xs:List α} (h:Step M0 w0 M w N) (h':Step M w M' w' (fD v)) (ho:Own A e M1 w1 base v xs) (hb:w0.heap.size≤base):Step M0 w0 M' w' N:=
 h.trans h' fun b h1 h2=>absurd (ho.base b h2).1 (by omega)
theorem Step.cf {M0 M M' N N':aD} {w0 w w':World} (h:Step M0 w0 M w N) (h':Step M w M' w' N') (hb:∀b,N' b→w0.heap.size≤b):Step M0 w0 M' w' N:=
 h.trans h' fun b h1 h2=>absurd (hb b h2) (by omega)
def Grow {α:Type} (A:RT α) (hn:0<A.n) (e:TypeId) (M:aD) (w:World) (base:Nat) (v:Value) (xs:List α):Prop:=
 Own A e M w base v xs∨∃a,v= .slice a xs.length xs.length∧(a=none→xs=[])∧(A.sl hn).V M w xs v
theorem Grow.le {hn:0<A.n} {e:TypeId} {M M':aD} {w':World} {base:Nat} {v:Value} {xs:List α} (h:Grow A hn e M w base v xs) (s:Step M w M' w' aC):Grow A hn e M' w' base v xs:=
 h.imp (·.aO s) fun⟨a,h1,h2,h3⟩=>⟨a,h1,h2,h3.le s.le⟩
theorem Rg.Io {t e:TypeId} {zv:Value} {bytes:Nat} {hn:0<A.n} {M M2:aD} {w2:World} {base:Nat} {v u:Value} {xs ys:List α} (ht:P.underlying t=some (.slice e)) (hi:TI P e zv A.n bytes) (hz:zv.cells.size=A.n)
  (hx:ev L x=some v) (hy:ev L y=some u) (hd:Nat.blt d n=true) (h:Grow A hn e M w base v xs) (hu:(A.sl hn).V M2 w2 ys u) (hle:Le M2 w2 M w) (eN:0<ys.length) (hlen:xs.length+ys.length≤140737488355328)
  (hb:(xs.length+ys.length)*bytes≤140737488355328) (ly:base≤w.heap.size)
  (k:∀v' M' w',Own A e M' w' base v' (xs++ys)→Step M w M' w' (l1 M base)→Rg P r n ops rest ((d,v')::L) ds w' K):
  Rg P r n ops ({dst:=some d,op:= .call {callee:= .builtin .append,args:= #[x,y],argTypes:= #[t,t]},type:=ty,pos,after:=af,guard:=none}::rest) L ds w K:=by
 rcases h with h|⟨a,rfl,qz,h⟩
 ·exact .append ht hi hz hx hy hd h hu hle hlen hb ly fun v' M' w' h1 h2=>k v' M' w' h1 (h2.cB (fun b hb=>⟨(h.base b hb).1,h.mut_ b hb⟩) fun b hb=>hb.2)
 ·refine .yI ht hi hz hx hy hd h qz hu hle eN hlen hb fun v' M' w' h1 h2=>k v' M' w' ?_ (h2.cB (fun b hb=>hb.elim) fun b hb=>hb.2)
  obtain⟨⟨C,hr,ha⟩,hm⟩:=h1;exact⟨⟨C,⟨hr.1,hr.2.imp id fun⟨g,cap,cur,p3,p4,p5⟩=>⟨g,cap,cur,p3,Nat.le_trans ly p4,p5⟩⟩,ha⟩,hm⟩
def rm (M:aD) (v:Value):aD:=fun k=>M k∧v.ownBlock≠some k
theorem eO (M:aD) (v:Value) (w:World):Le M w (rm M v) w:=fun _ _ h=>⟨fun h2=>h h2.1,rfl⟩
theorem Own.view {hn:0<A.n} {e:TypeId} {M:aD} {base:Nat} {v:Value} {xs:List α} (h:Own A e M w base v xs) (hlen:xs.length≤140737488355328):(A.sl hn).V (rm M v) w xs v:=
 h.sl (eO M v w) (fun _ hb h2=>h2.2 hb) hlen
theorem Lt.rm {M:aD} {w:World} (h:Lt M w) (v:Value):Lt (rm M v) w:=fun b hb=>h b hb.1
theorem Step.freeze {M0 M N:aD} {w0 w:World} (h:Step M0 w0 M w N) {v:Value} (hv:∀b,v.ownBlock=some b→w0.heap.size≤b):Step M0 w0 (rm M v) w N:=
 ⟨fun h0=>(h.lt h0).rm v,h.os,h.tape,h.output,h.size,fun b hb=>⟨fun h1=>(h.mem b hb).1 h1.1,fun h1=>⟨(h.mem b hb).2 h1,fun h2=>by have:=hv b h2;omega⟩⟩,h.same,h.sub⟩
theorem Own.nS {e:TypeId} {M:aD} {base Ip:Nat} {v:Value} {xs:List α} (h:Own A e M w base v xs) (hb:Ip≤base):Own A e M w Ip v xs:=by
 obtain⟨⟨C,hr,ha⟩,hm⟩:=h;exact⟨⟨C,⟨hr.1,hr.2.imp id fun⟨g,cap,cur,p3,p4,p5⟩=>⟨g,cap,cur,p3,Nat.le_trans hb p4,p5⟩⟩,ha⟩,hm⟩
theorem Bh {M:aD} {w:World}:∀{xs:List UInt8} {C:List Value},eg RT.u8 M w xs C→C=xs.map fun b=> .int .u8 (b.toNat:Int)
 |[],_,h=>h
 |x::xs,_,⟨vs,rest,h1,h2,h3⟩=>by
  have xT:vs=[.int .u8 x.toNat]:=h2;subst h1;rw[xT,Bh h3];rfl
theorem Rg.b2s {s t e:TypeId} {hn:0<RT.u8.n} {M:aD} {xs:List UInt8} {v:Value} (hs:P.underlying s=some (.slice e)) (he:P.underlying e=some (.int .u8)) (ht:P.underlying t=some .string) (hx:ev L x=some v) (hd:Nat.blt d n=true)
  {M1:aD} {w1:World} (hv:(RT.u8.sl hn).V M1 w1 xs v) (hle:Le M1 w1 M w) (k:Rg P r n ops rest ((d,.string ⟨xs.toArray⟩)::L) ds w K):
  Rg P r n ops ({dst:=some d,op:= .convert s t x,type:=ty,pos,after:=af,guard:=none}::rest) L ds w K:=by
 obtain⟨a,cap,rfl,hc,hl,nT⟩:=iz.1 (hv.le hle);refine .op (fun _ h=>by cases h) rfl rfl hd _ w (fun ρ hρ=>?_) k;simp only[execOp,hρ x _ hx];rw[Sem.run_bind,run_convert_bytes_string (P:=P) w s t e a xs.length cap hs he ht]
 cases a with
 |none=>
  rcases nT with rfl|⟨b,o,h,_⟩
  ·simp[Conv.bytesToString];rfl
  ·cases h
 |some p=>
  have YF:(loadCells p xs.length).run P w= .ok ((xs.map fun b=>(b.toNat:Int)).map (Value.int .u8)).toArray w:=by
   rcases nT with rfl|⟨b,o,h,hm,DF⟩
   ·simp[loadCells,loadCellsFrom]
   ·cases h;obtain⟨C,hC,YE⟩:=vR.all DF;have hCe:=Bh hC;have:=run_loadCells_list (P:=P) w ⟨b,o,none⟩ C (fun j u hj=>by rw[Addr.add_mid];exact YE j u hj);rw[hC.length,show xs.length*RT.u8.n=xs.length from Nat.mul_one _]at this;rw[this,hCe];simp
  rw[run_bytesToString (P:=P) w p xs.length cap _ YF]
  have key:∀(l:List UInt8) (acc:ByteArray),(l.map fun b=>(b.toNat:Int)).foldl (fun r n=>r.push (UInt8.ofNat n.toNat)) acc=⟨acc.data++l.toArray⟩:=by
   intro l
   induction l with
   |nil=>intro acc;simp
   |cons b l ih=>
    intro acc;simp only[List.map_cons,List.foldl_cons,ih];congr 1;simp[ByteArray.push]
  simp[key]
end
end Go.K
namespace Go.K
open Go.ChangeShapes Go.WideShapes Go.ChangeAt Go.RowKit
def jh {α:Type} (P:Program) (t:TypeId) (A:RT α):Prop:=
 ∀{H:Type} {enc:TypeId×Value→H} {w:World} {base fuel:Nat} {spare:Nat→Bool} {cs:List Value} {d:DataW H} {ps:List MemPlace},
  DataW.trod enc P w base spare true fuel t cs=some (d,ps)→(∀n∈DataW.weights P t d,n≤reachBytes)→∃x,A.R aC w x cs
theorem jh.int {P:Program} {t:TypeId} {k:IntKind} (ht:P.underlying t=some (.int k)):jh P t (RT.int k):=by
 intro H enc w base fuel spare cs d ps h hw
 cases fuel with
 |zero=>simp[DataW.trod]at h
 |succ n=>
  unfold DataW.trod at h;rw[ht]at h
  split at h<;>simp_all
  obtain⟨⟨h1,h2⟩,_⟩:=h;simp only[Lit.wf,Bool.and_eq_true,decide_eq_true_eq]at h2;exact⟨_,rfl,h2.1,h2.2⟩
theorem jh.str {P:Program} {t:TypeId} (ht:P.underlying t=some .string):jh P t RT.str:=by
 intro H enc w base fuel spare cs d ps h hw
 cases fuel with
 |zero=>simp[DataW.trod]at h
 |succ n=>
  unfold DataW.trod at h;rw[ht]at h
  split at h<;>simp_all
  rename_i s
  obtain⟨h1,h2,h3⟩:=h;subst h2;have:=hw s.data.toList.length (by simp[DataW.weights]);have hr:reachBytes≤140737488355328:=by decide
  refine⟨s.data.toList,?_,Nat.le_trans this hr⟩;simp
theorem Uz (a:Addr) (i:Nat) (h:a.spot=none):a.add i=⟨a.block,a.off+i,none⟩:=by
 unfold Addr.add
 split
 ·next h0=>subst h0;cases a;simp_all
 ·rfl
theorem jh.sl {P:Program} {t e:TypeId} {α:Type} {A:RT α} {hn:0<A.n} (ht:P.underlying t=some (.slice e)) {nb:Nat} (hc:P.cellsOf e=A.n) (hbn:P.bytesOf e=nb) (hnb:nb≠0) (hA:jh P e A):jh P t (A.sl hn):=by
 have UA:P.bytesOf e≠0:=by rw[hbn];exact hnb
 intro H enc w base fuel spare cs d ps h hw;rcases DataW.trod_slice ht h with⟨h1,h2⟩|⟨a,len,cap,elems,rest,n,_,rfl,hx,hb,hl,hm,hlen,DF,UB,hns⟩
 ·exact⟨[],none,0,by rw[h1];rfl,Nat.le_refl _,Nat.zero_le _,.inl rfl⟩
 ·injection hx with hd ky
  have DI:DataW.weights P t d=(elems.length+rest.length)*P.bytesOf e::(DataW.weightsAll P e (elems.map (·.1))++DataW.weightsAll P e (rest.map (·.1))):=by
   rw[hd];simp[DataW.weights,ht]
  have h1:(elems.length+rest.length)*P.bytesOf e≤reachBytes:=hw _ (by rw[DI];exact List.mem_cons_self ..)
  have h2:elems.length≤140737488355328:=by
   have hr:reachBytes≤140737488355328:=by decide
   have:=Nat.le_mul_of_pos_right (elems.length+rest.length) (Nat.pos_of_ne_zero UA);omega
  have iA:∀y∈elems,∀n∈DataW.weights P e y.1,n≤reachBytes:=fun y hy n hn=>by
   refine hw n ?_;rw[DI];refine List.mem_cons_of_mem _ (List.mem_append_left _ ?_);clear DI hw h1 h2 UB hns DF hlen hd h ky
   induction elems with
   |nil=>cases hy
   |cons z zs ih=>
    simp only[List.map_cons,DataW.weightsAll,List.mem_append];rcases List.mem_cons.1 hy with rfl|hy
    ·exact .inl hn
    ·exact .inr (ih hy)
  have hex:∀i,i<len→∃x vs,A.R aC w x vs∧∀j:Nat,j<A.n→w.cell? (a.add (i*A.n+j))=vs[j]? :=fun i hi=>by
   have h3:=DF i hi;rw[List.getElem?_eq_getElem (by omega),Option.bind_eq_some_iff]at h3;obtain⟨vs,h4,h5⟩:=h3;obtain⟨x,h6⟩:=hA (d:=elems[i].1) (ps:=elems[i].2) h5 (iA _ (List.getElem_mem ..));obtain⟨_,h7,h8⟩:=World.cells?_some h4;rw[hc]at h8 h7;refine⟨x,vs,h6,fun j hj=>?_⟩;rw[←h8 j hj];unfold Addr.add;by_cases YG:j=0
   ·subst YG;simp
   ·by_cases hi0:i*A.n=0
    ·simp[hi0,YG]
    ·rw[if_neg (by omega),if_neg hi0,if_neg YG];simp[Nat.add_assoc]
  rcases Nat.eq_zero_or_pos len with h0|ud
  ·subst h0;exact⟨[],some a,cap,rfl,Nat.zero_le _,Nat.zero_le _,.inl rfl⟩
  ·obtain⟨x0,v0,hx0,hc0⟩:=hex 0 ud;have PL:0<v0.length:=by rw[A.len hx0];exact hn
   have hs:=hc0 0 hn;rw[List.getElem?_eq_getElem PL,Nat.zero_mul,Nat.zero_add]at hs
   have YH:a.spot=none:=by
    unfold Addr.add at hs;rw[if_pos rfl]at hs;unfold World.cell? at hs
    cases hh:a.spot with
    |none=>rfl
    |some s=>rw[hh]at hs;split at hs<;>simp_all
   let f:Nat→α:=fun i=>if h:i<len then(hex i h).choose else x0
   have hf:∀i,i<len→∃vs,A.R aC w (f i) vs∧∀j:Nat,j<A.n→w.cell? (a.add (i*A.n+j))=vs[j]? :=fun i hi=>by
    have:f i=(hex i hi).choose:=dif_pos hi;rw[this];exact(hex i hi).choose_spec
   refine⟨(List.range len).map f,some a,cap,by simp,by simpa using hl,by simp;omega,.inr ⟨a.block,a.off,by cases a;simp_all,fun h=>h.elim,fun i x Gq=>?_⟩⟩;have hi:i<len:=by have:=(List.getElem?_eq_some_iff.1 Gq).1;simpa using this
   obtain⟨vs,h3,h4⟩:=hf i hi;have hxe:x=f i:=by simp[hi]at Gq;exact Gq.symm
   subst hxe;refine⟨vs,h3,fun j v hj=>?_⟩;have xU:j<A.n:=by rw[←A.len h3];exact(List.getElem?_eq_some_iff.1 hj).1
   rw[←hj,←h4 j xU,Uz _ _ YH,Nat.add_assoc]
theorem jh.pair {P:Program} {t:TypeId} {fs:Array Field} {f0 f1:Field} {α β:Type} {A:RT α} {B:RT β} (ht:P.underlying t=some (.struct fs)) (hf0:fs[0]? =some f0) (hf1:fs[1]? =some f1) (hfs:fs.size=2) (h0:f0.offset=0) (h1:f1.offset=A.n)
  (c0:P.cellsOf f0.type=A.n) (c1:P.cellsOf f1.type=B.n) (ct:P.cellsOf t=A.n+B.n) (hA:jh P f0.type A) (hB:jh P f1.type B):jh P t (A.pair B):=by
 intro H enc w base fuel spare cs d ps h hw;obtain⟨xs,n,_,hx,hl,hlen,hf⟩:=DataW.trod_struct ht h;injection hx with hd ky
 have ru:xs.length=2:=by omega
 match xs,ru with
 |[y0,y1],_=>
  have g0:=hf 0 f0 hf0;have g1:=hf 1 f1 hf1;rw[h0,c0]at g0;rw[h1,c1]at g1
  have hty:fs.toList.map (fun x=>x.type)=[f0.type,f1.type]:=by
   have PM:fs.toList.length=2:=by simpa using hfs
   match Gb:fs.toList,PM with
   |[a,b],_=>
    have e0:fs.toList[0]? =some f0:=by simpa using hf0
    have e1:fs.toList[1]? =some f1:=by simpa using hf1
    rw[Gb]at e0 e1;simp at e0 e1;simp[e0,e1]
  have DI:DataW.weights P t d=DataW.weightsEach P [f0.type,f1.type] [y0.1,y1.1]:=by
   rw[hd];simp[DataW.weights,ht,hty]
  obtain⟨x0,e0⟩:=hA (d:=y0.1) (ps:=y0.2) g0 (fun m hm=>hw m (by rw[DI];exact DataW.weights_mem_each (j:=0) rfl rfl m hm));obtain⟨x1,e1⟩:=hB (d:=y1.1) (ps:=y1.2) g1 (fun m hm=>hw m (by rw[DI];exact DataW.weights_mem_each (j:=1) rfl rfl m hm));refine⟨(x0,x1),_,_,?_,e0,e1⟩;rw[List.drop_zero,List.take_of_length_le (l:=cs.drop A.n) (by rw[List.length_drop,hl,ct];omega),List.take_append_drop]
theorem jh.arg {P:Program} {α:Type} {A:RT α} {t:TypeId} {H:Type} {enc:TypeId×Value→H} {w:World} {base:Nat} {spare:Nat→Bool} {v:Value} {d:DataW H} {ps:List MemPlace} (hA:jh P t A)
  (h:DataW.Trod enc P w base spare true t v d ps) (hv:∀vs,vs.length=A.n→v.cells.toList=vs→(∀u∈vs,u.oneCell'=true)→v=A.val vs) (hw:∀n∈DataW.weights P t d,n≤reachBytes):∃x,A.V aC w x v:=by
 obtain⟨fuel,hf⟩:=h;obtain⟨x,hx⟩:=hA hf hw;exact⟨x,_,hx,hv _ (A.len hx) rfl (A.one hx)⟩
theorem Lu {P:Program} {f:FuncId} {args:Array Value} {w:World} (h:Spec P f args w (fun v' w'=>v'= .bool true∧Step aC w aC w' aC)):Calls P f args w fun e w'=>e= .returned (.bool true)∧Below w.heap.size w w':=
 Calls.mono h fun _ _ ⟨_,he,hv,s⟩=>⟨by rw[he,hv],s.below⟩
end Go.K
namespace Go.K
theorem DJ {P:Program} {w:World} {nm:String} {g:Nat} {cs:Array Value} (hg:P.globalNamed nm=some g) (h:w.var? P nm=some cs):∃e fr,w.heap[g]? =some (.cells cs e fr):=by
 simp only[World.var?,hg,Option.bind_some]at h
 split at h
 ·rename_i c e fr hh
  obtain rfl:=Option.some.inj h;exact⟨e,fr,hh⟩
 ·cases h
theorem Gv {H:Type} {enc:TypeId×Value→H} {P:Program} {w:World} {base fuel:Nat} {spare:Nat→Bool} {held:Bool} {t e:TypeId} {n:Nat} {cs:Array Value} {l:List Nat} {p:List MemPlace} {d:DataW H}
  (ht:P.underlying t=some (.array n e)) (he:P.underlying e=some (.int .u8)) (hc:P.cellsOf e=1) (YI:P.cellsOf t=n)
  (h:DataW.trod enc P w base spare held fuel t cs.toList=some (d,p)) (hd:d= .agg (l.map fun(k:Nat)=> .lit (.int .u8 (k:Int))):=by rfl):(l.map fun(k:Nat)=>Value.int .u8 (k:Int)).toArray=cs:=by
 subst hd;obtain⟨xs,m,rfl,hx,hl,hn,DF⟩:=DataW.trod_array ht h;rw[hc]at DF;simp only[Prod.mk.injEq,DataW.agg.injEq]at hx
 have Jy:l.length=n:=by
  have:=congrArg List.length hx.1;rw[List.length_map,List.length_map,hn]at this;exact this
 suffices hs:l.map (fun(k:Nat)=>Value.int .u8 (k:Int))=cs.toList by rw[hs]
 refine List.ext_getElem? fun i=>?_
 rcases Nat.lt_or_ge i n with hi|hi
 ·have hE:=DF i hi;obtain⟨x,hxi⟩:∃x,xs[i]? =some x:=⟨_,List.getElem?_eq_getElem (by omega)⟩;obtain⟨k,hk⟩:∃k,l[i]? =some k:=⟨_,List.getElem?_eq_getElem (by omega)⟩;rw[hxi,Nat.mul_one]at hE;obtain⟨z,e1,e2,_⟩:=DataW.trod_int he hE;have h1:(l.map fun(k:Nat)=>(DataW.lit (.int .u8 (k:Int)):DataW H))[i]? =some (.lit (.int .u8 (k:Int))):=by rw[List.getElem?_map,hk];rfl
  rw[hx.1,List.getElem?_map,hxi,e2]at h1;have hz:z=(k:Int):=by simpa using h1
  have h2:((cs.toList.drop i).take 1)[0]? =cs.toList[i]? :=by rw[List.getElem?_take,if_pos (by decide),List.getElem?_drop,Nat.add_zero]
  rw[e1]at h2;rw[←h2,List.getElem?_map,hk,hz];rfl
 ·rw[List.getElem?_eq_none (by rw[List.length_map];omega),List.getElem?_eq_none (by rw[hl,YI];omega)]
end Go.K
namespace Go.K
structure cG (M:aD) where
 p:Value→World→Prop
 U:aD
 mono:∀{v w w' N},p v w→Step M w M w' N→(∀b,N b→U b)→p v w'
def Jz:aD:=fun _=>True
def cG.eq {M:aD} (c:Value):cG M:=⟨fun v _=>v=c,Jz,fun h _ _=>h⟩
def cG.V {M:aD} {α:Type} (A:RT α) (x:α):cG M:=⟨fun v w=>A.V M w x v,Jz,fun h s _=>h.le s.le⟩
def cG.ptr {M:aD} {α:Type} (A:RT α) (x:α) (hn:0<A.n:=by decide):cG M:=⟨fun v w=>cO A M w v x,Jz,fun h s _=>h.le hn s.le⟩
def cG.pure {M:aD} (q:Value→Prop):cG M:=⟨fun v _=>q v,Jz,fun h _ _=>h⟩
def cG.mk' {M:aD} (p:Value→World→Prop) (mono:∀{v w w'},p v w→Step M w M w' aC→p v w'):cG M:=⟨p,aC,fun h s hN=>mono h (s.cB hN fun _ hb=>hb.elim)⟩
def jL:List aD→aD
 |[]=>aC
 |[N]=>N
 |N::Ns=>fun b=>N b∨jL Ns b
theorem fC:∀{Ns:List aD} {b:Nat},jL Ns b↔∃N∈Ns,N b
 |[],b=>by simp[jL,aC]
 |[N],b=>by simp[jL]
 |N::N'::Ns,b=>by
  have:=fC (Ns:=N'::Ns) (b:=b);simp only[jL];rw[this];simp
def cy (o:Oper):List Nat:=(o.after.toList.filter (Region.binds .any)).map (·.on)
def lz (l:List Oper) (j t:Nat):Bool:=l.all fun o=> !(o.dst==some t)||(cy o).contains j
def kz (l:List Oper) (j:Nat) (L:Sl):Sl:=L.filter fun p=>lz l j p.1
def JA (d:Option Nat) (v:Value) (L:Sl):Sl:=match d with|some d=>(d,v)::L|none=>L
def eK:List Oper→Nat→Bool
 |[],_=>true
 |o::l,k=>(cy o).all (Nat.blt · k)&&(match o.dst with|some d=>l.all (fun o'=> !(o'.dst==some d))|none=>true)&&eK l (k+1)
def Lv (E:List (Nat×aD)) (j:Nat):aD:=jL ((E.filter fun p=>p.1==j).map (·.2))
def YJ (l:List Oper) (E:List (Nat×aD)) (j:Nat):aD:=jL ((E.filter fun p=> !(p.1==j)&& !((l[p.1]?.map cy).getD []).contains j).map (·.2))
def vT {M:aD} (E:List (Nat×aD)):List Oper→List (cG M)→Nat→Prop
 |o::os,s::ss,i=>(∀p∈E.filter (fun p=> !(p.1==i)&& !(cy o).contains p.1),∀b,p.2 b→s.U b)∧vT E os ss (i+1)
 |_,_,_=>True
theorem vT.get {M:aD} {E:List (Nat×aD)}:∀{os:List Oper} {ss:List (cG M)} {k:Nat},vT E os ss k→∀i o s,os[i]? =some o→ss[i]? =some s→∀p∈E,p.1≠k+i→¬p.1∈cy o→∀b,p.2 b→s.U b
 |[],_,_,_,i,_,_,h,_,_,_,_,_,_,_=>by simp at h
 |_::_,[],_,_,i,_,_,_,h,_,_,_,_,_,_=>by simp at h
 |x::os,y::ss,k,h,0,o,s,ho,hs,p,hp,h1,h2,b,hb=>by
  simp at ho hs;subst ho;subst hs;exact h.1 p (List.mem_filter.2 ⟨hp,by simp;exact⟨h1,h2⟩⟩) b hb
 |x::os,y::ss,k,h,i+1,o,s,ho,hs,p,hp,h1,h2,b,hb=>vT.get h.2 i o s (by simpa using ho) (by simpa using hs) p hp (by omega) h2 b hb
def yJ {M:aD} (F:List (Nat×aD)) (l:List Oper) (S:List (cG M)):Prop:=
 ∀i o s j oj sj,l[i]? =some o→S[i]? =some s→l[j]? =some oj→S[j]? =some sj→j≠i→¬j∈cy o→∀v vj w w',s.p v w→Step M w M w' (Lv F j)→sj.p vj w'→s.p v w'
theorem DK {F:List (Nat×aD)} {j b:Nat} (hb:Lv F j b):∃p∈F,p.1=j∧p.2 b:=by
 obtain⟨N,hN,JB⟩:=fC.1 hb;obtain⟨p,hp,rfl⟩:=List.mem_map.1 hN;obtain⟨h1,h2⟩:=List.mem_filter.1 hp;exact⟨p,h1,by simpa using h2,JB⟩
theorem vT.st {M:aD} {F:List (Nat×aD)} {l:List Oper} {S:List (cG M)} (h:vT F l S 0):yJ F l S:=fun i o s j oj sj ho hs _ _ eN hnp v vj w w' hp st _=>
 s.mono hp st fun b hb=>by
  obtain⟨p,h1,h6,h7⟩:=DK hb;exact h.get i o s ho hs p h1 (by omega) (by rw[h6];exact hnp) b h7
def Lw {M:aD} (X:List (Nat×Nat)) (E:List (Nat×aD)):List Oper→List (cG M)→Nat→Prop
 |o::os,s::ss,i=>(∀p∈E.filter (fun p=> !(p.1==i)&& !(cy o).contains p.1&& !X.contains (i,p.1)),∀b,p.2 b→s.U b)∧Lw X E os ss (i+1)
 |_,_,_=>True
theorem Lw.get {M:aD} {X:List (Nat×Nat)} {E:List (Nat×aD)}:∀{os:List Oper} {ss:List (cG M)} {k:Nat},Lw X E os ss k→∀i o s,os[i]? =some o→ss[i]? =some s→∀p∈E,p.1≠k+i→¬p.1∈cy o→X.contains (k+i,p.1)=false→∀b,p.2 b→s.U b
 |[],_,_,_,i,_,_,h,_,_,_,_,_,_,_,_=>by simp at h
 |_::_,[],_,_,i,_,_,_,h,_,_,_,_,_,_,_=>by simp at h
 |x::os,y::ss,k,h,0,o,s,ho,hs,p,hp,h1,h2,hx,b,hb=>by
  simp at ho hs;subst ho;subst hs;exact h.1 p (List.mem_filter.2 ⟨hp,by simp only[Nat.add_zero]at hx h1;rw[hx];simp;exact⟨h1,h2⟩⟩) b hb
 |x::os,y::ss,k,h,i+1,o,s,ho,hs,p,hp,h1,h2,hx,b,hb=>Lw.get h.2 i o s (by simpa using ho) (by simpa using hs) p hp (by omega) h2 (by rw[show k+1+i=k+(i+1)from by omega];exact hx) b hb
theorem yJ.of {M:aD} {F:List (Nat×aD)} {l:List Oper} {S:List (cG M)} (X:List (Nat×Nat)) (h:Lw X F l S 0)
  (hx:∀x∈X,∀s sj,S[x.1]? =some s→S[x.2]? =some sj→∀v vj w w',s.p v w→Step M w M w' (Lv F x.2)→sj.p vj w'→s.p v w'):yJ F l S:=fun i o s j oj sj ho hs hoj hsj eN hnp v vj w w' hp st YK=>by
 by_cases hc:X.contains (i,j)=true
 ·exact hx (i,j) (by simpa using hc) s sj hs hsj v vj w w' hp st YK
 ·exact s.mono hp st fun b hb=>by
   obtain⟨p,h1,h6,h7⟩:=DK hb;exact h.get i o s ho hs p h1 (by omega) (by rw[h6];exact hnp) (by rw[h6,Nat.zero_add];simpa using hc) b h7
def YL {M:aD} (E:List (Nat×aD)) (j:Nat) (d:Option Nat) (s:cG M) (w0:World) (L:Sl) (ds:List Deferred):Kt:=fun e L' qw w'=>e= .normal∧qw=ds∧∃v,L'=JA d v L∧s.p v w'∧Step M w0 M w' (Lv E j)
def mB {M:aD} (l:List Oper) (S:List (cG M)) (w:World) (k:Sl→Prop):List Nat→Sl→Prop
 |[],acc=>k acc
 |i::is,acc=>match l[i]?,S[i]? with
  |some o,some s=>match o.dst with
   |some d=>∀v,s.p v w→mB l S w k is ((d,v)::acc)
   |none=>∀v,s.p v w→mB l S w k is acc
  |_,_=>mB l S w k is acc
def gD {M:aD} (w:World) (k:Sl→Prop):List Oper→List (cG M)→Sl→Prop
 |o::os,s::ss,acc=>match o.dst with
  |some d=>∀v,s.p v w→gD w k os ss ((d,v)::acc)
  |none=>∀v,s.p v w→gD w k os ss acc
 |_,_,acc=>k acc
def X5 (P:Program) (r:Option Nat) (n:Nat) {M:aD} (F:List (Nat×aD)) (w:World) (l:List Oper) (S:List (cG M)) (ds:List Deferred) (L:Sl) (j:Nat) (o:Oper) (s:cG M):Prop:=
 ∀w' E,Step M w M w' (YJ l F j)→mB l S w' (fun acc=>Rg P r n l.toArray [o] (acc++(kz l j L++E)) ds w' (YL F j o.dst s w' (acc++(kz l j L++E)) ds)) (cy o) []
def dA (P:Program) (r:Option Nat) (n:Nat) {M:aD} (F:List (Nat×aD)) (w:World) (l:List Oper) (S:List (cG M)) (ds:List Deferred) (L:Sl):List Oper→List (cG M)→Nat→Prop
 |o::os,s::ss,j=>X5 P r n F w l S ds L j o s∧dA P r n F w l S ds L os ss (j+1)
 |[],_,_=>True
 |_::_,[],_=>False
theorem dA.cons {P:Program} {r:Option Nat} {n:Nat} {M:aD} {F:List (Nat×aD)} {w:World} {l:List Oper} {S:List (cG M)} {ds:List Deferred} {L:Sl} {o:Oper} {os:List Oper} {s:cG M} {ss:List (cG M)} {j:Nat}
  (h:X5 P r n F w l S ds L j o s) (h':dA P r n F w l S ds L os ss (j+1)):dA P r n F w l S ds L (o::os) (s::ss) j:=⟨h,h'⟩
theorem dA.nil {P:Program} {r:Option Nat} {n:Nat} {M:aD} {F:List (Nat×aD)} {w:World} {l:List Oper} {S:List (cG M)} {ds:List Deferred} {L:Sl} {ss:List (cG M)} {j:Nat}:dA P r n F w l S ds L [] ss j:=by
 unfold dA;trivial
section
variable {P:Program} {r:Option Nat} {n:Nat} {L:Sl} {ds:List Deferred} {w:World} {K:Kt} {M:aD} {F:List (Nat×aD)}
theorem mf {A B:Sl} {t:Nat} {v:Value} (h:lk (A++B) t=some v):lk A t=some v∨lk B t=some v:=by
 induction A with
 |nil=>exact .inr h
 |cons p A ih=>
  obtain⟨k,u⟩:=p;simp only[List.cons_append,lk]at h ⊢
  cases hb:Nat.beq k t with
  |true=>rw[hb]at h;exact .inl h
  |false=>rw[hb]at h;exact ih h
theorem qA {A B:Sl} {t:Nat} (h:∃v,lk B t=some v):∃v,lk (A++B) t=some v:=by
 induction A with
 |nil=>exact h
 |cons p A ih=>
  obtain⟨k,u⟩:=p;simp only[List.cons_append,lk]
  cases hb:Nat.beq k t with
  |true=>exact⟨u,rfl⟩
  |false=>exact ih
theorem kf {f:Nat→Bool} {A:Sl} {t:Nat} {v:Value} (h:lk (A.filter fun p=>f p.1) t=some v):f t=true∧lk A t=some v:=by
 induction A with
 |nil=>simp[lk]at h
 |cons p A ih=>
  obtain⟨k,u⟩:=p;rw[List.filter_cons]at h
  split at h
  ·rename_i hf
   simp only[lk]at h ⊢
   cases hb:Nat.beq k t with
   |true=>
    rw[hb]at h;rw[←Nat.eq_of_beq_eq_true hb];exact⟨hf,h⟩
   |false=>rw[hb]at h;exact ih h
  ·rename_i hf
   obtain⟨h1,h2⟩:=ih h;refine⟨h1,?_⟩;simp only[lk]
   cases hb:Nat.beq k t with
   |true=>rw[Nat.eq_of_beq_eq_true hb]at hf;exact absurd h1 hf
   |false=>exact h2
def JC (a:Act):Sl:=(List.range a.tmps.size).map fun t=>(t,a.tmps.getD t undef)
theorem xf (f:Nat→Value):∀(m s t:Nat) (v:Value),lk ((List.range' s m).map fun t=>(t,f t)) t=some v→s≤t∧t<s+m∧v=f t
 |0,s,t,v,h=>by simp[lk]at h
 |m+1,s,t,v,h=>by
  simp only[List.range'_succ,List.map_cons,lk]at h
  cases hb:Nat.beq s t with
  |true=>rw[hb]at h;cases h;have:=Nat.eq_of_beq_eq_true hb;subst this;exact⟨Nat.le_refl _,by omega,rfl⟩
  |false=>
   rw[hb]at h;obtain⟨h1,h2,h3⟩:=xf f m (s+1) t v h;exact⟨by omega,by omega,h3⟩
theorem uh (f:Nat→Value):∀(m s t:Nat),s≤t→t<s+m→∃v,lk ((List.range' s m).map fun t=>(t,f t)) t=some v
 |0,s,t,h1,h2=>by omega
 |m+1,s,t,h1,h2=>by
  simp only[List.range'_succ,List.map_cons,lk]
  cases hb:Nat.beq s t with
  |true=>exact⟨_,rfl⟩
  |false=>
   have:s≠t:=fun e=>by subst e;simp[Nat.beq_refl]at hb
   exact uh f m (s+1) t (by omega) (by omega)
def Sn (F:List (Nat×aD)) (D:Nat→Prop):aD:=fun b=>∃p∈F,D p.1∧p.2 b
structure Inv (F:List (Nat×aD)) (S:List (cG M)) (l:List Oper) (w0:World) (L:Sl) (ds:List Deferred) (n:Nat) (D:Nat→Prop) (a:Act) (w:World):Prop where
 step:Step M w0 M w (Sn F D)
 fin:∀i o s,l[i]? =some o→S[i]? =some s→D i→o.dst=none→∃v,s.p v w
 size:n≤a.tmps.size
 defers:a.defers=ds
 done:∀i o s d,l[i]? =some o→S[i]? =some s→D i→o.dst=some d→∃v,a.tmps[d]? =some v∧s.p v w
 base:∀t v,lk L t=some v→(∀i o,l[i]? =some o→D i→o.dst≠some t)→a.tmps[t]? =some v
 closed:∀i o,l[i]? =some o→D i→∀k∈cy o,D k
theorem cR:∀{l:List Oper} {k:Nat},eK l k=true→∀i o,l[i]? =some o→∀j∈cy o,j<k+i
 |[],_,_,i,o,h,_,_=>by simp at h
 |x::l,k,hl,0,o,h,j,hj=>by
  simp at h;subst h;simp only[eK,Bool.and_eq_true,List.all_eq_true]at hl;have:=hl.1.1 j hj;simpa[Nat.blt_eq]using this
 |x::l,k,hl,i+1,o,h,j,hj=>by
  simp only[eK,Bool.and_eq_true]at hl;have:=cR hl.2 i o (by simpa using h) j hj;omega
theorem vU:∀{l:List Oper} {k:Nat},eK l k=true→∀(i j:Nat) (o o':Oper) (d:Nat),l[i]? =some o→l[j]? =some o'→i≠j→o.dst=some d→o'.dst≠some d
 |[],_,_,i,_,_,_,_,h,_,_,_=>by simp at h
 |x::l,k,hl,0,0,_,_,_,_,_,eN,_=>absurd rfl eN
 |x::l,k,hl,0,j+1,o,o',d,hi,hj,_,hd=>by
  simp at hi;subst hi;simp only[eK,Bool.and_eq_true,hd,List.all_eq_true]at hl;have hm:o'∈l:=List.mem_of_getElem? (by simpa using hj);have:=hl.1.2 o' hm;simpa using this
 |x::l,k,hl,i+1,0,o,o',d,hi,hj,_,hd=>by
  simp at hj;subst hj;intro PN;simp only[eK,Bool.and_eq_true,PN,List.all_eq_true]at hl;have hm:o∈l:=List.mem_of_getElem? (by simpa using hi);have:=hl.1.2 o hm;simp[hd]at this
 |x::l,k,hl,i+1,j+1,o,o',d,hi,hj,eN,hd=>by
  simp only[eK,Bool.and_eq_true]at hl;exact vU hl.2 i j o o' d (by simpa using hi) (by simpa using hj) (by omega) hd
theorem dA.get {w:World} {l:List Oper} {S:List (cG M)} {ds:List Deferred} {L:Sl}:∀{os:List Oper} {ss:List (cG M)} {k:Nat},dA P r n F w l S ds L os ss k→∀i o,os[i]? =some o→∃s,ss[i]? =some s∧X5 P r n F w l S ds L (k+i) o s
 |[],_,_,_,i,o,h=>by simp at h
 |x::os,[],_,h,_,_,_=>by simp[dA]at h
 |x::os,s::ss,k,h,0,o,hi=>by simp at hi;subst hi;exact⟨s,rfl,h.1⟩
 |x::os,s::ss,k,h,i+1,o,hi=>by
  obtain⟨s',h1,h2⟩:=dA.get h.2 i o (by simpa using hi);exact⟨s',by simpa using h1,by rwa [show k+(i+1)=k+1+i from by omega]⟩
theorem mB.use {l:List Oper} {S:List (cG M)} {w:World} {k:Sl→Prop} {a:Act} {js:List Nat} (hf:∀(i:Nat) (o:Oper) (s:cG M),l[i]? =some o→S[i]? =some s→o.dst=none→i∈js→∃v,s.p v w) (hd:∀(i:Nat) (o:Oper) (s:cG M) (d:Nat),l[i]? =some o→S[i]? =some s→o.dst=some d→i∈js→∃v,a.tmps[d]? =some v∧s.p v w):
  ∀(is:List Nat) (acc:Sl),(∀i∈is,i∈js)→(∀t v,lk acc t=some v→a.tmps[t]? =some v)→mB l S w k is acc→∃Lx,k Lx∧∀t v,lk Lx t=some v→a.tmps[t]? =some v
 |[],acc,_,ha,h=>⟨acc,h,ha⟩
 |i::is,acc,hm,ha,h=>by
  have yh:∀i∈is,i∈js:=fun x hx=>hm x (List.mem_cons_of_mem _ hx)
  simp only[mB]at h
  split at h
  ·rename_i o s ho hs
   split at h
   ·rename_i d Cd
    obtain⟨v,h1,h2⟩:=hd i o s d ho hs Cd (hm i (List.mem_cons_self ..));refine mB.use hf hd is _ yh ?_ (h v h2);intro t u hu;simp only[lk]at hu
    cases hb:Nat.beq d t with
    |true=>rw[hb]at hu;cases hu;rw[←Nat.eq_of_beq_eq_true hb];exact h1
    |false=>rw[hb]at hu;exact ha t u hu
   ·rename_i Cd
    obtain⟨v,h2⟩:=hf i o s ho hs Cd (hm i (List.mem_cons_self ..));exact mB.use hf hd is _ yh ha (h v h2)
  ·exact mB.use hf hd is _ yh ha h
theorem gD.use {w:World} {k:Sl→Prop} {a:Act}:∀(os:List Oper) (ss:List (cG M)) (acc:Sl),(∀(i:Nat) (o:Oper) (s:cG M),os[i]? =some o→ss[i]? =some s→o.dst=none→∃v,s.p v w)→(∀(i:Nat) (o:Oper) (s:cG M) (d:Nat),os[i]? =some o→ss[i]? =some s→o.dst=some d→∃v,a.tmps[d]? =some v∧s.p v w)→
  (∀t v,lk acc t=some v→a.tmps[t]? =some v)→gD w k os ss acc→∃Lx,k Lx∧∀t v,lk Lx t=some v→a.tmps[t]? =some v
 |[],_,acc,_,_,ha,h=>⟨acc,by simpa[gD]using h,ha⟩
 |_::_,[],acc,_,_,ha,h=>⟨acc,by simpa[gD]using h,ha⟩
 |o::os,s::ss,acc,hf,hd,ha,h=>by
  have hf':∀(i:Nat) (o:Oper) (s:cG M),os[i]? =some o→ss[i]? =some s→o.dst=none→∃v,s.p v w:=fun i o s h1 h2=>hf (i+1) o s (by simpa using h1) (by simpa using h2)
  have PN:∀(i:Nat) (o:Oper) (s:cG M) (d:Nat),os[i]? =some o→ss[i]? =some s→o.dst=some d→∃v,a.tmps[d]? =some v∧s.p v w:=fun i o s d h1 h2=>hd (i+1) o s d (by simpa using h1) (by simpa using h2)
  simp only[gD]at h
  split at h
  ·rename_i d Cd
   obtain⟨v,h1,h2⟩:=hd 0 o s d rfl rfl Cd;refine gD.use os ss _ hf' PN ?_ (h v h2);intro t u hu;simp only[lk]at hu
   cases hb:Nat.beq d t with
   |true=>rw[hb]at hu;cases hu;rw[←Nat.eq_of_beq_eq_true hb];exact h1
   |false=>rw[hb]at hu;exact ha t u hu
  ·rename_i Cd
   obtain⟨v,h2⟩:=hf 0 o s rfl rfl Cd;exact gD.use os ss _ hf' PN ha (h v h2)
theorem nA {F:Fence} {m:Nat} {ops:Array Oper} {Q:Exit→Act→World→Prop} {i:Nat} {rest:List Nat} {o:Oper} {a:Act} {w:World} (ho:ops[i]? =some o)
  (h:wpListIn F m P ops (fun e a' w'=>e= .normal∧wpOpsIn F m P ops Q rest a' w') [o] a w):wpOpsIn F m P ops Q (i::rest) a w:=by
 simp only[wpOpsIn,ho];simp only[wpListIn]at h
 split
 ·rename_i hw
  rw[if_pos hw]at h;obtain⟨h1,h2⟩:=h;refine⟨h1,?_⟩;generalize (o.semAt F.round a.eval).run P w=res at h2 ⊢
  have YM:∀{f args w'},CallsIn F (m-1) P f args w' (fun
    |.returned v,xV=>(True∧wpOpsIn F m P ops Q rest (a.put o.dst v) xV)
    |.panicked chain,xV=>(Exit.panic chain= .normal∧wpOpsIn F m P ops Q rest a xV)
    |.outgrown,_=>LetsOut (fun e a' w'=>e= .normal∧wpOpsIn F m P ops Q rest a' w'))→CallsIn F (m-1) P f args w' (fun
    |.returned v,xV=>wpOpsIn F m P ops Q rest (a.put o.dst v) xV
    |.panicked chain,xV=>Q (.panic chain) a xV
    |.outgrown,_=>LetsOut Q):=fun h=>h.mono fun e xV he=>by
   cases e with
   |returned v=>exact he.2
   |panicked c=>exact absurd he.1 (by simp)
   |outgrown=>obtain⟨a,w,h,_⟩:=he;exact absurd h (by simp)
  cases res with
  |ok nx w'=>
   cases nx with
   |value v=>exact h2.2
   |skip=>exact h2.2
   |defer d=>exact h2.2
   |enter f args=>exact⟨h2.1,YM h2.2⟩
   |row row args=>exact⟨h2.1,h2.2.mono fun _ _ he=>he.2⟩
   |round l f tmps su body=>exact⟨h2.1,h2.2.mono fun e xV he=>by
     cases e with
     |returned v=>exact he.2
     |panicked c=>exact absurd he.1 (by simp)
     |outgrown=>obtain⟨a,w,h,_⟩:=he;exact absurd h (by simp)⟩
   |_=>exact h2.elim
  |halt x w'=>
   cases x with
   |panic v=>exact absurd h2.1 (by simp)
   |_=>exact h2.elim
 ·rename_i hw
  rw[if_neg hw]at h;exact⟨h.1,h.2.2⟩
theorem yK {F:Fence} {m:Nat} {ops:Array Oper} {Q Q':Exit→Act→World→Prop} {o:Oper} {a:Act} {w:World} (h:wpListIn F m P ops Q [o] a w) (hq:∀e a w,Q e a w→Q' e a w):wpListIn F m P ops Q' [o] a w:=by
 simp only[wpListIn]at h ⊢
 split
 ·rename_i hw
  rw[if_pos hw]at h;obtain⟨h1,h2⟩:=h;refine⟨h1,?_⟩;generalize (o.semAt F.round a.eval).run P w=res at h2 ⊢
  cases res with
  |ok nx w'=>
   cases nx with
   |value v=>exact hq _ _ _ h2
   |skip=>exact hq _ _ _ h2
   |defer d=>exact hq _ _ _ h2
   |enter f args=>exact⟨h2.1,h2.2.mono fun e xV he=>by
     cases e with
     |returned v=>exact hq _ _ _ he
     |panicked c=>exact hq _ _ _ he
     |outgrown=>obtain⟨a,w,h⟩:=he;exact⟨a,w,hq _ _ _ h⟩⟩
   |row row args=>exact⟨h2.1,h2.2.mono fun _ _ he=>hq _ _ _ he⟩
   |round l f tmps su body=>exact⟨h2.1,h2.2.mono fun e xV he=>by
     cases e with
     |returned v=>exact hq _ _ _ he
     |panicked c=>exact hq _ _ _ he
     |outgrown=>obtain⟨a,w,h⟩:=he;exact⟨a,w,hq _ _ _ h⟩⟩
   |_=>exact h2.elim
  |halt x w'=>
   cases x with
   |panic v=>exact hq _ _ _ h2
   |_=>exact h2.elim
 ·rename_i hw
  rw[if_neg hw]at h;exact⟨h.1,hq _ _ _ h.2⟩
theorem Inv.next {w0:World} {l:List Oper} {S:List (cG M)} {D:Nat→Prop} {a:Act} {w:World} (hi:Inv F S l w0 L ds n D a w) (dr:eK l 0=true) (xg:yJ F l S) (ph:∀p∈F,∀b,p.2 b→M b)
  {j:Nat} {o:Oper} (kZ:∃s,S[j]? =some s∧X5 P r n F w0 l S ds L j o s) (hj:l[j]? =some o) (pY: ¬D j) (hp:∀k∈cy o,D k) {Q:Exit→Act→World→Prop} {rest:List Nat}
  (hk:∀a' w',Inv F S l w0 L ds n (fun i=>i=j∨D i) a' w'→wpOpsIn (FW r) 0 P l.toArray Q rest a' w'):wpOpsIn (FW r) 0 P l.toArray Q (j::rest) a w:=by
 obtain⟨s,hs,ho⟩:=kZ
 have rS:Step M w0 M w (YJ l F j):=hi.step.cB (fun b ⟨p,hp,hD,hb⟩=>fC.2 ⟨p.2,List.mem_map.2 ⟨p,List.mem_filter.2 ⟨hp,by
   simp only[Bool.and_eq_true,Bool.not_eq_true',beq_eq_false_iff_ne,ne_eq];refine⟨fun e=>pY (e▸hD),?_⟩
   cases hl:l[p.1]? with
   |none=>rfl
   |some oi=>
    simp only[Option.map_some,Option.getD_some]
    cases hc:(cy oi).contains j with
    |false=>rfl
    |true=>exact absurd (hi.closed p.1 oi hl hD j (by simpa using hc)) pY⟩,rfl⟩,hb⟩)
  (fun b hb=>by
   obtain⟨N,hN,JB⟩:=fC.1 hb;obtain⟨p,hp,rfl⟩:=List.mem_map.1 hN;exact ph p (List.mem_filter.1 hp).1 b JB)
 have vV:∀b,Lv F j b→∃p∈F,p.1=j∧p.2 b:=fun b hb=>by
  obtain⟨N,hN,JB⟩:=fC.1 hb;obtain⟨p,hp,rfl⟩:=List.mem_map.1 hN;obtain⟨h1,h2⟩:=List.mem_filter.1 hp;exact⟨p,h1,by simpa using h2,JB⟩
 have Gw:Step M w0 M w (Sn F fun i=>i=j∨D i):=hi.step.cB (fun b ⟨p,hp,hD,hb⟩=>⟨p,hp,.inr hD,hb⟩) (fun b ⟨p,hp,_,hb⟩=>ph p hp b hb);refine nA (o:=o) (by simpa using hj) ?_;obtain⟨acc,AN,UC⟩:=mB.use (a:=a) (js:=cy o) (fun i o' s' h1 h2 h3 h4=>hi.fin i o' s' h1 h2 (hp i h4) h3) (fun i o' s' d h1 h2 h3 h4=>hi.done i o' s' d h1 h2 (hp i h4) h3) (cy o) [] (fun _ h=>h) (fun t v h=>by simp[lk]at h) (ho w (JC a) rS)
 have iA:∀t v,lk (acc++(kz l j L++JC a)) t=some v→a.tmps[t]? =some v:=by
  intro t v h;rcases mf h with h|h
  ·exact UC t v h
  rcases mf h with h|h
  ·obtain⟨h1,h2⟩:=kf (f:=lz l j) h;refine hi.base t v h2 fun i o' iy hD hd=> ?_
   simp only[lz,List.all_eq_true]at h1;have:=h1 o' (List.mem_of_getElem? iy);simp only[hd,beq_self_eq_true,Bool.not_true,Bool.false_or,List.contains_iff_mem]at this;exact pY (hi.closed i o' iy hD j this)
  ·simp only[JC,List.range_eq_range']at h;obtain⟨_,h2,h3⟩:=xf _ _ _ _ _ h;rw[h3,Array.getD_eq_getD_getElem?,Array.getElem?_eq_getElem (by omega)];rfl
 have Sq:∀t,t<a.tmps.size→∃v,lk (acc++(kz l j L++JC a)) t=some v:=fun t ht=>by
  refine qA (qA ?_);simp only[JC,List.range_eq_range'];exact uh _ _ _ _ (Nat.zero_le _) (by omega)
 have h1:=AN.run a ⟨hi.size,hi.defers,iA⟩
 have key:∀e a' w',up n (YL F j o.dst s w (acc++(kz l j L++JC a)) ds) e a' w'→e= .normal∧wpOpsIn (FW r) 0 P l.toArray Q rest a' w':=by
  rintro e a' w' ⟨L',qw,rR,rfl,rfl,v,rfl,Sr,kM⟩;refine⟨rfl,hk a' w' ⟨Gw.trans kM fun b _ hb=>by obtain⟨p,h1,h2,h3⟩:=vV b hb;exact⟨p,h1,.inl h2,h3⟩,?_,rR.size,rR.defers,?_,?_,?_⟩⟩
  ·intro i o' s' h2 h3 h4 h5;by_cases jq:i=j
   ·subst jq;rw[hj]at h2;cases h2;rw[hs]at h3;cases h3;exact⟨v,Sr⟩
   ·have Dv:D i:=h4.resolve_left jq;obtain⟨u,sw⟩:=hi.fin i o' s' h2 h3 Dv h5;exact⟨u,xg i o' s' j o s h2 h3 hj hs (fun e=>jq e.symm) (fun PI=>pY (hi.closed i o' h2 Dv j PI)) u v w w' sw kM Sr⟩
  ·intro i o' s' d h2 h3 h4 h5;by_cases jq:i=j
   ·subst jq;rw[hj]at h2;cases h2;rw[hs]at h3;cases h3;exact⟨v,rR.at_ d v (by rw[h5];simp[JA,lk,Nat.beq_refl]),Sr⟩
   ·have Dv:D i:=h4.resolve_left jq;obtain⟨u,Ss,sw⟩:=hi.done i o' s' d h2 h3 Dv h5;refine⟨u,?_,xg i o' s' j o s h2 h3 hj hs (fun e=>jq e.symm) (fun PI=>pY (hi.closed i o' h2 Dv j PI)) u v w w' sw kM Sr⟩;have UD:d<a.tmps.size:=(Array.getElem?_eq_some_iff.1 Ss).1;obtain⟨u',UE⟩:=Sq d UD;have e1:=iA d u' UE;rw[Ss]at e1;cases e1;refine rR.at_ d u ?_
    cases hod:o.dst with
    |none=>simpa[JA]using UE
    |some d'=>
     have eN:d'≠d:=fun e=>vU dr i j o' o d h2 hj jq h5 (by rw[hod,e])
     have hb:Nat.beq d' d=false:=by
      cases hb:Nat.beq d' d with
      |false=>rfl
      |true=>exact absurd (Nat.eq_of_beq_eq_true hb) eN
     simp only[JA,lk,hb];exact UE
  ·intro t u ht UF;have ko:o.dst≠some t:=UF j o hj (.inl rfl);have e1:=hi.base t u ht fun i o' h2 h3=>UF i o' h2 (.inr h3)
   have UD:t<a.tmps.size:=(Array.getElem?_eq_some_iff.1 e1).1;obtain⟨u',UE⟩:=Sq t UD;have e2:=iA t u' UE;rw[e1]at e2;cases e2;refine rR.at_ t u ?_
   cases hod:o.dst with
   |none=>simpa[JA]using UE
   |some d'=>
    have eN:d'≠t:=fun e=>ko (by rw[hod,e])
    have hb:Nat.beq d' t=false:=by
     cases hb:Nat.beq d' t with
     |false=>rfl
     |true=>exact absurd (Nat.eq_of_beq_eq_true hb) eN
    simp only[JA,lk,hb];exact UE
  ·intro i o' h2 h3 k uj;rcases h3 with rfl|h3
   ·rw[hj]at h2;cases h2;exact .inr (hp k uj)
   ·exact .inr (hi.closed i o' h2 h3 k uj)
 clear hk ho xg;simp only[wpListIn]at h1 ⊢
 split
 ·rename_i hw
  rw[if_pos hw]at h1;obtain⟨h3,h4⟩:=h1;refine⟨h3,?_⟩;generalize (o.semAt (FW r).round a.eval).run P w=res at h4 ⊢
  cases res with
  |ok nx w'=>
   cases nx with
   |value v=>exact⟨trivial,(key _ _ _ h4).2⟩
   |skip=>exact⟨trivial,(key _ _ _ h4).2⟩
   |defer d=>exact⟨trivial,(key _ _ _ h4).2⟩
   |enter f args=>exact⟨h4.1,h4.2.mono fun e xV he=>by
     cases e with
     |returned v=>exact⟨trivial,(key _ _ _ he).2⟩
     |panicked c=>exact key _ _ _ he
     |outgrown=>obtain⟨a,w,h⟩:=he;exact⟨a,w,key _ _ _ h⟩⟩
   |row row args=>exact⟨h4.1,h4.2.mono fun _ _ he=>⟨trivial,(key _ _ _ he).2⟩⟩
   |round l f tmps su body=>exact⟨h4.1,h4.2.mono fun e xV he=>by
     cases e with
     |returned v=>exact⟨trivial,(key _ _ _ he).2⟩
     |panicked c=>exact key _ _ _ he
     |outgrown=>obtain⟨a,w,h⟩:=he;exact⟨a,w,key _ _ _ h⟩⟩
   |_=>exact h4.elim
  |halt x w'=>
   cases x with
   |panic v=>exact key _ _ _ h4
   |_=>exact h4.elim
 ·rename_i hw
  rw[if_neg hw]at h1;exact⟨h1.1,trivial,(key _ _ _ h1.2).2⟩
theorem jt:∀{bs:List Bool},bs.countP (!·)=0→∀i,i<bs.length→bs[i]? =some true
 |[],_,i,h=>by simp at h
 |b::bs,h,0,_=>by
  cases b with
  |true=>rfl
  |false=>simp at h
 |b::bs,h,i+1,hi=>by
  cases b with
  |true=>simpa using jt (bs:=bs) (by simpa using h) i (by simpa using hi)
  |false=>simp at h
theorem k3:∀{bs:List Bool} {i:Nat},bs[i]? =some false→(bs.set i true).countP (!·)+1=bs.countP (!·)
 |[],i,h=>by simp at h
 |b::bs,0,h=>by simp at h;subst h;simp
 |b::bs,i+1,h=>by
  have:=k3 (bs:=bs) (i:=i) (by simpa using h);rw[List.set_cons_succ,List.countP_cons,List.countP_cons];omega
theorem mC {bs:List Bool} (h:0<bs.countP (!·)):∃i:Nat,bs[i]? =some false∧∀k:Nat,k<i→bs[k]? =some true:=by
 induction bs with
 |nil=>simp at h
 |cons b bs ih=>
  cases b with
  |false=>exact⟨0,rfl,fun k hk=>by omega⟩
  |true=>
   obtain⟨i,h1,h2⟩:=ih (by simpa using h)
   exact⟨i+1,by simpa using h1,fun k hk=>by
    cases k with
    |zero=>rfl
    |succ k=>simpa using h2 k (by omega)⟩
theorem JD {w0:World} {l:List Oper} {S:List (cG M)} (dr:eK l 0=true) (kZ:dA P r n F w0 l S ds L l S 0) (xg:yJ F l S) (ph:∀p∈F,∀b,p.2 b→M b) {Q:Exit→Act→World→Prop}
  (kA:∀a w,Inv F S l w0 L ds n (fun i=>i<l.length) a w→Q .normal a w):∀(fuel t:Nat) (listed:Array Bool) (a:Act) (w:World),listed.size=l.length→listed.toList.countP (!·)=fuel→
  Inv F S l w0 L ds n (fun i=>listed[i]? =some true) a w→wpOpsIn (FW r) 0 P l.toArray Q (Region.linearise.go .any l.toArray fuel t listed []) a w:=by
 intro fuel
 induction fuel with
 |zero=>
  intro t listed a w jW hc hi;simp only[Region.linearise.go,List.reverse_nil,wpOpsIn];refine kA a w ⟨hi.step.cB (fun b ⟨p,hp,hD,hb⟩=>⟨p,hp,by have:=(Array.getElem?_eq_some_iff.1 hD).1;omega,hb⟩) (fun b ⟨p,hp,_,hb⟩=>ph p hp b hb),fun i o s h1 h2 h3=>hi.fin i o s h1 h2 (by simpa using jt hc i (by simp[jW];exact h3)),hi.size,hi.defers,fun i o s d h1 h2 h3=>hi.done i o s d h1 h2 ?_,fun t v h1 h2=>hi.base t v h1 fun i o h3 h4=>h2 i o h3 ?_,fun i o h1 h2 k hk=>?_⟩
  ·simpa using jt hc i (by simp[jW];exact h3)
  ·exact(List.getElem?_eq_some_iff.1 h3).1
  ·have:=cR dr i o h1 k hk;omega
 |succ fuel ih=>
  intro t listed a w jW hc hi
  have mD:∀j,j∈Region.ready .any l.toArray listed→∃o,l[j]? =some o∧listed[j]? =some false∧∀k∈cy o,listed[k]? =some true:=by
   intro j hj;simp only[Region.ready,List.mem_filter,List.mem_range,Bool.and_eq_true]at hj;obtain⟨h1,h2,h3⟩:=hj;have dY:j<l.length:=by simpa using h1
   refine⟨l[j],List.getElem?_eq_getElem dY,?_,?_⟩
   ·rw[Array.getElem?_eq_getElem (by omega)];simp only[Array.getD_eq_getD_getElem?,Array.getElem?_eq_getElem (show j<listed.size by omega),Option.getD_some,Bool.not_eq_true']at h2;rw[h2]
   ·intro k hk;simp only[cy,List.mem_map,List.mem_filter]at hk;obtain⟨e,⟨Ly,Lz⟩,rfl⟩:=hk;have h4:l.toArray[j]? =some l[j]:=by simp[dY]
    rw[h4]at h3;simp only[Option.map_some,Option.getD_some,Array.all_eq_true_iff_forall_mem]at h3;have h5:=h3 e (by simpa using Ly);rw[Lz]at h5;simp only[Bool.not_true,Bool.false_or,Array.getD_eq_getD_getElem?]at h5
    cases hx:listed[e.on]? with
    |none=>simp[hx]at h5
    |some b=>simp[hx]at h5;rw[h5]
  have eN:Region.ready .any l.toArray listed≠[]:=by
   obtain⟨i,h1,h2⟩:=mC (bs:=listed.toList) (by omega)
   have dY:i<l.length:=by
    have:=(List.getElem?_eq_some_iff.1 h1).1;simp at this;omega
   intro rT
   have eV:i∈Region.ready .any l.toArray listed:=by
    simp only[Region.ready,List.mem_filter,List.mem_range,Bool.and_eq_true];refine⟨by simpa using dY,?_,?_⟩
    ·have:listed[i]? =some false:=by simpa using h1
     simp[Array.getD_eq_getD_getElem?,this]
    ·have h4:l.toArray[i]? =some l[i]:=by simp[dY]
     rw[h4];simp only[Option.map_some,Option.getD_some,Array.all_eq_true_iff_forall_mem];intro e he
     cases hb:Region.binds .any e with
     |false=>rfl
     |true=>
      have hk:e.on∈cy l[i]:=by
       simp only[cy,List.mem_map,List.mem_filter];exact⟨e,⟨by simpa using he,hb⟩,rfl⟩
      have Qf:=cR dr i l[i] (List.getElem?_eq_getElem dY) _ hk;have:listed[e.on]? =some true:=by simpa using h2 e.on (by omega)
      simp[Array.getD_eq_getD_getElem?,this]
   rw[rT]at eV;cases eV
  simp only[Region.linearise.go]
  change wpOpsIn (FW r) 0 P l.toArray Q (match (Region.ready .any l.toArray listed)[t%(Region.ready .any l.toArray listed).length]? with
   |some i=>Region.linearise.go .any l.toArray fuel (t/(Region.ready .any l.toArray listed).length) (listed.setIfInBounds i true) [i]
   |none=>[].reverse) a w
  have dY:t%(Region.ready .any l.toArray listed).length<(Region.ready .any l.toArray listed).length:=Nat.mod_lt _ (List.length_pos_iff.2 eN);rw[List.getElem?_eq_getElem dY];have eV:=List.getElem_mem dY;generalize (Region.ready .any l.toArray listed)[t%(Region.ready .any l.toArray listed).length]=j at eV;obtain⟨o,h1,h2,h3⟩:=mD j eV;simp only[];rw[linearise_go_acc,List.reverse_singleton,List.singleton_append];refine hi.next dr xg ph (by have:=kZ.get j o h1;rwa [Nat.zero_add]at this) h1 (by rw[h2];simp) h3 fun a' w' iy=> ?_
  have xT:listed.toList[j]? =some false:=by simpa using h2
  refine ih _ _ _ _ (by simpa using jW) ?_ ?_
  ·have:=k3 xT;simp only[Array.toList_setIfInBounds];omega
  ·have Ce:j<listed.size:=(Array.getElem?_eq_some_iff.1 h2).1
   have jM:∀i,((listed.setIfInBounds j true)[i]? =some true)↔(i=j∨listed[i]? =some true):=by
    intro i;rw[Array.getElem?_setIfInBounds];by_cases jq:j=i
    ·subst jq;simp[Ce]
    ·rw[if_neg jq];exact⟨.inr,fun h=>h.resolve_left (fun e=>jq e.symm)⟩
   exact⟨iy.step.cB (fun b ⟨p,hp,hD,hb⟩=>⟨p,hp,(jM p.1).2 hD,hb⟩) (fun b ⟨p,hp,_,hb⟩=>ph p hp b hb),fun i o s h1 h2 h3=>iy.fin i o s h1 h2 ((jM i).1 h3),iy.size,iy.defers,fun i o s d h1 h2 h3=>iy.done i o s d h1 h2 ((jM i).1 h3),fun t v h1 h2=>iy.base t v h1 fun i o h3 h4=>h2 i o h3 ((jM i).2 h4),fun i o h1 h2 k hk=>(jM k).2 (iy.closed i o h1 ((jM i).1 h2) k hk)⟩
theorem Qg {w0:World} {l:List Oper} {o₁:Oper} {S:List (cG M)} (dr:eK (l++[o₁]) 0=true) (ju:(List.range l.length).all (fun i=>(cy o₁).contains i||(cy o₁).any (fun k=>(((l++[o₁])[k]?.map cy).getD []).contains i))=true) (Bi:S.length=l.length) (kZ:dA P r n F w0 (l++[o₁]) S ds L l S 0) (xg:yJ F (l++[o₁]) S) (ph:∀p∈F,∀b,p.2 b→M b) {Q:Exit→Act→World→Prop}
  (kA:∀a w,Inv F S (l++[o₁]) w0 L ds n (fun i=>i<l.length) a w→wpListIn (FW r) 0 P (l++[o₁]).toArray (fun e a' w'=>e= .normal∧Q .normal a' w') [o₁] a w):∀(fuel t:Nat) (listed:Array Bool) (a:Act) (w:World),listed.size=(l++[o₁]).length→listed.toList.countP (!·)=fuel→listed[l.length]? =some false→
  Inv F S (l++[o₁]) w0 L ds n (fun i=>listed[i]? =some true) a w→wpOpsIn (FW r) 0 P (l++[o₁]).toArray Q (Region.linearise.go .any (l++[o₁]).toArray fuel t listed []) a w:=by
 intro fuel
 induction fuel with
 |zero=>
  intro t listed a w jW hc yk hi;have:=jt hc l.length (by simp[jW]);have h2:listed.toList[l.length]? =some false:=by simpa using yk
  rw[h2]at this;cases this
 |succ fuel ih=>
  intro t listed a w jW hc yk hi;have Jy:(l++[o₁]).length=l.length+1:=by simp
  have mD:∀j,j∈Region.ready .any (l++[o₁]).toArray listed→∃o,(l++[o₁])[j]? =some o∧listed[j]? =some false∧∀k∈cy o,listed[k]? =some true:=by
   intro j hj;simp only[Region.ready,List.mem_filter,List.mem_range,Bool.and_eq_true]at hj;obtain⟨h1,h2,h3⟩:=hj;have dY:j<(l++[o₁]).length:=by simpa using h1
   refine⟨(l++[o₁])[j],List.getElem?_eq_getElem dY,?_,?_⟩
   ·rw[Array.getElem?_eq_getElem (by omega)];simp only[Array.getD_eq_getD_getElem?,Array.getElem?_eq_getElem (show j<listed.size by omega),Option.getD_some,Bool.not_eq_true']at h2;rw[h2]
   ·intro k hk;simp only[cy,List.mem_map,List.mem_filter]at hk;obtain⟨e,⟨Ly,Lz⟩,rfl⟩:=hk;have h4:(l++[o₁]).toArray[j]? =some (l++[o₁])[j]:=by rw[List.getElem?_toArray];exact List.getElem?_eq_getElem dY
    rw[h4]at h3;simp only[Option.map_some,Option.getD_some,Array.all_eq_true_iff_forall_mem]at h3;have h5:=h3 e (by simpa using Ly);rw[Lz]at h5;simp only[Bool.not_true,Bool.false_or,Array.getD_eq_getD_getElem?]at h5
    cases hx:listed[e.on]? with
    |none=>simp[hx]at h5
    |some b=>simp[hx]at h5;rw[h5]
  have eN:Region.ready .any (l++[o₁]).toArray listed≠[]:=by
   obtain⟨i,h1,h2⟩:=mC (bs:=listed.toList) (by omega)
   have dY:i<(l++[o₁]).length:=by
    have:=(List.getElem?_eq_some_iff.1 h1).1;simp only[Array.length_toList]at this;omega
   intro rT
   have eV:i∈Region.ready .any (l++[o₁]).toArray listed:=by
    simp only[Region.ready,List.mem_filter,List.mem_range,Bool.and_eq_true];refine⟨by simpa using dY,?_,?_⟩
    ·have:listed[i]? =some false:=by simpa using h1
     simp[Array.getD_eq_getD_getElem?,this]
    ·have h4:(l++[o₁]).toArray[i]? =some (l++[o₁])[i]:=by rw[List.getElem?_toArray];exact List.getElem?_eq_getElem dY
     rw[h4];simp only[Option.map_some,Option.getD_some,Array.all_eq_true_iff_forall_mem];intro e he
     cases hb:Region.binds .any e with
     |false=>rfl
     |true=>
      have hk:e.on∈cy (l++[o₁])[i]:=by
       simp only[cy,List.mem_map,List.mem_filter];exact⟨e,⟨by simpa using he,hb⟩,rfl⟩
      have Qf:=cR dr i (l++[o₁])[i] (List.getElem?_eq_getElem dY) _ hk;have:listed[e.on]? =some true:=by simpa using h2 e.on (by omega)
      simp[Array.getD_eq_getD_getElem?,this]
   rw[rT]at eV;cases eV
  simp only[Region.linearise.go]
  change wpOpsIn (FW r) 0 P (l++[o₁]).toArray Q (match (Region.ready .any (l++[o₁]).toArray listed)[t%(Region.ready .any (l++[o₁]).toArray listed).length]? with
   |some i=>Region.linearise.go .any (l++[o₁]).toArray fuel (t/(Region.ready .any (l++[o₁]).toArray listed).length) (listed.setIfInBounds i true) [i]
   |none=>[].reverse) a w
  have dY:t%(Region.ready .any (l++[o₁]).toArray listed).length<(Region.ready .any (l++[o₁]).toArray listed).length:=Nat.mod_lt _ (List.length_pos_iff.2 eN);rw[List.getElem?_eq_getElem dY];have eV:=List.getElem_mem dY;generalize (Region.ready .any (l++[o₁]).toArray listed)[t%(Region.ready .any (l++[o₁]).toArray listed).length]=j at eV;obtain⟨o,h1,h2,h3⟩:=mD j eV;simp only[];rw[linearise_go_acc,List.reverse_singleton,List.singleton_append];have xU:j<l.length+1:=by have:=(List.getElem?_eq_some_iff.1 h1).1;omega
  have xT:listed.toList[j]? =some false:=by simpa using h2
  have YN:=k3 xT;by_cases Bj:j=l.length
  ·subst Bj;have ho:o=o₁:=by simpa using h1.symm
   subst ho
   have pZ:∀i,i<l.length→listed[i]? =some true:=fun i iy=>by
    have:=List.all_eq_true.1 ju i (List.mem_range.2 iy);simp only[Bool.or_eq_true,List.contains_iff_mem,List.any_eq_true]at this;rcases this with h|⟨k,uk,Cf⟩
    ·exact h3 i h
    ·cases hlk:(l++[o])[k]? with
     |none=>rw[hlk]at Cf;simp at Cf
     |some ok=>rw[hlk]at Cf;exact hi.closed k ok hlk (h3 k uk) i (by simpa using Cf)
   have hf0:fuel=0:=by
    have hz:(listed.toList.set l.length true).countP (!·)=0:=by
     rw[List.countP_eq_zero];intro b hb;obtain⟨i,iy⟩:=List.mem_iff_getElem?.1 hb;rw[List.getElem?_set]at iy
     split at iy
     ·split at iy
      ·cases iy;simp
      ·cases iy
     ·have ou:=(List.getElem?_eq_some_iff.1 iy).1;simp only[Array.length_toList]at ou;have:=pZ i (by omega);have h9:listed.toList[i]? =some true:=by simpa using this
      rw[iy]at h9;cases h9;simp
    omega
   subst hf0;simp only[Region.linearise.go,List.reverse_nil];refine nA (o:=o) (by simp) ?_;refine kA a w ⟨hi.step.cB (fun b ⟨p,hp,hD,hb⟩=>⟨p,hp,?_,hb⟩) (fun b ⟨p,hp,_,hb⟩=>ph p hp b hb),fun i o s h1 h2 h3=>hi.fin i o s h1 h2 (pZ i h3),hi.size,hi.defers,fun i o s d h1 h2 h3=>hi.done i o s d h1 h2 (pZ i h3),fun t v h4 h5=>hi.base t v h4 fun i o' h6 h7=>h5 i o' h6 ?_,fun i o' h4 h5 k hk=>?_⟩
   ·have ou:=(Array.getElem?_eq_some_iff.1 hD).1;rcases Nat.lt_or_ge p.1 l.length with h|h
    ·exact h
    ·have:p.1=l.length:=by omega
     rw[this,yk]at hD;cases hD
   ·rcases Nat.lt_or_ge i l.length with h|h
    ·exact h
    ·have ou:=(List.getElem?_eq_some_iff.1 h6).1;have:i=l.length:=by omega
     rw[this,yk]at h7;cases h7
   ·have:=cR dr i o' h4 k hk;omega
  ·have YO:l[j]? =some o:=by rwa [List.getElem?_append_left (by omega)]at h1
   refine hi.next dr xg ph (by have:=kZ.get j o YO;rwa [Nat.zero_add]at this) h1 (by rw[h2];simp) h3 fun a' w' iy=> ?_
   refine ih _ _ _ _ (by simpa using jW) ?_ ?_ ?_
   ·simp only[Array.toList_setIfInBounds];omega
   ·rw[Array.getElem?_setIfInBounds,if_neg Bj];exact yk
   ·have Ce:j<listed.size:=(Array.getElem?_eq_some_iff.1 h2).1
    have jM:∀i,((listed.setIfInBounds j true)[i]? =some true)↔(i=j∨listed[i]? =some true):=by
     intro i;rw[Array.getElem?_setIfInBounds];by_cases jq:j=i
     ·subst jq;simp[Ce]
     ·rw[if_neg jq];exact⟨.inr,fun h=>h.resolve_left (fun e=>jq e.symm)⟩
    exact⟨iy.step.cB (fun b ⟨p,hp,hD,hb⟩=>⟨p,hp,(jM p.1).2 hD,hb⟩) (fun b ⟨p,hp,_,hb⟩=>ph p hp b hb),fun i o s h1 h2 h3=>iy.fin i o s h1 h2 ((jM i).1 h3),iy.size,iy.defers,fun i o s d h1 h2 h3=>iy.done i o s d h1 h2 ((jM i).1 h3),fun t v h1 h2=>iy.base t v h1 fun i o h3 h4=>h2 i o h3 ((jM i).2 h4),fun i o h1 h2 k hk=>(jM k).2 (iy.closed i o h1 ((jM i).1 h2) k hk)⟩
theorem T.LA {id:Nat} {l:List Oper} {o₁:Oper} (hm:P.follows .mixedOrders=true) (F:List (Nat×aD)) (S:List (cG M)) (dr:eK (l++[o₁]) 0=true) (ju:(List.range l.length).all (fun i=>(cy o₁).contains i||(cy o₁).any (fun k=>(((l++[o₁])[k]?.map cy).getD []).contains i))=true) (Bi:S.length=l.length) (ph:∀p∈F,∀b,p.2 b→M b) (xg:vT F (l++[o₁]) S 0) (kZ:dA P r n F w (l++[o₁]) S ds L l S 0)
  (kA:∀w',Step M w M w' (jL (F.map (·.2)))→gD w' (fun acc=>Rg P r n (l++[o₁]).toArray [o₁] (acc++kz (l++[o₁]) (l.length+1) L) ds w' (fun e L ds w=>e= .normal∧K .normal L ds w)) l S []):T P r n (.region id (l++[o₁]).toArray true) L ds w K:=by
 refine⟨fun a ha=>wpIn_region_draw fun t=>?_⟩;simp only[Region.schedule,hm,Bool.true_or,if_true,Region.linearise];have hd:Step M w M {w with drawn:=w.drawn+1} aC:=me M w;refine Qg (w0:=w) (S:=S) dr ju Bi kZ xg.st ph (Q:=up n K) ?_ _ t _ a _ (by simp) (by simp[List.countP_replicate]) (by simp[Array.getElem?_replicate]) ⟨hd.cB (fun _ h=>h.elim) (fun b ⟨p,hp,_,hb⟩=>ph p hp b hb),?_,ha.size,ha.defers,?_,?_,?_⟩
 ·intro a' w' hi
  have jf:∀{i:Nat} {o:Oper},l[i]? =some o→(l++[o₁])[i]? =some o∧i<l.length:=fun {i o} h=>by
   have h1:=(List.getElem?_eq_some_iff.1 h).1;exact⟨by rw[List.getElem?_append_left h1];exact h,h1⟩
  obtain⟨acc,h1,h2⟩:=gD.use (a:=a') l S [] (fun i o s h1 h2 h3=>hi.fin i o s (jf h1).1 h2 (jf h1).2 h3) (fun i o s d h1 h2 h3=>hi.done i o s d (jf h1).1 h2 (jf h1).2 h3) (fun t v h=>by simp[lk]at h)
   (kA w' (hi.step.cB (fun b ⟨p,hp,_,hb⟩=>fC.2 ⟨p.2,List.mem_map.2 ⟨p,hp,rfl⟩,hb⟩) (fun b hb=>by
    obtain⟨N,hN,JB⟩:=fC.1 hb;obtain⟨p,hp,rfl⟩:=List.mem_map.1 hN;exact ph p hp b JB)))
  have h3:=h1.run a' ⟨hi.size,hi.defers,fun t v h=>by
   rcases mf h with h|h
   ·exact h2 t v h
   ·obtain⟨h3,h4⟩:=kf (f:=lz (l++[o₁]) (l.length+1)) h;refine hi.base t v h4 fun i o h5 _ h6=> ?_
    simp only[lz,List.all_eq_true]at h3;have:=h3 o (List.mem_of_getElem? h5);simp only[h6,beq_self_eq_true,Bool.not_true,Bool.false_or,List.contains_iff_mem]at this;have h7:=cR dr i o h5 _ this;have h8:=(List.getElem?_eq_some_iff.1 h5).1;simp at h8;omega⟩
  exact yK h3 fun e a2 w2 ⟨L2,ds2,yL,he,hk⟩=>⟨he,L2,ds2,yL,hk⟩
 ·intro i o s h1 h2 h3;simp[Array.getElem?_replicate]at h3
 ·intro i o s d h1 h2 h3;simp[Array.getElem?_replicate]at h3
 ·intro t v h1 _;exact ha.at_ t v h1
 ·intro i o h1 h2;simp[Array.getElem?_replicate]at h2
def kB (l:List Oper) (k:Nat):Bool:=(List.range' k (l.length-k)).all fun j=>((l[j]?.map cy).getD []).contains (j-1)
theorem k4 {l:List Oper} {k:Nat} (h:kB l k=true) {j:Nat} {o:Oper} (hj:k≤j) (ho:l[j]? =some o):j-1∈cy o:=by
 have dY:=(List.getElem?_eq_some_iff.1 ho).1;have:=List.all_eq_true.1 h j (List.mem_range'_1.2 ⟨hj,by omega⟩);rw[ho]at this;simpa using this
theorem DL {l:List Oper} (dr:eK l 0=true):∀(fuel k t:Nat) (listed:Array Bool),listed.size=l.length→k+fuel=l.length→kB l (k+1)=true→(∀i,i<k→listed[i]? =some true)→(∀i,k≤i→i<l.length→listed[i]? =some false)→(∀i o,l[i]? =some o→i=k→∀j∈cy o,j<k)→
  Region.linearise.go .any l.toArray fuel t listed []=List.range' k fuel:=by
 intro fuel
 induction fuel with
 |zero=>intro k t listed _ _ _ _ _ _;rfl
 |succ fuel ih=>
  intro k t listed jW hk yM h1 h2 h3
  have mD:Region.ready .any l.toArray listed=[k]:=by
   have eV:∀j,j∈Region.ready .any l.toArray listed↔j=k:=by
    intro j;simp only[Region.ready,List.mem_filter,List.mem_range,Bool.and_eq_true];constructor
    ·rintro⟨g1,g2,g3⟩;have xU:j<l.length:=by simpa using g1
     rcases Nat.lt_trichotomy j k with h|h|h
     ·have:=h1 j h;simp[Array.getD_eq_getD_getElem?,this]at g2
     ·exact h
     ·exfalso;have hp:=k4 yM (j:=j) (by omega) (List.getElem?_eq_getElem xU);simp only[cy,List.mem_map,List.mem_filter]at hp;obtain⟨e,⟨Ly,Lz⟩,he3⟩:=hp;have h4:l.toArray[j]? =some l[j]:=by rw[List.getElem?_toArray];exact List.getElem?_eq_getElem xU
      rw[h4]at g3;simp only[Option.map_some,Option.getD_some,Array.all_eq_true_iff_forall_mem]at g3;have h5:=g3 e (by simpa using Ly);rw[Lz,he3]at h5;have:=h2 (j-1) (by omega) (by omega);simp[Array.getD_eq_getD_getElem?,this]at h5
    ·rintro rfl;have xU:j<l.length:=by omega
     refine⟨by simpa using xU,?_,?_⟩
     ·have:=h2 j (Nat.le_refl _) xU;simp[Array.getD_eq_getD_getElem?,this]
     ·have h4:l.toArray[j]? =some l[j]:=by rw[List.getElem?_toArray];exact List.getElem?_eq_getElem xU
      rw[h4];simp only[Option.map_some,Option.getD_some,Array.all_eq_true_iff_forall_mem];intro e he
      cases hb:Region.binds .any e with
      |false=>rfl
      |true=>
       have hkp:e.on∈cy l[j]:=by simp only[cy,List.mem_map,List.mem_filter];exact⟨e,⟨by simpa using he,hb⟩,rfl⟩
       have:=h1 _ (h3 j l[j] (List.getElem?_eq_getElem xU) rfl _ hkp);simp[Array.getD_eq_getD_getElem?,this]
   have o6:(Region.ready .any l.toArray listed).Nodup:=by unfold Region.ready;exact List.Pairwise.filter _ List.nodup_range
   cases hr:Region.ready .any l.toArray listed with
   |nil=>have:=(eV k).2 rfl;rw[hr]at this;cases this
   |cons x xs=>
    have hx:x=k:=(eV x).1 (by rw[hr];exact List.mem_cons_self ..)
    cases xs with
    |nil=>rw[hx]
    |cons y ys=>
     have hy:y=k:=(eV y).1 (by rw[hr];simp);rw[hr]at o6;simp[hx,hy]at o6
  simp only[Region.linearise.go]
  change(match (Region.ready .any l.toArray listed)[t%(Region.ready .any l.toArray listed).length]? with
   |some i=>Region.linearise.go .any l.toArray fuel (t/(Region.ready .any l.toArray listed).length) (listed.setIfInBounds i true) [i]
   |none=>[].reverse)=_
  rw[mD];simp only[List.length_singleton,Nat.mod_one,List.getElem?_cons_zero];rw[linearise_go_acc,List.reverse_singleton,List.singleton_append];have Dw:k<listed.size:=by omega
  rw[ih (k+1) _ _ (by simpa using jW) (by omega) (by
   simp only[kB,List.all_eq_true]at yM ⊢;intro j hj;exact yM j (by rw[List.mem_range'_1]at hj ⊢;omega)) ?_ ?_ ?_]
  ·rfl
  ·intro i hi;rw[Array.getElem?_setIfInBounds];by_cases e:k=i
   ·subst e;simp[Dw]
   ·rw[if_neg e];exact h1 i (by omega)
  ·intro i hi ou;rw[Array.getElem?_setIfInBounds,if_neg (by omega)];exact h2 i (by omega) ou
  ·intro i o ho hi j hj;have:=cR dr i o ho j hj;omega
def lu (l:List Oper):Nat→List Nat→Bool
 |0,_=>true
 |j+1,acc=>acc.contains j&&lu l j (acc++(l[j]?.map cy).getD [])
theorem pj {l:List Oper} {D:Nat→Prop} (lL:∀k o,l[k]? =some o→D k→∀i∈cy o,D i):∀(j:Nat) (acc:List Nat),lu l j acc=true→(∀k∈acc,D k)→∀i,i<j→D i
 |0,_,_,_,i,hi=>by omega
 |j+1,acc,h,ha,i,hi=>by
  simp only[lu,Bool.and_eq_true,List.contains_iff_mem]at h;have hj:=ha j h.1;rcases Nat.lt_or_ge i j with dY|Lj
  ·refine pj lL j _ h.2 (fun k hk=>?_) i dY;rcases List.mem_append.1 hk with hk|hk
   ·exact ha k hk
   ·cases ho:l[j]? with
    |none=>rw[ho]at hk;simp at hk
    |some o=>rw[ho]at hk;exact lL j o ho hj k (by simpa using hk)
  ·rw[show i=j from by omega];exact hj
theorem JE {w0:World} {l:List Oper} {o₁:Oper} {tl:List Oper} {S:List (cG M)} (dr:eK (l++o₁::tl) 0=true) (ju:lu (l++o₁::tl) l.length (cy o₁)=true) (yM:kB (l++o₁::tl) (l.length+1)=true) (Bi:S.length=l.length) (kZ:dA P r n F w0 (l++o₁::tl) S ds L l S 0) (xg:yJ F (l++o₁::tl) S) (ph:∀p∈F,∀b,p.2 b→M b) {Q:Exit→Act→World→Prop}
  (kA:∀a w,Inv F S (l++o₁::tl) w0 L ds n (fun i=>i<l.length) a w→wpListIn (FW r) 0 P (l++o₁::tl).toArray Q (o₁::tl) a w):∀(fuel t:Nat) (listed:Array Bool) (a:Act) (w:World),listed.size=(l++o₁::tl).length→listed.toList.countP (!·)=fuel→(∀i,l.length≤i→i<(l++o₁::tl).length→listed[i]? =some false)→
  Inv F S (l++o₁::tl) w0 L ds n (fun i=>listed[i]? =some true) a w→wpOpsIn (FW r) 0 P (l++o₁::tl).toArray Q (Region.linearise.go .any (l++o₁::tl).toArray fuel t listed []) a w:=by
 intro fuel
 induction fuel with
 |zero=>
  intro t listed a w jW hc yk hi;have:=jt hc l.length (by simp[jW]);have h2:listed.toList[l.length]? =some false:=by simpa using yk l.length (Nat.le_refl _) (by simp)
  rw[h2]at this;cases this
 |succ fuel ih=>
  intro t listed a w jW hc yk hi;have Jy:(l++o₁::tl).length=l.length+1+tl.length:=by simp;omega
  have aeo:listed[l.length]? =some false:=yk l.length (Nat.le_refl _) (by omega)
  have mD:∀j,j∈Region.ready .any (l++o₁::tl).toArray listed→∃o,(l++o₁::tl)[j]? =some o∧listed[j]? =some false∧∀k∈cy o,listed[k]? =some true:=by
   intro j hj;simp only[Region.ready,List.mem_filter,List.mem_range,Bool.and_eq_true]at hj;obtain⟨h1,h2,h3⟩:=hj;have dY:j<(l++o₁::tl).length:=by simpa using h1
   refine⟨(l++o₁::tl)[j],List.getElem?_eq_getElem dY,?_,?_⟩
   ·rw[Array.getElem?_eq_getElem (by omega)];simp only[Array.getD_eq_getD_getElem?,Array.getElem?_eq_getElem (show j<listed.size by omega),Option.getD_some,Bool.not_eq_true']at h2;rw[h2]
   ·intro k hk;simp only[cy,List.mem_map,List.mem_filter]at hk;obtain⟨e,⟨Ly,Lz⟩,rfl⟩:=hk;have h4:(l++o₁::tl).toArray[j]? =some (l++o₁::tl)[j]:=by rw[List.getElem?_toArray];exact List.getElem?_eq_getElem dY
    rw[h4]at h3;simp only[Option.map_some,Option.getD_some,Array.all_eq_true_iff_forall_mem]at h3;have h5:=h3 e (by simpa using Ly);rw[Lz]at h5;simp only[Bool.not_true,Bool.false_or,Array.getD_eq_getD_getElem?]at h5
    cases hx:listed[e.on]? with
    |none=>simp[hx]at h5
    |some b=>simp[hx]at h5;rw[h5]
  have eN:Region.ready .any (l++o₁::tl).toArray listed≠[]:=by
   obtain⟨i,h1,h2⟩:=mC (bs:=listed.toList) (by omega)
   have dY:i<(l++o₁::tl).length:=by
    have:=(List.getElem?_eq_some_iff.1 h1).1;simp only[Array.length_toList]at this;omega
   intro rT
   have eV:i∈Region.ready .any (l++o₁::tl).toArray listed:=by
    simp only[Region.ready,List.mem_filter,List.mem_range,Bool.and_eq_true];refine⟨by simpa using dY,?_,?_⟩
    ·have:listed[i]? =some false:=by simpa using h1
     simp[Array.getD_eq_getD_getElem?,this]
    ·have h4:(l++o₁::tl).toArray[i]? =some (l++o₁::tl)[i]:=by rw[List.getElem?_toArray];exact List.getElem?_eq_getElem dY
     rw[h4];simp only[Option.map_some,Option.getD_some,Array.all_eq_true_iff_forall_mem];intro e he
     cases hb:Region.binds .any e with
     |false=>rfl
     |true=>
      have hk:e.on∈cy (l++o₁::tl)[i]:=by
       simp only[cy,List.mem_map,List.mem_filter];exact⟨e,⟨by simpa using he,hb⟩,rfl⟩
      have Qf:=cR dr i (l++o₁::tl)[i] (List.getElem?_eq_getElem dY) _ hk;have:listed[e.on]? =some true:=by simpa using h2 e.on (by omega)
      simp[Array.getD_eq_getD_getElem?,this]
   rw[rT]at eV;cases eV
  simp only[Region.linearise.go]
  change wpOpsIn (FW r) 0 P (l++o₁::tl).toArray Q (match (Region.ready .any (l++o₁::tl).toArray listed)[t%(Region.ready .any (l++o₁::tl).toArray listed).length]? with
   |some i=>Region.linearise.go .any (l++o₁::tl).toArray fuel (t/(Region.ready .any (l++o₁::tl).toArray listed).length) (listed.setIfInBounds i true) [i]
   |none=>[].reverse) a w
  have dY:t%(Region.ready .any (l++o₁::tl).toArray listed).length<(Region.ready .any (l++o₁::tl).toArray listed).length:=Nat.mod_lt _ (List.length_pos_iff.2 eN);rw[List.getElem?_eq_getElem dY];have eV:=List.getElem_mem dY;generalize (Region.ready .any (l++o₁::tl).toArray listed)[t%(Region.ready .any (l++o₁::tl).toArray listed).length]=j at eV;obtain⟨o,h1,h2,h3⟩:=mD j eV;simp only[];rw[linearise_go_acc,List.reverse_singleton,List.singleton_append];have xU:j<l.length+1+tl.length:=by have:=(List.getElem?_eq_some_iff.1 h1).1;omega
  have xT:listed.toList[j]? =some false:=by simpa using h2
  have YN:=k3 xT;by_cases Bj:j=l.length
  ·subst Bj;have ho:o=o₁:=by simpa using h1.symm
   subst ho;have pZ:∀i,i<l.length→listed[i]? =some true:=fun i iy=>pj (D:=fun i=>listed[i]? =some true) hi.closed l.length (cy o) ju (fun k hk=>h3 k hk) i iy
   have hfu:fuel=tl.length:=by
    have hz:((listed.toList.set l.length true).drop (l.length+1)).countP (!·)=tl.length:=by
     rw[List.drop_set_of_lt (by omega)]
     have iA:∀b∈listed.toList.drop (l.length+1),(!b)=true:=by
      intro b hb;obtain⟨i,iy⟩:=List.mem_iff_getElem?.1 hb;rw[List.getElem?_drop]at iy;have ou:=(List.getElem?_eq_some_iff.1 iy).1;simp only[Array.length_toList]at ou;have:=yk (l.length+1+i) (by omega) (by omega);have h9:listed.toList[l.length+1+i]? =some false:=by simpa using this
      rw[iy]at h9;cases h9;rfl
     rw[List.countP_eq_length.2 iA,List.length_drop,Array.length_toList];omega
    have hy:((listed.toList.set l.length true).take (l.length+1)).countP (!·)=0:=by
     rw[List.countP_eq_zero];intro b hb;obtain⟨i,iy⟩:=List.mem_iff_getElem?.1 hb;rw[List.getElem?_take]at iy
     split at iy
     ·rw[List.getElem?_set]at iy
      split at iy
      ·split at iy
       ·cases iy;simp
       ·cases iy
      ·have:=pZ i (by omega);have h9:listed.toList[i]? =some true:=by simpa using this
       rw[iy]at h9;cases h9;simp
     ·cases iy
    have:=List.take_append_drop (l.length+1) (listed.toList.set l.length true)
    have h8:(listed.toList.set l.length true).countP (!·)=0+tl.length:=by
     rw[←hy,←hz,←List.countP_append,this]
    omega
   subst hfu;have qy:l.length<listed.size:=by omega
   rw[DL dr tl.length (l.length+1) _ _ (by simpa using jW) (by omega) (by
    simp only[kB,List.all_eq_true]at yM ⊢;intro j hj
    exact yM j (by rw[List.mem_range'_1]at hj ⊢;omega)) (fun i iy=>by
     rw[Array.getElem?_setIfInBounds];by_cases e:l.length=i
     ·subst e;simp[qy]
     ·rw[if_neg e];exact pZ i (by omega)) (fun i h5 h6=>by
     rw[Array.getElem?_setIfInBounds,if_neg (by omega)];exact yk i (by omega) h6) (fun i o' fV he j hj=>by have:=cR dr i o' fV j hj;omega)]
   have Qh:l.length::List.range' (l.length+1) tl.length=List.range' l.length (o::tl).length:=by simp[List.range'_succ]
   rw[Qh,wpOpsIn_eq_wpListIn (o::tl) l.length (fun j=>by rw[List.getElem?_toArray,List.getElem?_append_right (by omega)];congr 1;omega)];refine kA a w ⟨hi.step.cB (fun b ⟨p,hp,hD,hb⟩=>⟨p,hp,?_,hb⟩) (fun b ⟨p,hp,_,hb⟩=>ph p hp b hb),fun i o s h1 h2 h3=>hi.fin i o s h1 h2 (pZ i h3),hi.size,hi.defers,fun i o s d h1 h2 h3=>hi.done i o s d h1 h2 (pZ i h3),fun t v h4 h5=>hi.base t v h4 fun i o' h6 h7=>h5 i o' h6 ?_,fun i o' h4 h5 k hk=>?_⟩
   ·have ou:=(Array.getElem?_eq_some_iff.1 hD).1;rcases Nat.lt_or_ge p.1 l.length with h|h
    ·exact h
    ·have hD':listed[p.1]? =some true:=hD;rw[yk p.1 h (by omega)]at hD';cases hD'
   ·rcases Nat.lt_or_ge i l.length with h|h
    ·exact h
    ·have ou:=(List.getElem?_eq_some_iff.1 h6).1;rw[yk i h ou]at h7;cases h7
   ·have:=cR dr i o' h4 k hk;omega
  ·have St:j<l.length:=by
    rcases Nat.lt_or_ge j l.length with h|h
    ·exact h
    ·exfalso;have hp:=h3 _ (k4 yM (j:=j) (by omega) h1);rw[yk (j-1) (by omega) (by omega)]at hp;cases hp
   have YO:l[j]? =some o:=by rwa [List.getElem?_append_left (by omega)]at h1
   refine hi.next dr xg ph (by have:=kZ.get j o YO;rwa [Nat.zero_add]at this) h1 (by rw[h2];simp) h3 fun a' w' iy=> ?_
   refine ih _ _ _ _ (by simpa using jW) ?_ ?_ ?_
   ·simp only[Array.toList_setIfInBounds];omega
   ·intro i h5 h6;rw[Array.getElem?_setIfInBounds,if_neg (by omega)];exact yk i h5 h6
   ·have Ce:j<listed.size:=(Array.getElem?_eq_some_iff.1 h2).1
    have jM:∀i,((listed.setIfInBounds j true)[i]? =some true)↔(i=j∨listed[i]? =some true):=by
     intro i;rw[Array.getElem?_setIfInBounds];by_cases jq:j=i
     ·subst jq;simp[Ce]
     ·rw[if_neg jq];exact⟨.inr,fun h=>h.resolve_left (fun e=>jq e.symm)⟩
    exact⟨iy.step.cB (fun b ⟨p,hp,hD,hb⟩=>⟨p,hp,(jM p.1).2 hD,hb⟩) (fun b ⟨p,hp,_,hb⟩=>ph p hp b hb),fun i o s h1 h2 h3=>iy.fin i o s h1 h2 ((jM i).1 h3),iy.size,iy.defers,fun i o s d h1 h2 h3=>iy.done i o s d h1 h2 ((jM i).1 h3),fun t v h1 h2=>iy.base t v h1 fun i o h3 h4=>h2 i o h3 ((jM i).2 h4),fun i o h1 h2 k hk=>(jM k).2 (iy.closed i o h1 ((jM i).1 h2) k hk)⟩
theorem T.Gx {id:Nat} {l:List Oper} {o₁:Oper} {tl:List Oper} (hm:P.follows .mixedOrders=true) (F:List (Nat×aD)) (S:List (cG M)) (dr:eK (l++o₁::tl) 0=true) (ju:lu (l++o₁::tl) l.length (cy o₁)=true) (yM:kB (l++o₁::tl) (l.length+1)=true) (Bi:S.length=l.length) (ph:∀p∈F,∀b,p.2 b→M b) (xg:vT F (l++o₁::tl) S 0) (kZ:dA P r n F w (l++o₁::tl) S ds L l S 0)
  (kA:∀w',Step M w M w' (jL (F.map (·.2)))→gD w' (fun acc=>Rg P r n (l++o₁::tl).toArray (o₁::tl) (acc++kz (l++o₁::tl) (l.length+1+tl.length) L) ds w' K) l S []):T P r n (.region id (l++o₁::tl).toArray true) L ds w K:=by
 refine⟨fun a ha=>wpIn_region_draw fun t=>?_⟩;simp only[Region.schedule,hm,Bool.true_or,if_true,Region.linearise];have hd:Step M w M {w with drawn:=w.drawn+1} aC:=me M w;refine JE (w0:=w) (S:=S) dr ju yM Bi kZ xg.st ph (Q:=up n K) ?_ _ t _ a _ (by simp) (by simp[List.countP_replicate]) (by intro i _ h;simp[Array.getElem?_replicate];simpa using h) ⟨hd.cB (fun _ h=>h.elim) (fun b ⟨p,hp,_,hb⟩=>ph p hp b hb),?_,ha.size,ha.defers,?_,?_,?_⟩
 ·intro a' w' hi
  have jf:∀{i:Nat} {o:Oper},l[i]? =some o→(l++o₁::tl)[i]? =some o∧i<l.length:=fun {i o} h=>by
   have h1:=(List.getElem?_eq_some_iff.1 h).1;exact⟨by rw[List.getElem?_append_left h1];exact h,h1⟩
  obtain⟨acc,h1,h2⟩:=gD.use (a:=a') l S [] (fun i o s h1 h2 h3=>hi.fin i o s (jf h1).1 h2 (jf h1).2 h3) (fun i o s d h1 h2 h3=>hi.done i o s d (jf h1).1 h2 (jf h1).2 h3) (fun t v h=>by simp[lk]at h)
   (kA w' (hi.step.cB (fun b ⟨p,hp,_,hb⟩=>fC.2 ⟨p.2,List.mem_map.2 ⟨p,hp,rfl⟩,hb⟩) (fun b hb=>by
    obtain⟨N,hN,JB⟩:=fC.1 hb;obtain⟨p,hp,rfl⟩:=List.mem_map.1 hN;exact ph p hp b JB)))
  have h3:=h1.run a' ⟨hi.size,hi.defers,fun t v h=>by
   rcases mf h with h|h
   ·exact h2 t v h
   ·obtain⟨h3,h4⟩:=kf (f:=lz (l++o₁::tl) (l.length+1+tl.length)) h;refine hi.base t v h4 fun i o h5 _ h6=> ?_
    simp only[lz,List.all_eq_true]at h3;have:=h3 o (List.mem_of_getElem? h5);simp only[h6,beq_self_eq_true,Bool.not_true,Bool.false_or,List.contains_iff_mem]at this;have h7:=cR dr i o h5 _ this;have h8:=(List.getElem?_eq_some_iff.1 h5).1;simp at h8;omega⟩
  exact h3
 ·intro i o s h1 h2 h3;simp[Array.getElem?_replicate]at h3
 ·intro i o s d h1 h2 h3;simp[Array.getElem?_replicate]at h3
 ·intro t v h1 _;exact ha.at_ t v h1
 ·intro i o h1 h2;simp[Array.getElem?_replicate]at h2
theorem T.Su {id:Nat} {l:List Oper} (hm:P.follows .mixedOrders=true) (F:List (Nat×aD)) (S:List (cG M)) (dr:eK l 0=true) (ph:∀p∈F,∀b,p.2 b→M b) (xg:yJ F l S) (kZ:dA P r n F w l S ds L l S 0)
  (kA:∀w',Step M w M w' (jL (F.map (·.2)))→gD w' (fun acc=>K .normal (acc++kz l l.length L) ds w') l S []):T P r n (.region id l.toArray true) L ds w K:=by
 refine⟨fun a ha=>wpIn_region_draw fun t=>?_⟩;simp only[Region.schedule,hm,Bool.true_or,if_true,Region.linearise];have hd:Step M w M {w with drawn:=w.drawn+1} aC:=me M w;refine JD (w0:=w) (S:=S) dr kZ xg ph (Q:=up n K) ?_ _ t _ a _ (by simp) (by simp[List.countP_replicate]) ⟨hd.cB (fun _ h=>h.elim) (fun b ⟨p,hp,_,hb⟩=>ph p hp b hb),?_,ha.size,ha.defers,?_,?_,?_⟩
 ·intro a' w' hi
  obtain⟨acc,h1,h2⟩:=gD.use (a:=a') l S [] (fun i o s h1 h2 h3=>hi.fin i o s h1 h2 ((List.getElem?_eq_some_iff.1 h1).1) h3) (fun i o s d h1 h2 h3=>hi.done i o s d h1 h2 ((List.getElem?_eq_some_iff.1 h1).1) h3) (fun t v h=>by simp[lk]at h)
   (kA w' (hi.step.cB (fun b ⟨p,hp,_,hb⟩=>fC.2 ⟨p.2,List.mem_map.2 ⟨p,hp,rfl⟩,hb⟩) (fun b hb=>by
    obtain⟨N,hN,JB⟩:=fC.1 hb;obtain⟨p,hp,rfl⟩:=List.mem_map.1 hN;exact ph p hp b JB)))
  refine⟨_,_,⟨hi.size,hi.defers,fun t v h=>?_⟩,h1⟩;rcases mf h with h|h
  ·exact h2 t v h
  ·obtain⟨h3,h4⟩:=kf (f:=lz l l.length) h;refine hi.base t v h4 fun i o h5 _ h6=> ?_
   simp only[lz,List.all_eq_true]at h3;have:=h3 o (List.mem_of_getElem? h5);simp only[h6,beq_self_eq_true,Bool.not_true,Bool.false_or,List.contains_iff_mem]at this;have h7:=cR dr i o h5 _ this;have h8:=(List.getElem?_eq_some_iff.1 h5).1;omega
 ·intro i o s h1 h2 h3;simp[Array.getElem?_replicate]at h3
 ·intro i o s d h1 h2 h3;simp[Array.getElem?_replicate]at h3
 ·intro t v h1 _;exact ha.at_ t v h1
 ·intro i o h1 h2;simp[Array.getElem?_replicate]at h2
theorem T.Sv {id:Nat} {l:List Oper} (hm:P.follows .mixedOrders=true) (F:List (Nat×aD)) (S:List (cG M)) (dr:eK l 0=true) (ph:∀p∈F,∀b,p.2 b→M b) (xg:vT F l S 0) (kZ:dA P r n F w l S ds L l S 0)
  (kA:∀w',Step M w M w' (jL (F.map (·.2)))→gD w' (fun acc=>K .normal (acc++kz l l.length L) ds w') l S []):T P r n (.region id l.toArray true) L ds w K:= .Su hm F S dr ph xg.st kZ kA
theorem vT.none:∀{l:List Oper} {S:List (cG M)} {k:Nat},vT [] l S k
 |[],_,_=>by simp[vT]
 |_::_,[],_=>by simp[vT]
 |_::_,_::_,_=>⟨fun p hp=>by simp at hp,vT.none⟩
theorem T.draw {id:Nat} {l:List Oper} (hm:P.follows .mixedOrders=true) (S:List (cG M)) (dr:eK l 0=true) (kZ:dA P r n [] w l S ds L l S 0)
  (kA:∀w',Step M w M w' aC→gD w' (fun acc=>K .normal (acc++kz l l.length L) ds w') l S []):T P r n (.region id l.toArray true) L ds w K:=
 .Sv hm [] S dr (fun p hp=>by cases hp) vT.none kZ kA
def bL (P:Program) (r:Option Nat) (n:Nat) {M:aD} (F:List (Nat×aD)) (w:World) (l:List Oper) (S:List (cG M)) (ds:List Deferred) (L:Sl):List Oper→List (cG M)→Nat→Prop
 |o::os,s::ss,j=>X5 P r n F w l S ds L j o s∧bL P r n F w l S ds L os ss (j+1)
 |[],[],_=>True
 |_::_,[],_=>True
 |[],_::_,_=>False
theorem bL.cons {l:List Oper} {S:List (cG M)} {o:Oper} {os:List Oper} {s:cG M} {ss:List (cG M)} {j:Nat}
  (h:X5 P r n F w l S ds L j o s) (h':bL P r n F w l S ds L os ss (j+1)):bL P r n F w l S ds L (o::os) (s::ss) j:=⟨h,h'⟩
theorem bL.nil {l:List Oper} {S:List (cG M)} {o:Oper} {os:List Oper} {j:Nat}:bL P r n F w l S ds L (o::os) [] j:=by unfold bL;trivial
theorem bL.take {l:List Oper} {S:List (cG M)}:∀{os:List Oper} {ss:List (cG M)} {j:Nat},bL P r n F w l S ds L os ss j→dA P r n F w l S ds L (os.take ss.length) ss j
 |[],[],_,_=>by simp[dA]
 |_::_,[],_,_=>by simp[dA]
 |[],_::_,_,h=>by simp[bL]at h
 |_::os,_::ss,_,h=>⟨h.1,bL.take h.2⟩
theorem gD.take {w:World} {k:Sl→Prop}:∀{os:List Oper} {ss:List (cG M)} {acc:Sl},gD w k os ss acc→gD w k (os.take ss.length) ss acc
 |[],[],_,h=>by simpa[gD]using h
 |_::_,[],_,h=>by simpa[gD]using h
 |[],_::_,_,h=>by simpa[gD]using h
 |o::os,s::ss,acc,h=>by
  simp only[List.length_cons,List.take_succ_cons,gD]at h ⊢
  split
  ·rename_i d hd
   rw[hd]at h;exact fun v hv=>gD.take (h v hv)
  ·rename_i hd
   rw[hd]at h;exact fun v hv=>gD.take (h v hv)
theorem T.Iq {id:Nat} {l:List Oper} (o₁:Oper) (hm:P.follows .mixedOrders=true) (F:List (Nat×aD)) (S:List (cG M)) (ho:l[S.length]? =some o₁) (Bi:l.length=S.length+1) (dr:eK l 0=true) (ju:(List.range S.length).all (fun i=>(cy o₁).contains i||(cy o₁).any (fun k=>((l[k]?.map cy).getD []).contains i))=true) (ph:∀p∈F,∀b,p.2 b→M b) (xg:vT F l S 0) (kZ:bL P r n F w l S ds L l S 0)
  (kA:∀w',Step M w M w' (jL (F.map (·.2)))→gD w' (fun acc=>Rg P r n l.toArray [o₁] (acc++kz l l.length L) ds w' (fun e L ds w=>e= .normal∧K .normal L ds w)) l S []):T P r n (.region id l.toArray true) L ds w K:=by
 have hl:l=l.take S.length++[o₁]:=by
  obtain⟨h1,h2⟩:=List.getElem?_eq_some_iff.1 ho;rw[←h2,←List.take_succ_eq_append_getElem h1,←Bi,List.take_length]
 have yh:(l.take S.length).length=S.length:=by simp;omega
 have:=T.LA (id:=id) (l:=l.take S.length) (o₁:=o₁) (w:=w) (K:=K) hm F S (by rw[←hl];exact dr) (by rw[yh,←hl];exact ju) yh.symm ph (by rw[←hl];exact xg) (by rw[←hl];exact kZ.take) (fun w' s=>by rw[←hl,yh,←Bi];exact(kA w' s).take)
 rwa [←hl]at this
theorem T.Bk {id:Nat} {l:List Oper} (hm:P.follows .mixedOrders=true) (F:List (Nat×aD)) (S:List (cG M)) (m:Nat) (UG:S.length=m) (qy:Nat.blt m l.length=true) (dr:eK l 0=true) (ju:lu l m ((l[m]?.map cy).getD [])=true) (yM:kB l (m+1)=true) (ph:∀p∈F,∀b,p.2 b→M b) (xg:vT F l S 0) (kZ:bL P r n F w l S ds L l S 0)
  (kA:∀w',Step M w M w' (jL (F.map (·.2)))→gD w' (fun acc=>Rg P r n l.toArray (l.drop m) (acc++kz l l.length L) ds w' K) l S []):T P r n (.region id l.toArray true) L ds w K:=by
 subst UG;have Bi:S.length<l.length:=by simpa[Nat.blt_eq]using qy
 have hl:l=l.take S.length++l[S.length]::l.drop (S.length+1):=by
  rw[←List.drop_eq_getElem_cons Bi,List.take_append_drop]
 have yh:(l.take S.length).length=S.length:=by simp;omega
 have hg:l[S.length]? =some l[S.length]:=List.getElem?_eq_getElem Bi;have hln:S.length+1+(l.drop (S.length+1)).length=l.length:=by rw[List.length_drop];omega
 have:=T.Gx (id:=id) (l:=l.take S.length) (o₁:=l[S.length]) (tl:=l.drop (S.length+1)) (w:=w) (K:=K) hm F S (by rw[←hl];exact dr) (by rw[yh,←hl];rw[hg]at ju;exact ju) (by rw[yh,←hl];exact yM) yh.symm ph (by rw[←hl];exact xg) (by rw[←hl];exact kZ.take) (fun w' s=>by rw[←hl,yh,hln,←List.drop_eq_getElem_cons Bi];exact(kA w' s).take)
 rwa [←hl]at this
end
end Go.K
namespace Go.K
section
variable {P:Program} {r:Option Nat} {n:Nat} {L:Sl} {ds:List Deferred} {w:World} {K:Kt}
theorem Gy {l:List Oper} {o₁:Oper} {tl:List Oper} {J:(Nat→Prop)→Act→World→Prop} (dr:eK (l++o₁::tl) 0=true) (ju:lu (l++o₁::tl) l.length (cy o₁)=true) (yM:kB (l++o₁::tl) (l.length+1)=true)
  (DM:∀{D D':Nat→Prop} {a w},J D a w→(∀i,i<(l++o₁::tl).length→(D' i↔D i))→J D' a w) {Q:Exit→Act→World→Prop}
  (LB:∀{D:Nat→Prop} {a w j o rest},j<l.length→l[j]? =some o→¬D j→(∀k∈cy o,D k)→(∀i o,(l++o₁::tl)[i]? =some o→D i→∀k∈cy o,D k)→J D a w→(∀a' w',J (fun i=>i=j∨D i) a' w'→wpOpsIn (FW r) 0 P (l++o₁::tl).toArray Q rest a' w')→wpOpsIn (FW r) 0 P (l++o₁::tl).toArray Q (j::rest) a w)
  (kA:∀a w,J (fun i=>i<l.length) a w→wpListIn (FW r) 0 P (l++o₁::tl).toArray Q (o₁::tl) a w):∀(fuel t:Nat) (listed:Array Bool) (a:Act) (w:World),listed.size=(l++o₁::tl).length→listed.toList.countP (!·)=fuel→(∀i,l.length≤i→i<(l++o₁::tl).length→listed[i]? =some false)→
  (∀(i:Nat) (o:Oper),(l++o₁::tl)[i]? =some o→listed[i]? =some true→∀k∈cy o,listed[k]? =some true)→J (fun i=>listed[i]? =some true) a w→wpOpsIn (FW r) 0 P (l++o₁::tl).toArray Q (Region.linearise.go .any (l++o₁::tl).toArray fuel t listed []) a w:=by
 intro fuel
 induction fuel with
 |zero=>
  intro t listed a w jW hc yk lL hi;have:=jt hc l.length (by simp[jW]);have h2:listed.toList[l.length]? =some false:=by simpa using yk l.length (Nat.le_refl _) (by simp)
  rw[h2]at this;cases this
 |succ fuel ih=>
  intro t listed a w jW hc yk lL hi;have Jy:(l++o₁::tl).length=l.length+1+tl.length:=by simp;omega
  have aeo:listed[l.length]? =some false:=yk l.length (Nat.le_refl _) (by omega)
  have mD:∀j,j∈Region.ready .any (l++o₁::tl).toArray listed→∃o,(l++o₁::tl)[j]? =some o∧listed[j]? =some false∧∀k∈cy o,listed[k]? =some true:=by
   intro j hj;simp only[Region.ready,List.mem_filter,List.mem_range,Bool.and_eq_true]at hj;obtain⟨h1,h2,h3⟩:=hj;have dY:j<(l++o₁::tl).length:=by simpa using h1
   refine⟨(l++o₁::tl)[j],List.getElem?_eq_getElem dY,?_,?_⟩
   ·rw[Array.getElem?_eq_getElem (by omega)];simp only[Array.getD_eq_getD_getElem?,Array.getElem?_eq_getElem (show j<listed.size by omega),Option.getD_some,Bool.not_eq_true']at h2;rw[h2]
   ·intro k hk;simp only[cy,List.mem_map,List.mem_filter]at hk;obtain⟨e,⟨Ly,Lz⟩,rfl⟩:=hk;have h4:(l++o₁::tl).toArray[j]? =some (l++o₁::tl)[j]:=by rw[List.getElem?_toArray];exact List.getElem?_eq_getElem dY
    rw[h4]at h3;simp only[Option.map_some,Option.getD_some,Array.all_eq_true_iff_forall_mem]at h3;have h5:=h3 e (by simpa using Ly);rw[Lz]at h5;simp only[Bool.not_true,Bool.false_or,Array.getD_eq_getD_getElem?]at h5
    cases hx:listed[e.on]? with
    |none=>simp[hx]at h5
    |some b=>simp[hx]at h5;rw[h5]
  have eN:Region.ready .any (l++o₁::tl).toArray listed≠[]:=by
   obtain⟨i,h1,h2⟩:=mC (bs:=listed.toList) (by omega)
   have dY:i<(l++o₁::tl).length:=by
    have:=(List.getElem?_eq_some_iff.1 h1).1;simp only[Array.length_toList]at this;omega
   intro rT
   have eV:i∈Region.ready .any (l++o₁::tl).toArray listed:=by
    simp only[Region.ready,List.mem_filter,List.mem_range,Bool.and_eq_true];refine⟨by simpa using dY,?_,?_⟩
    ·have:listed[i]? =some false:=by simpa using h1
     simp[Array.getD_eq_getD_getElem?,this]
    ·have h4:(l++o₁::tl).toArray[i]? =some (l++o₁::tl)[i]:=by rw[List.getElem?_toArray];exact List.getElem?_eq_getElem dY
     rw[h4];simp only[Option.map_some,Option.getD_some,Array.all_eq_true_iff_forall_mem];intro e he
     cases hb:Region.binds .any e with
     |false=>rfl
     |true=>
      have hk:e.on∈cy (l++o₁::tl)[i]:=by
       simp only[cy,List.mem_map,List.mem_filter];exact⟨e,⟨by simpa using he,hb⟩,rfl⟩
      have Qf:=cR dr i (l++o₁::tl)[i] (List.getElem?_eq_getElem dY) _ hk;have:listed[e.on]? =some true:=by simpa using h2 e.on (by omega)
      simp[Array.getD_eq_getD_getElem?,this]
   rw[rT]at eV;cases eV
  simp only[Region.linearise.go]
  change wpOpsIn (FW r) 0 P (l++o₁::tl).toArray Q (match (Region.ready .any (l++o₁::tl).toArray listed)[t%(Region.ready .any (l++o₁::tl).toArray listed).length]? with
   |some i=>Region.linearise.go .any (l++o₁::tl).toArray fuel (t/(Region.ready .any (l++o₁::tl).toArray listed).length) (listed.setIfInBounds i true) [i]
   |none=>[].reverse) a w
  have dY:t%(Region.ready .any (l++o₁::tl).toArray listed).length<(Region.ready .any (l++o₁::tl).toArray listed).length:=Nat.mod_lt _ (List.length_pos_iff.2 eN);rw[List.getElem?_eq_getElem dY];have eV:=List.getElem_mem dY;generalize (Region.ready .any (l++o₁::tl).toArray listed)[t%(Region.ready .any (l++o₁::tl).toArray listed).length]=j at eV;obtain⟨o,h1,h2,h3⟩:=mD j eV;simp only[];rw[linearise_go_acc,List.reverse_singleton,List.singleton_append];have xU:j<l.length+1+tl.length:=by have:=(List.getElem?_eq_some_iff.1 h1).1;omega
  have xT:listed.toList[j]? =some false:=by simpa using h2
  have YN:=k3 xT;by_cases Bj:j=l.length
  ·subst Bj;have ho:o=o₁:=by simpa using h1.symm
   subst ho;have pZ:∀i,i<l.length→listed[i]? =some true:=fun i iy=>pj (D:=fun i=>listed[i]? =some true) lL l.length (cy o) ju (fun k hk=>h3 k hk) i iy
   have hfu:fuel=tl.length:=by
    have hz:((listed.toList.set l.length true).drop (l.length+1)).countP (!·)=tl.length:=by
     rw[List.drop_set_of_lt (by omega)]
     have iA:∀b∈listed.toList.drop (l.length+1),(!b)=true:=by
      intro b hb;obtain⟨i,iy⟩:=List.mem_iff_getElem?.1 hb;rw[List.getElem?_drop]at iy;have ou:=(List.getElem?_eq_some_iff.1 iy).1;simp only[Array.length_toList]at ou;have:=yk (l.length+1+i) (by omega) (by omega);have h9:listed.toList[l.length+1+i]? =some false:=by simpa using this
      rw[iy]at h9;cases h9;rfl
     rw[List.countP_eq_length.2 iA,List.length_drop,Array.length_toList];omega
    have hy:((listed.toList.set l.length true).take (l.length+1)).countP (!·)=0:=by
     rw[List.countP_eq_zero];intro b hb;obtain⟨i,iy⟩:=List.mem_iff_getElem?.1 hb;rw[List.getElem?_take]at iy
     split at iy
     ·rw[List.getElem?_set]at iy
      split at iy
      ·split at iy
       ·cases iy;simp
       ·cases iy
      ·have:=pZ i (by omega);have h9:listed.toList[i]? =some true:=by simpa using this
       rw[iy]at h9;cases h9;simp
     ·cases iy
    have:=List.take_append_drop (l.length+1) (listed.toList.set l.length true)
    have h8:(listed.toList.set l.length true).countP (!·)=0+tl.length:=by
     rw[←hy,←hz,←List.countP_append,this]
    omega
   subst hfu;have qy:l.length<listed.size:=by omega
   rw[DL dr tl.length (l.length+1) _ _ (by simpa using jW) (by omega) (by
    simp only[kB,List.all_eq_true]at yM ⊢;intro j hj
    exact yM j (by rw[List.mem_range'_1]at hj ⊢;omega)) (fun i iy=>by
     rw[Array.getElem?_setIfInBounds];by_cases e:l.length=i
     ·subst e;simp[qy]
     ·rw[if_neg e];exact pZ i (by omega)) (fun i h5 h6=>by
     rw[Array.getElem?_setIfInBounds,if_neg (by omega)];exact yk i (by omega) h6) (fun i o' fV he j hj=>by have:=cR dr i o' fV j hj;omega)]
   have Qh:l.length::List.range' (l.length+1) tl.length=List.range' l.length (o::tl).length:=by simp[List.range'_succ]
   rw[Qh,wpOpsIn_eq_wpListIn (o::tl) l.length (fun j=>by rw[List.getElem?_toArray,List.getElem?_append_right (by omega)];congr 1;omega)]
   exact kA a w (DM hi fun i ou=>⟨fun h=>pZ i h,fun h=>by
    rcases Nat.lt_or_ge i l.length with h5|h5
    ·exact h5
    ·have h6:=yk i h5 ou;rw[h6]at h;cases h⟩)
  ·have St:j<l.length:=by
    rcases Nat.lt_or_ge j l.length with h|h
    ·exact h
    ·exfalso;have hp:=h3 _ (k4 yM (j:=j) (by omega) h1);rw[yk (j-1) (by omega) (by omega)]at hp;cases hp
   have YO:l[j]? =some o:=by rwa [List.getElem?_append_left (by omega)]at h1
   refine LB St YO (by rw[h2];simp) h3 lL hi fun a' w' iy=> ?_
   have Ce:j<listed.size:=(Array.getElem?_eq_some_iff.1 h2).1
   have jM:∀i,((listed.setIfInBounds j true)[i]? =some true)↔(i=j∨listed[i]? =some true):=by
    intro i;rw[Array.getElem?_setIfInBounds];by_cases jq:j=i
    ·subst jq;simp[Ce]
    ·rw[if_neg jq];exact⟨.inr,fun h=>h.resolve_left (fun e=>jq e.symm)⟩
   refine ih _ _ _ _ (by simpa using jW) ?_ ?_ ?_ (DM iy fun i _=>jM i)
   ·simp only[Array.toList_setIfInBounds];omega
   ·intro i h5 h6;rw[Array.getElem?_setIfInBounds,if_neg (by omega)];exact yk i h5 h6
   ·intro i o' h5 h6 k hk;rcases(jM i).1 h6 with e|h7
    ·subst e;have:o'=o:=by rw[h1]at h5;exact(Option.some.inj h5).symm
     subst this;exact(jM k).2 (.inr (h3 k hk))
    ·exact(jM k).2 (.inr (lL i o' h5 h7 k hk))
theorem pq {l:List Oper} {J:(Nat→Prop)→Act→World→Prop} (dr:eK l 0=true)
  (DM:∀{D D':Nat→Prop} {a w},J D a w→(∀i,i<l.length→(D' i↔D i))→J D' a w) {Q:Exit→Act→World→Prop}
  (LB:∀{D:Nat→Prop} {a w j o rest},j<l.length→l[j]? =some o→¬D j→(∀k∈cy o,D k)→(∀i o,l[i]? =some o→D i→∀k∈cy o,D k)→J D a w→(∀a' w',J (fun i=>i=j∨D i) a' w'→wpOpsIn (FW r) 0 P l.toArray Q rest a' w')→wpOpsIn (FW r) 0 P l.toArray Q (j::rest) a w)
  (kA:∀a w,J (fun i=>i<l.length) a w→Q .normal a w):∀(fuel t:Nat) (listed:Array Bool) (a:Act) (w:World),listed.size=l.length→listed.toList.countP (!·)=fuel→
  (∀(i:Nat) (o:Oper),l[i]? =some o→listed[i]? =some true→∀k∈cy o,listed[k]? =some true)→J (fun i=>listed[i]? =some true) a w→wpOpsIn (FW r) 0 P l.toArray Q (Region.linearise.go .any l.toArray fuel t listed []) a w:=by
 intro fuel
 induction fuel with
 |zero=>
  intro t listed a w jW hc lL hi;simp only[Region.linearise.go,List.reverse_nil,wpOpsIn];exact kA a w (DM hi fun i ou=>⟨fun h=>by simpa using jt hc i (by simp[jW];exact h),fun h=>ou⟩)
 |succ fuel ih=>
  intro t listed a w jW hc lL hi
  have mD:∀j,j∈Region.ready .any l.toArray listed→∃o,l[j]? =some o∧listed[j]? =some false∧∀k∈cy o,listed[k]? =some true:=by
   intro j hj;simp only[Region.ready,List.mem_filter,List.mem_range,Bool.and_eq_true]at hj;obtain⟨h1,h2,h3⟩:=hj;have dY:j<l.length:=by simpa using h1
   refine⟨l[j],List.getElem?_eq_getElem dY,?_,?_⟩
   ·rw[Array.getElem?_eq_getElem (by omega)];simp only[Array.getD_eq_getD_getElem?,Array.getElem?_eq_getElem (show j<listed.size by omega),Option.getD_some,Bool.not_eq_true']at h2;rw[h2]
   ·intro k hk;simp only[cy,List.mem_map,List.mem_filter]at hk;obtain⟨e,⟨Ly,Lz⟩,rfl⟩:=hk;have h4:l.toArray[j]? =some l[j]:=by simp[dY]
    rw[h4]at h3;simp only[Option.map_some,Option.getD_some,Array.all_eq_true_iff_forall_mem]at h3;have h5:=h3 e (by simpa using Ly);rw[Lz]at h5;simp only[Bool.not_true,Bool.false_or,Array.getD_eq_getD_getElem?]at h5
    cases hx:listed[e.on]? with
    |none=>simp[hx]at h5
    |some b=>simp[hx]at h5;rw[h5]
  have eN:Region.ready .any l.toArray listed≠[]:=by
   obtain⟨i,h1,h2⟩:=mC (bs:=listed.toList) (by omega)
   have dY:i<l.length:=by
    have:=(List.getElem?_eq_some_iff.1 h1).1;simp at this;omega
   intro rT
   have eV:i∈Region.ready .any l.toArray listed:=by
    simp only[Region.ready,List.mem_filter,List.mem_range,Bool.and_eq_true];refine⟨by simpa using dY,?_,?_⟩
    ·have:listed[i]? =some false:=by simpa using h1
     simp[Array.getD_eq_getD_getElem?,this]
    ·have h4:l.toArray[i]? =some l[i]:=by simp[dY]
     rw[h4];simp only[Option.map_some,Option.getD_some,Array.all_eq_true_iff_forall_mem];intro e he
     cases hb:Region.binds .any e with
     |false=>rfl
     |true=>
      have hk:e.on∈cy l[i]:=by
       simp only[cy,List.mem_map,List.mem_filter];exact⟨e,⟨by simpa using he,hb⟩,rfl⟩
      have Qf:=cR dr i l[i] (List.getElem?_eq_getElem dY) _ hk;have:listed[e.on]? =some true:=by simpa using h2 e.on (by omega)
      simp[Array.getD_eq_getD_getElem?,this]
   rw[rT]at eV;cases eV
  simp only[Region.linearise.go]
  change wpOpsIn (FW r) 0 P l.toArray Q (match (Region.ready .any l.toArray listed)[t%(Region.ready .any l.toArray listed).length]? with
   |some i=>Region.linearise.go .any l.toArray fuel (t/(Region.ready .any l.toArray listed).length) (listed.setIfInBounds i true) [i]
   |none=>[].reverse) a w
  have dY:t%(Region.ready .any l.toArray listed).length<(Region.ready .any l.toArray listed).length:=Nat.mod_lt _ (List.length_pos_iff.2 eN);rw[List.getElem?_eq_getElem dY];have eV:=List.getElem_mem dY;generalize (Region.ready .any l.toArray listed)[t%(Region.ready .any l.toArray listed).length]=j at eV;obtain⟨o,h1,h2,h3⟩:=mD j eV;simp only[];rw[linearise_go_acc,List.reverse_singleton,List.singleton_append];have xU:j<l.length:=(List.getElem?_eq_some_iff.1 h1).1;refine LB xU h1 (by rw[h2];simp) h3 lL hi fun a' w' iy=> ?_
  have xT:listed.toList[j]? =some false:=by simpa using h2
  have Ce:j<listed.size:=(Array.getElem?_eq_some_iff.1 h2).1
  have jM:∀i,((listed.setIfInBounds j true)[i]? =some true)↔(i=j∨listed[i]? =some true):=by
   intro i;rw[Array.getElem?_setIfInBounds];by_cases jq:j=i
   ·subst jq;simp[Ce]
   ·rw[if_neg jq];exact⟨.inr,fun h=>h.resolve_left (fun e=>jq e.symm)⟩
  refine ih _ _ _ _ (by simpa using jW) ?_ ?_ (DM iy fun i _=>jM i)
  ·have:=k3 xT;simp only[Array.toList_setIfInBounds];omega
  ·intro i o' h5 h6 k hk;rcases(jM i).1 h6 with e|h7
   ·subst e;have:o'=o:=by rw[h1]at h5;exact(Option.some.inj h5).symm
    subst this;exact(jM k).2 (.inr (h3 k hk))
   ·exact(jM k).2 (.inr (lL i o' h5 h7 k hk))
def jX:Op→Bool
 |.move _| .assign _| .pick .. | .load .. | .nilCheck _| .binOp .. | .unOp .. | .convert .. | .makeInterface .. | .makeFunc .. | .slice .. | .fieldAddr .. | .field .. | .indexAddr .. | .index .. | .typeAssert .. | .extract .. | .lookup .. | .build .. =>true
 |.call {callee:= .builtin .len,.. }| .call {callee:= .builtin .cap,.. }| .call {callee:= .builtin .min,.. }| .call {callee:= .builtin .max,.. }=>true
 |_=>false
theorem mE {ρ ρ':Operand→Value} {o:Oper} (hq:jX o.op=true) (h:∀x∈o.op.operands,ρ x=ρ' x):execOp ρ o=execOp ρ' o:=by
 obtain⟨dst,op,type,pos,after,guard⟩:=o;have Cg:∀{xs:Array Operand},(∀x∈xs,ρ x=ρ' x)→xs.map ρ=xs.map ρ':=fun hx=>Array.map_congr_left hx
 have DN:∀{x:Option Operand},(∀y,x=some y→ρ y=ρ' y)→x.map ρ=x.map ρ':=fun {x} hx=>by
  cases x with
  |none=>rfl
  |some y=>simp[hx y rfl]
 cases op<;>simp only[jX,Bool.false_eq_true]at hq<;>simp only[Op.operands,List.mem_toArray,List.mem_cons,List.not_mem_nil,or_false,forall_eq_or_imp,forall_eq,Array.mem_append,Option.mem_toArray]at h<;>simp only[execOp]
 case pick=>rw[h.1,h.2.1,h.2.2]
 case build t ps=>
  have:ps.map (fun p=>(p.1,ρ p.2))=ps.map (fun p=>(p.1,ρ' p.2)):=Array.map_congr_left fun p hp=>by
   rw[h p.2 (List.mem_map.2 ⟨p,by simpa using hp,rfl⟩)]
  rw[this]
 case nilCheck=>rw[h]
 case binOp=>rw[h.1,h.2]
 case makeFunc f xs ys=>rw[Cg (fun x hx=>h x (.inl hx)),Cg (fun x hx=>h x (.inr hx))]
 case slice t x lo hi mx=>
  rw[h x (by simp),DN (x:=lo) (fun y hy=>h y (by simp[hy])),DN (x:=hi) (fun y hy=>h y (by simp[hy])),DN (x:=mx) (fun y hy=>h y (by simp[hy]))]
 case indexAddr=>rw[h.1,h.2]
 case index=>rw[h.1,h.2]
 case lookup=>rw[h.1,h.2]
 case call c=>
  obtain⟨YP,args,DE⟩:=c
  cases YP with
  |builtin b=>
   simp only[Call.operands,Array.empty_append]at h;simp only[resolve,Cg h]
  |_=>cases hq
 all_goals rw[h]
theorem Bm {s:Sem Value} {w w':World} {nx:Next} (h:(do pure (Next.value (←s)):Sem Next).run P w= .ok nx w'):∃v,nx= .value v:=by
 rw[Sem.run_bind]at h
 cases hs:s.run P w with
 |ok v w1=>rw[hs]at h;simp only[Result.andThen,Sem.run_pure,Result.ok.injEq]at h;exact⟨v,h.1.symm⟩
 |halt x w1=>rw[hs]at h;simp[Result.andThen]at h
theorem DO {ρ:Operand→Value} {o:Oper} (hq:jX o.op=true) {nx:Next} {w w':World} (h:(execOp ρ o).run P w= .ok nx w'):∃v,nx= .value v:=by
 obtain⟨dst,op,type,pos,after,guard⟩:=o
 cases op<;>simp only[jX,Bool.false_eq_true]at hq<;>simp only[execOp]at h
 case move=>simp only[Sem.run_pure,Result.ok.injEq]at h;exact⟨_,h.1.symm⟩
 case assign=>simp only[Sem.run_pure,Result.ok.injEq]at h;exact⟨_,h.1.symm⟩
 case pick c a b=>
  rw[Sem.run_bind]at h
  cases hs:(asBool (ρ c)).run P w with
  |ok v w1=>rw[hs]at h;simp only[Result.andThen]at h;exact⟨_,(Result.ok.inj h).1.symm⟩
  |halt x w1=>rw[hs]at h;simp[Result.andThen]at h
 case nilCheck x=>
  split at h
  ·simp[runtimePanic,Sem.run]at h
  ·simp[runtimePanic,Sem.run]at h
  ·simp[runtimePanic,Sem.run]at h
  ·split at h
   ·simp[runtimePanic,Sem.run]at h
   ·rename_i t w0 _ _
    simp only[Sem.run_bind]at h
    cases hp:(program).run P w with
    |halt x w1=>rw[hp]at h;simp[Result.andThen]at h
    |ok p w1=>
     rw[hp]at h;simp only[Result.andThen]at h;generalize (nilAhead _ _ _ _).run P _=res at h
     cases res with
     |halt x w2=>cases h
     |ok b w2=>
      simp only at h
      split at h
      ·simp[unsupported,Sem.run,Sem.run_bind,Result.andThen]at h
      ·simp only[Sem.run_pure,Sem.run_bind,Result.andThen,Result.ok.injEq]at h;exact⟨_,h.1.symm⟩
   ·simp only[Sem.run_pure,Result.ok.injEq]at h;exact⟨_,h.1.symm⟩
  ·simp only[Sem.run_pure,Result.ok.injEq]at h;exact⟨_,h.1.symm⟩
 case call c=>
  obtain⟨YP,args,DE⟩:=c
  cases YP with
  |builtin b=>
   cases b<;>first|cases hq|skip
   all_goals
    simp only[resolve]at h;exact Bm h
  |_=>cases hq
 all_goals exact Bm h
def One (P:Program) (r:Option Nat) (ops:Array Oper) (w:World) (o:Oper) (a:Act) (v:Value):Prop:=
 if Region.wanted o (yielded ops a.tmps)then(execOp a.eval o).run P w= .ok (.value v) w else v=undef
def YQ (P:Program) (r:Option Nat) (ops:Array Oper) (w:World):List Oper→Act→Act→List Value→Prop
 |[],a,a',vs=>a=a'∧vs=[]
 |o::os,a,a',vs=>∃v vt,vs=v::vt∧One P r ops w o a v∧YQ P r ops w os (a.put o.dst v) a' vt
def kN (P:Program) (r:Option Nat) (n:Nat) (ops:Array Oper):List Oper→Sl→List Deferred→World→(Sl→Prop)→Prop
 |[],L,ds,w,k=>k L
 |o::rest,L,ds,w,k=>Rg P r n ops [o] L ds w (fun e L' qw w'=>e= .normal∧qw=ds∧w'=w∧kN P r n ops rest L' ds w k)
theorem kN.nil {ops:Array Oper} {k:Sl→Prop} (h:k L):kN P r n ops [] L ds w k:=h
theorem mF {o:Oper} (hq:jX o.op=true):∀c,o.op≠ .defer c:=fun c h=>by rw[h]at hq;cases hq
theorem kN.trace {ops:Array Oper} {k:Sl→Prop}:∀{l:List Oper} {L:Sl} {a:Act},kN P r n ops l L ds w k→(∀o∈l,jX o.op=true)→iY n a L ds→∃a' L' vs,YQ P r ops w l a a' vs∧iY n a' L' ds∧k L'
 |[],L,a,h,_,ha=>⟨a,L,[],⟨rfl,rfl⟩,ha,h⟩
 |o::os,L,a,h,hq,ha=>by
  have hqo:=hq o (List.mem_cons_self ..);have h1:=Rg.run h a ha;simp only[wpListIn]at h1;by_cases hw:Region.wanted o (yielded ops a.tmps)=true
  ·rw[if_pos hw]at h1;obtain⟨_,h1⟩:=h1;rw[Oper.semAt_eq _ _ _ (mF hqo)]at h1
   cases hr:(execOp a.eval o).run P w with
   |ok nx w'=>
    obtain⟨v,rfl⟩:=DO hqo hr;rw[hr]at h1;obtain⟨L1,ds1,hA,_,LC,X6,hk⟩:=h1;rw[LC]at hA;rw[X6]at hr;obtain⟨a',L',vs,h2,h3,h4⟩:=kN.trace hk (fun o ho=>hq o (List.mem_cons_of_mem _ ho)) hA;exact⟨a',L',v::vs,⟨v,vs,rfl,by unfold One;rw[if_pos hw];exact hr,h2⟩,h3,h4⟩
   |halt x w'=>
    rw[hr]at h1
    cases x with
    |panic v=>obtain⟨L1,ds1,hA,hn,_⟩:=h1;cases hn
    |_=>exact h1.elim
  ·rw[if_neg hw]at h1;obtain⟨_,L1,ds1,hA,_,LC,_,hk⟩:=h1;rw[LC]at hA;obtain⟨a',L',vs,h2,h3,h4⟩:=kN.trace hk (fun o ho=>hq o (List.mem_cons_of_mem _ ho)) hA;exact⟨a',L',undef::vs,⟨undef,vs,rfl,by unfold One;rw[if_neg hw],h2⟩,h3,h4⟩
def asks (ops:List Oper) (o:Oper):List Nat:=(o.op.operands.toList.filterMap fun x=>match x with| .tmp t=>some t|_=>none)++(match o.guard with|some (j,_)=>((ops[j]?).bind (·.dst)).toList|none=>[])
def kC (l:List Oper) (m:Nat):Bool:=(List.range m).all fun j=>match l[j]? with
 |some o=>jX o.op&&(asks l o).all fun t=>(List.range m).all fun i=>match l[i]? with
  |some o'=> !(o'.dst==some t)||(cy o).contains i||Nat.beq i j||(cy o').contains j
  |none=>true
 |none=>false
theorem lA {l:List Oper} {m:Nat} (h:kC l m=true) {j:Nat} {o:Oper} (hj:j<m) (ho:l[j]? =some o):jX o.op=true∧∀t∈asks l o,∀i o',i<m→l[i]? =some o'→o'.dst=some t→i∈cy o∨i=j∨j∈cy o':=by
 have h1:=List.all_eq_true.1 h j (List.mem_range.2 hj);rw[ho]at h1;simp only[Bool.and_eq_true]at h1;refine⟨h1.1,fun t ht i o' hi fV hd=>?_⟩;have h2:=List.all_eq_true.1 (List.all_eq_true.1 h1.2 t ht) i (List.mem_range.2 hi);rw[fV]at h2;simp only[hd,beq_self_eq_true,Bool.not_true,Bool.false_or,Bool.or_eq_true,List.contains_iff_mem]at h2;rcases h2 with(h2|h2)|h2
 ·exact .inl h2
 ·exact .inr (.inl (Nat.eq_of_beq_eq_true h2))
 ·exact .inr (.inr h2)
theorem YQ.Ch {ops:Array Oper}:∀{l:List Oper} {a a':Act} {vs:List Value},YQ P r ops w l a a' vs→∃st:Nat→Act,st 0=a∧st l.length=a'∧∀j o,l[j]? =some o→∃v,vs[j]? =some v∧One P r ops w o (st j) v∧st (j+1)=(st j).put o.dst v
 |[],a,a',vs,h=>⟨fun _=>a,rfl,h.1,fun j o ho=>by simp at ho⟩
 |o::os,a,a',vs,⟨v,vt,hv,h1,h2⟩=>by
  obtain⟨st,g0,g1,g2⟩:=YQ.Ch h2;refine⟨fun j=>match j with|0=>a|j+1=>st j,rfl,g1,fun j o' fV=>?_⟩;subst hv
  cases j with
  |zero=>simp only[List.getElem?_cons_zero,Option.some.injEq]at fV;subst fV;exact⟨v,rfl,h1,g0⟩
  |succ j=>exact g2 j o' (by simpa using fV)
theorem iF (a:Act) (d:Option Nat) (v:Value) (t:Nat):(a.put d v).tmps[t]? =if d=some t then(a.tmps.setIfInBounds t v)[t]? else a.tmps[t]? :=by
 cases d with
 |none=>simp[Act.put]
 |some d=>
  simp only[Act.put,Option.some.injEq]
  split
  ·rename_i h;subst h;rfl
  ·rename_i h;rw[Array.getElem?_setIfInBounds,if_neg h]
theorem oD (a:Act) (d:Option Nat) (v:Value):(a.put d v).tmps.size=a.tmps.size:=by cases d<;>simp[Act.put]
theorem put_defers (a:Act) (d:Option Nat) (v:Value):(a.put d v).defers=a.defers:=by cases d<;>rfl
theorem um {xs ys:Array Value} {t:Nat} {v:Value} (h:xs.size=ys.size):(xs.setIfInBounds t v)[t]? =(ys.setIfInBounds t v)[t]? :=by
 rw[Array.getElem?_setIfInBounds,Array.getElem?_setIfInBounds,if_pos rfl,if_pos rfl,h]
structure QJ (l:List Oper) (m:Nat) (a0:Act) (hU:List Value) (wd:World) (D:Nat→Prop) (a:Act) (w:World):Prop where
 world:w=wd
 defers:a.defers=a0.defers
 size:a.tmps.size=a0.tmps.size
 done:∀i o v t,i<m→l[i]? =some o→hU[i]? =some v→D i→o.dst=some t→a.tmps[t]? =(a0.tmps.setIfInBounds t v)[t]?
 base:∀t,(∀i o,i<m→l[i]? =some o→D i→o.dst≠some t)→a.tmps[t]? =a0.tmps[t]?
theorem fP {l:List Oper} (dr:eK l 0=true) {i j:Nat} {o o':Oper} {t:Nat} (hi:l[i]? =some o) (hj:l[j]? =some o') (h1:o.dst=some t) (h2:o'.dst=some t):i=j:=by
 by_cases e:i=j
 ·exact e
 ·exact absurd h2 (vU dr i j o o' t hi hj e h1)
theorem oE {l:List Oper} {m:Nat} {a0:Act} {hU:List Value} {ops:Array Oper} (dr:eK l 0=true) {st:Nat→Act} (h0:st 0=a0) (kM:∀j o,j<m→l[j]? =some o→∃v,hU[j]? =some v∧One P r ops w o (st j) v∧st (j+1)=(st j).put o.dst v):
  ∀j,j≤m→j≤l.length→QJ l m a0 hU w (fun i=>i<j) (st j) w
 |0,_,_=>⟨rfl,by rw[h0],by rw[h0],fun i o v t _ _ _ h=>by omega,fun t _=>by rw[h0]⟩
 |j+1,hm,hl=>by
  have ih:=oE dr h0 kM j (by omega) (by omega);obtain⟨o,ho⟩:∃o,l[j]? =some o:=⟨_,List.getElem?_eq_getElem (by omega)⟩;obtain⟨v,hv,_,h2⟩:=kM j o (by omega) ho;rw[h2];refine⟨rfl,by rw[put_defers];exact ih.defers,by rw[oD];exact ih.size,fun i o' v' t p6 fV sr jq hd=>?_,fun t ht=>?_⟩
  ·rw[iF];by_cases e:i=j
   ·subst e;rw[ho]at fV;cases fV;rw[hv]at sr;cases sr;rw[if_pos hd];exact um ih.size
   ·rw[if_neg (fun h=>e (fP dr fV ho hd h))];exact ih.done i o' v' t p6 fV sr (by omega) hd
  ·rw[iF,if_neg (ht j o (by omega) ho (by omega))];exact ih.base t fun i o' h1 h2 h3=>ht i o' h1 h2 (by omega)
theorem QJ.agree {l:List Oper} {m:Nat} {a0:Act} {hU:List Value} {wd w':World} {D D':Nat→Prop} {a a':Act} (dr:eK l 0=true) (j7:∀i,i<m→∃v,hU[i]? =some v) (h:QJ l m a0 hU wd D a w) (h':QJ l m a0 hU wd D' a' w') {t:Nat}
  (hD:∀i o,i<m→l[i]? =some o→o.dst=some t→(D i↔D' i)):a.tmps[t]? =a'.tmps[t]? :=by
 by_cases hx:∃i o,i<m∧l[i]? =some o∧o.dst=some t
 ·obtain⟨i,o,p6,ho,hd⟩:=hx;by_cases Dv:D i
  ·obtain⟨v,hv⟩:=j7 i p6;rw[h.done i o v t p6 ho hv Dv hd,h'.done i o v t p6 ho hv ((hD i o p6 ho hd).1 Dv) hd]
  ·have key:∀{E:Nat→Prop},¬E i→∀k o',k<m→l[k]? =some o'→E k→o'.dst≠some t:=fun hE k o' _ fV hEk PN=>hE (by rw[fP dr ho fV hd PN];exact hEk)
   rw[h.base t (key Dv),h'.base t (key fun hh=>Dv ((hD i o p6 ho hd).2 hh))]
 ·have key:∀{E:Nat→Prop},∀k o',k<m→l[k]? =some o'→E k→o'.dst≠some t:=fun k o' hk fV _ PN=>hx ⟨k,o',hk,fV,PN⟩
  rw[h.base t key,h'.base t key]
theorem oF {l:List Oper} {o:Oper} {a a':Act} (h:∀t∈asks l o,a.tmps[t]? =a'.tmps[t]?):(∀x∈o.op.operands,a.eval x=a'.eval x)∧Region.wanted o (yielded l.toArray a.tmps)=Region.wanted o (yielded l.toArray a'.tmps):=by
 refine⟨fun x hx=>?_,?_⟩
 ·cases x with
  |tmp t=>
   have:=h t (List.mem_append_left _ (List.mem_filterMap.2 ⟨.tmp t,by simpa using hx,rfl⟩));simp only[Act.eval,Array.getD_eq_getD_getElem?,this]
  |_=>rfl
 ·unfold Region.wanted
  cases hg:o.guard with
  |none=>rfl
  |some p=>
   obtain⟨j,b⟩:=p;simp only
   have:yielded l.toArray a.tmps j=yielded l.toArray a'.tmps j:=by
    unfold yielded
    cases hd:(l.toArray[j]?).bind (·.dst)with
    |none=>rfl
    |some t=>
     have h2:=h t (List.mem_append_right _ (by
      simp only[hg];have:(l[j]?).bind (·.dst)=some t:=by rw[←hd];simp
      rw[this];simp))
     simp only[Option.bind_some,h2]
   rw[this]
theorem One.run {ops:Array Oper} {Q:Exit→Act→World→Prop} {i:Nat} {rest:List Nat} {o:Oper} {a:Act} {v:Value} (ho:ops[i]? =some o) (hq:jX o.op=true) (h:One P r ops w o a v) (hk:wpOpsIn (FW r) 0 P ops Q rest (a.put o.dst v) w):wpOpsIn (FW r) 0 P ops Q (i::rest) a w:=by
 simp only[wpOpsIn,ho];unfold One at h
 split
 ·rename_i hw
  rw[if_pos hw]at h;refine⟨fun _ _=>trivial,?_⟩;rw[Oper.semAt_eq _ _ _ (mF hq),h];exact hk
 ·rename_i hw
  rw[if_neg hw]at h;subst h;exact⟨fun _ _=>trivial,hk⟩
theorem QJ.step {l:List Oper} {m:Nat} {a0:Act} {hU:List Value} {wd:World} (dr:eK l 0=true) (nT:kC l m=true) (j7:∀i,i<m→∃v,hU[i]? =some v) {st:Nat→Act} (qy:m≤l.length)
  (kM:∀j o,j<m→l[j]? =some o→∃v,hU[j]? =some v∧One P r l.toArray wd o (st j) v) (JF:∀j,j<m→QJ l m a0 hU wd (fun i=>i<j) (st j) wd)
  {Q:Exit→Act→World→Prop} {D:Nat→Prop} {a:Act} {w:World} {j:Nat} {o:Oper} {rest:List Nat} (hj:j<m) (ho:l[j]? =some o) (pY: ¬D j) (hp:∀k∈cy o,D k) (lL:∀i o,l[i]? =some o→D i→∀k∈cy o,D k) (hi:QJ l m a0 hU wd D a w)
  (hk:∀a' w',QJ l m a0 hU wd (fun i=>i=j∨D i) a' w'→wpOpsIn (FW r) 0 P l.toArray Q rest a' w'):wpOpsIn (FW r) 0 P l.toArray Q (j::rest) a w:=by
 obtain⟨v,hv,h1⟩:=kM j o hj ho;obtain⟨hq,nT⟩:=lA nT hj ho
 have Du:∀t∈asks l o,a.tmps[t]? =(st j).tmps[t]? :=fun t ht=>hi.agree dr j7 (JF j hj) fun i o' p6 fV hd=>by
  rcases nT t ht i o' p6 fV hd with h|h|h
  ·have:=cR dr j o ho i h;exact⟨fun _=>by omega,fun _=>hp i h⟩
  ·subst h;exact⟨fun h=>absurd h pY,fun h=>by omega⟩
  ·have:=cR dr i o' fV j h;exact⟨fun h2=>absurd (lL i o' fV h2 j h) pY,fun h=>by omega⟩
 obtain⟨KY,DI⟩:=oF Du;obtain⟨X6⟩:Nonempty (w=wd):=⟨hi.world⟩
 have h2:One P r l.toArray w o a v:=by
  unfold One at h1 ⊢;rw[DI,mE hq KY,X6];exact h1
 refine h2.run (by simpa using ho) hq (hk _ _ ⟨X6,by rw[put_defers];exact hi.defers,by rw[oD];exact hi.size,fun i o' v' t p6 fV sr hD hd=>?_,fun t ht=>?_⟩)
 ·rw[iF];by_cases e:i=j
  ·subst e;rw[ho]at fV;cases fV;rw[hv]at sr;cases sr;rw[if_pos hd];exact um hi.size
  ·rw[if_neg (fun h=>e (fP dr fV ho hd h))];exact hi.done i o' v' t p6 fV sr (hD.resolve_left e) hd
 ·rw[iF,if_neg (ht j o hj ho (.inl rfl))];exact hi.base t fun i o' h1 h2 h3=>ht i o' h1 h2 (.inr h3)
theorem kN.parts {l lq:List Oper} {m:Nat} {k:Sl→Prop} (hlq:lq=l.take m) (qy:m≤l.length) (dr:eK l 0=true) (nT:kC l m=true) {a0:Act} (ha:iY n a0 L ds) (h:kN P r n l.toArray lq L ds w k):
  ∃hU:List Value,(∀i,i<m→∃v,hU[i]? =some v)∧(∃st:Nat→Act,(∀j o,j<m→l[j]? =some o→∃v,hU[j]? =some v∧One P r l.toArray w o (st j) v)∧∀j,j<m→QJ l m a0 hU w (fun i=>i<j) (st j) w)∧
   ∀a w',QJ l m a0 hU w (fun i=>i<m) a w'→∃L',iY n a L' ds∧k L'∧w'=w:=by
 have jf:∀j,j<m→lq[j]? =l[j]? :=fun j hj=>by rw[hlq,List.getElem?_take,if_pos hj]
 obtain⟨a',L',vs,xh,hA,hk⟩:=h.trace (fun o ho=>by
  obtain⟨j,hj⟩:=List.mem_iff_getElem?.1 ho
  have Bj:j<m:=by
   have:=(List.getElem?_eq_some_iff.1 hj).1;rw[hlq,List.length_take]at this;omega
  exact(lA nT Bj (by rw[←jf j Bj];exact hj)).1) ha
 obtain⟨st,h0,hl,kM⟩:=xh.Ch;have hlen:lq.length=m:=by rw[hlq,List.length_take];omega
 rw[hlen]at hl;have xW:∀j o,j<m→l[j]? =some o→∃v,vs[j]? =some v∧One P r l.toArray w o (st j) v∧st (j+1)=(st j).put o.dst v:=fun j o hj ho=>kM j o (by rw[jf j hj];exact ho)
 have j7:∀i,i<m→∃v,vs[i]? =some v:=fun i hi=>by
  obtain⟨v,hv,_⟩:=xW i l[i] hi (List.getElem?_eq_getElem (by omega));exact⟨v,hv⟩
 refine⟨vs,j7,⟨st,fun j o hj ho=>?_,fun j hj=>oE dr h0 xW j (by omega) (by omega)⟩,fun a w' hi=>⟨L',⟨?_,?_,fun t v ht=>?_⟩,hk,hi.world⟩⟩
 ·obtain⟨v,h1,h2,_⟩:=xW j o hj ho;exact⟨v,h1,h2⟩
 ·rw[hi.size];exact ha.size
 ·rw[hi.defers];exact ha.defers
 ·have:=oE dr h0 xW m (Nat.le_refl _) qy;rw[hl]at this;rw[hi.agree dr j7 this (fun _ _ _ _ _=>Iff.rfl)];exact hA.at_ t v ht
theorem QJ.YR {l:List Oper} {m:Nat} {a0 a:Act} {hU:List Value} {wd w:World} {D D':Nat→Prop} (qy:m≤l.length) (h:QJ l m a0 hU wd D a w) (hD:∀i,i<l.length→(D' i↔D i)):QJ l m a0 hU wd D' a w:=
 ⟨h.world,h.defers,h.size,fun i o v t h1 h2 h3 h4 h5=>h.done i o v t h1 h2 h3 ((hD i (by omega)).1 h4) h5,fun t ht=>h.base t fun i o h1 h2 h3=>ht i o h1 h2 ((hD i (by omega)).2 h3)⟩
theorem pv (w:World):∀M,Step M w M {w with drawn:=w.drawn+1} aC:=fun M=>me M w
theorem T.jN {id:Nat} {l:List Oper} (hm:P.follows .mixedOrders=true) (dr:eK l 0=true) (nT:kC l l.length=true)
  (h:∀wD,(∀M,Step M w M wD aC)→kN P r n l.toArray l L ds wD (fun L'=>K .normal L' ds wD)):T P r n (.region id l.toArray true) L ds w K:=by
 refine⟨fun a ha=>wpIn_region_draw fun t=>?_⟩;simp only[Region.schedule,hm,Bool.true_or,if_true,Region.linearise];obtain⟨hU,j7,⟨st,h1,h2⟩,kA⟩:=kN.parts (m:=l.length) (by simp) (Nat.le_refl _) dr nT ha (h _ (pv w));refine pq (J:=QJ l l.length a hU _) dr (fun hi hD=>hi.YR (Nat.le_refl _) hD) (fun hj ho pY hp lL hi hk=>QJ.step dr nT j7 (Nat.le_refl _) h1 h2 hj ho pY hp lL hi hk) (fun a' w' hi=>?_) _ t _ a _ (by simp) (by simp[List.countP_replicate]) (fun i o h1 h2=>?_) ⟨rfl,rfl,rfl,fun i o v t h1 h2 h3 h4=>?_,fun t _=>rfl⟩
 ·obtain⟨L',hA,hk,hw⟩:=kA a' w' hi;rw[hw];exact⟨L',ds,hA,hk⟩
 ·simp[Array.getElem?_replicate]at h2
 ·simp[Array.getElem?_replicate]at h4
theorem T.LD {id:Nat} {l:List Oper} (m:Nat) (hm:P.follows .mixedOrders=true) (qy:Nat.blt m l.length=true) (dr:eK l 0=true) (ju:lu l m ((l[m]?.map cy).getD [])=true) (yM:kB l (m+1)=true) (nT:kC l m=true)
  (h:∀wD,(∀M,Step M w M wD aC)→kN P r n l.toArray (l.take m) L ds wD (fun L'=>Rg P r n l.toArray (l.drop m) L' ds wD K)):T P r n (.region id l.toArray true) L ds w K:=by
 refine⟨fun a ha=>wpIn_region_draw fun t=>?_⟩;simp only[Region.schedule,hm,Bool.true_or,if_true,Region.linearise];have Bi:m<l.length:=by simpa[Nat.blt_eq]using qy
 obtain⟨hU,j7,⟨st,h1,h2⟩,kA⟩:=kN.parts (m:=m) rfl (by omega) dr nT ha (h _ (pv w))
 have hl:l=l.take m++l[m]::l.drop (m+1):=by
  rw[←List.drop_eq_getElem_cons Bi,List.take_append_drop]
 have yh:(l.take m).length=m:=by simp;omega
 have hg:l[m]? =some l[m]:=List.getElem?_eq_getElem Bi
 have key:=Gy (P:=P) (r:=r) (l:=l.take m) (o₁:=l[m]) (tl:=l.drop (m+1)) (J:=QJ l m a hU {w with drawn:=w.drawn+1}) (Q:=up n K) (by rw[←hl];exact dr) (by rw[yh,←hl];rw[hg]at ju;exact ju) (by rw[yh,←hl];exact yM)
  (fun hi hD=>hi.YR (by omega) (by rw[←hl]at hD;exact hD)) (fun {D a' w' j o rest} hj ho pY hp lL hi hk=>by
   rw[←hl]at lL hk ⊢;rw[yh]at hj;rw[List.getElem?_take,if_pos hj]at ho;exact QJ.step dr nT j7 (by omega) h1 h2 hj ho pY hp lL hi hk) (fun a' w' hi=>by
   rw[yh]at hi;obtain⟨L',hA,hk,hw⟩:=kA a' w' hi;rw[←hl,←List.drop_eq_getElem_cons Bi,hw];exact hk.run a' hA) l.length t (Array.replicate l.length false) a {w with drawn:=w.drawn+1}
 rw[←hl]at key;have jW:l.toArray.size=l.length:=by simp
 rw[jW];refine key (by simp) (by simp[List.countP_replicate]) (fun i h3 h4=>?_) (fun i o h3 h4=>?_) ⟨rfl,rfl,rfl,fun i o v t h3 h4 h5 h6=>?_,fun t _=>rfl⟩
 ·simp[Array.getElem?_replicate];exact h4
 ·simp[Array.getElem?_replicate]at h4
 ·simp[Array.getElem?_replicate]at h6
theorem gD.nil {M:aD} {k:Sl→Prop} {acc:Sl} (h:k acc):gD (M:=M) w k [] [] acc:=by unfold gD;exact h
theorem T.ym {x y:Code} (L1:Sl) (h:T P r n x L ds w (fun e L' qw w'=>e= .normal∧qw=ds∧w'=w∧Sub L1 L')) (k:T P r n y L1 ds w K):T P r n (.seq x y) L ds w K:=
 .seq (h.mono fun e L' qw w' ⟨he,hd,hw,hs⟩=>by subst he;rw[hd,hw];exact k.weaken L1 hs)
end
end Go.K
namespace Go.K
section
variable {P:Program} {r:Option Nat} {n:Nat} {L:Sl} {ds:List Deferred} {w:World} {K:Kt}
def tq:Op→Bool
 |.defer _| .go _| .select .. | .send .. | .recv .. =>false
 |_=>true
theorem Qi {ρ ρ':Operand→Value} {o:Oper} (hq:tq o.op=true) (h:∀x∈o.op.operands,ρ x=ρ' x):execOp ρ o=execOp ρ' o:=by
 obtain⟨dst,op,type,pos,after,guard⟩:=o;have Cg:∀{xs:Array Operand},(∀x∈xs,ρ x=ρ' x)→xs.map ρ=xs.map ρ':=fun hx=>Array.map_congr_left hx
 have DN:∀{x:Option Operand},(∀y,x=some y→ρ y=ρ' y)→x.map ρ=x.map ρ':=fun {x} hx=>by
  cases x with
  |none=>rfl
  |some y=>simp[hx y rfl]
 cases op<;>simp only[tq,Bool.false_eq_true]at hq<;>simp only[Op.operands,List.mem_toArray,List.mem_cons,List.not_mem_nil,or_false,forall_eq_or_imp,forall_eq,Array.mem_append,Option.mem_toArray]at h<;>simp only[execOp]
 case pick=>rw[h.1,h.2.1,h.2.2]
 case build t ps=>
  have:ps.map (fun p=>(p.1,ρ p.2))=ps.map (fun p=>(p.1,ρ' p.2)):=Array.map_congr_left fun p hp=>by
   rw[h p.2 (List.mem_map.2 ⟨p,by simpa using hp,rfl⟩)]
  rw[this]
 case buildSlice t k ps=>
  have:ps.map (fun p=>(p.1,ρ p.2))=ps.map (fun p=>(p.1,ρ' p.2)):=Array.map_congr_left fun p hp=>by
   rw[h p.2 (List.mem_map.2 ⟨p,by simpa using hp,rfl⟩)]
  rw[this]
 case nilCheck=>rw[h]
 case binOp=>rw[h.1,h.2]
 case makeFunc f xs ys=>rw[Cg (fun x hx=>h x (.inl hx)),Cg (fun x hx=>h x (.inr hx))]
 case makeMap t xs=>rw[DN (fun y hy=>h y (by simp[hy]))]
 case slice t x lo hi mx=>
  rw[h x (by simp),DN (x:=lo) (fun y hy=>h y (by simp[hy])),DN (x:=hi) (fun y hy=>h y (by simp[hy])),DN (x:=mx) (fun y hy=>h y (by simp[hy]))]
 case call c=>
  obtain⟨YP,args,DE⟩:=c
  cases YP with
  |builtin b=>
   simp only[Call.operands,Array.empty_append]at h;simp only[resolve,Cg h]
  |invoke x name=>
   simp only[Call.operands,Array.mem_append,List.mem_toArray,List.mem_singleton]at h;simp only[resolve,h x (.inl rfl),Cg (fun y hy=>h y (.inr hy))]
  |value x=>
   simp only[Call.operands,Array.mem_append,List.mem_toArray,List.mem_singleton]at h;simp only[resolve,h x (.inl rfl),Cg (fun y hy=>h y (.inr hy))]
 all_goals first
  |rw[h]
  |rw[h.1,h.2]
  |rw[h.1,h.2.1,h.2.2]
  |rfl
def eJ (N:aD) (wd w:World):Prop:=wd.heap.size≤w.heap.size∧∀b,b<wd.heap.size→¬N b→w.heap[b]? =wd.heap[b]?
theorem eJ.refl (N:aD) (w:World):eJ N w w:=⟨Nat.le_refl _,fun _ _ _=>rfl⟩
theorem eJ.go {M M' N N':aD} {wd w w':World} (h:eJ N wd w) (s:Step M w M' w' N') (hN:∀b,b<wd.heap.size→N' b→N b):eJ N wd w':=
 ⟨Nat.le_trans h.1 s.size,fun b hb hn=>(s.same b (Nat.lt_of_lt_of_le hb h.1) (fun PJ=>hn (hN b hb PJ))).trans (h.2 b hb hn)⟩
theorem eJ.ry {M M' N:aD} {wd w w':World} (h:eJ N wd w) (s:Step M w M' w' aC):eJ N wd w':=h.go s fun _ _ h=>h.elim
theorem eJ.goN {M M' N:aD} {wd w w':World} (h:eJ N wd w) (s:Step M w M' w' N):eJ N wd w':=h.go s fun _ _ h=>h
def bZ (P:Program) (N:aD) (wd:World) (L:Sl) (o:Oper):Prop:=∀ρ:Operand→Value,(∀x u,ev L x=some u→ρ x=u)→∀v w',eJ N wd w'→(execOp ρ o).run P wd= .ok (.value v) wd→(execOp ρ o).run P w'= .ok (.value v) w'
def sx (P:Program) (r:Option Nat) (n:Nat) (ops:Array Oper) (N:aD) (wd:World) (K:Kt):Nat→List Oper→Sl→List Deferred→World→Prop
 |_,[],L,ds,w=>K .normal L ds w
 |c,o::rest,L,ds,w=>Rg P r n ops [o] L ds w (fun e L' qw w'=>e= .normal∧qw=ds∧(c≠0→eJ N wd w')∧sx P r n ops N wd K (c-1) rest L' ds w')
theorem sx.nil {ops:Array Oper} {N:aD} {wd:World} {c:Nat} (h:K .normal L ds w):sx P r n ops N wd K c [] L ds w:=h
def nB (l:List Oper) (fl:List Nat):Nat→List Nat→Bool
 |0,_=>true
 |j+1,acc=>if fl.contains j then nB l fl j acc else acc.contains j&&nB l fl j (acc++(l[j]?.map cy).getD [])
theorem nC {l:List Oper} {fl:List Nat} {D:Nat→Prop} (lL:∀k o,l[k]? =some o→D k→∀i∈cy o,D i):∀(j:Nat) (acc:List Nat),nB l fl j acc=true→(∀k∈acc,D k)→∀i,i<j→i∉fl→D i
 |0,_,_,_,i,hi,_=>by omega
 |j+1,acc,h,ha,i,hi,hf=>by
  simp only[nB]at h
  split at h
  ·rename_i hj
   rcases Nat.lt_or_ge i j with dY|Lj
   ·exact nC lL j acc h ha i dY hf
   ·obtain rfl:i=j:=by omega
    exact absurd (by simpa using hj) hf
  ·simp only[Bool.and_eq_true,List.contains_iff_mem]at h;have hj:=ha j h.1;rcases Nat.lt_or_ge i j with dY|Lj
   ·refine nC lL j _ h.2 (fun k hk=>?_) i dY hf;rcases List.mem_append.1 hk with hk|hk
    ·exact ha k hk
    ·cases ho:l[j]? with
     |none=>rw[ho]at hk;simp at hk
     |some o=>rw[ho]at hk;exact lL j o ho hj k (by simpa using hk)
   ·rw[show i=j from by omega];exact hj
def vW (l:List Oper) (m e:Nat):List Nat:=(List.range' m (e+1)).flatMap fun j=>(l[j]?.map cy).getD []
def lB (l:List Oper) (m:Nat) (fl:List Nat) (e:Nat):Bool:=
 (Nat.ble (l.length-m) e||lu l m (vW l m e))&&
 kB l (m+1)&&nB l fl m ((l[m]?.map cy).getD [])&&
 ((List.range' m (l.length-m)).all fun j=>match l[j]? with
  |some o=>tq o.op&&(asks l o).all fun t=>(List.range m).all fun i=>match l[i]? with
   |some o'=> !(o'.dst==some t)||(cy o).contains i
   |none=>true
  |none=>true)&&
 ((List.range m).all fun j=> !fl.contains j||match l[j]? with
  |some o=>(asks l o).all fun t=>(List.range l.length).all fun i=>match l[i]? with
   |some o'=> !(o'.dst==some t)||(cy o).contains i||(Nat.ble m i&&(cy o').contains j)
   |none=>true
  |none=>true)
theorem Ci {l:List Oper} {m:Nat} {fl:List Nat} {e:Nat} (h:lB l m fl e=true):
  (l.length-m≤e∨lu l m (vW l m e)=true)∧
  kB l (m+1)=true∧nB l fl m ((l[m]?.map cy).getD [])=true∧
  (∀j o,m≤j→l[j]? =some o→tq o.op=true∧∀t∈asks l o,∀i o',i<m→l[i]? =some o'→o'.dst=some t→i∈cy o)∧
  (∀j o,j<m→j∈fl→l[j]? =some o→∀t∈asks l o,∀i o',l[i]? =some o'→o'.dst=some t→i∈cy o∨m≤i∧j∈cy o'):=by
 simp only[lB,Bool.and_eq_true]at h;obtain⟨⟨⟨⟨h0,h1⟩,h2⟩,h3⟩,h4⟩:=h;rw[Bool.or_eq_true,Nat.ble_eq]at h0;refine⟨h0,h1,h2,fun j o hj ho=>?_,fun j o hj hf ho t ht i o' fV hd=>?_⟩
 ·have dY:=(List.getElem?_eq_some_iff.1 ho).1;have:=List.all_eq_true.1 h3 j (List.mem_range'_1.2 ⟨hj,by omega⟩);rw[ho]at this;simp only[Bool.and_eq_true]at this;refine⟨this.1,fun t ht i o' hi fV hd=>?_⟩;have h5:=List.all_eq_true.1 (List.all_eq_true.1 this.2 t ht) i (List.mem_range.2 hi);rw[fV]at h5;simpa[hd]using h5
 ·have dY:=(List.getElem?_eq_some_iff.1 fV).1;have:=List.all_eq_true.1 h4 j (List.mem_range.2 hj);rw[ho]at this;simp only[Bool.or_eq_true,Bool.not_eq_true',List.contains_eq_mem,decide_eq_false_iff_not]at this;have h5:=List.all_eq_true.1 (List.all_eq_true.1 (this.resolve_left (fun h=>h hf)) t ht) i (List.mem_range.2 dY);rw[fV]at h5;simp only[hd,beq_self_eq_true,Bool.not_true,Bool.false_or,Bool.or_eq_true,Bool.and_eq_true,Nat.ble_eq,decide_eq_true_eq,List.contains_iff_mem]at h5;rcases h5 with h|h
  ·exact .inl h
  ·exact .inr h
structure GJ (P:Program) (r:Option Nat) (n:Nat) (l:List Oper) (m:Nat) (fl:List Nat) (c:Nat) (N:aD) (K:Kt) (ds:List Deferred) (a0 am:Act) (wd:World) (D:Nat→Prop) (a:Act) (w:World) (p:Nat) (ac:Act) (Lp:Sl):Prop where
 p0:m≤p
 p1:p≤l.length
 dt:∀i,m≤i→i<l.length→(D i↔i<p)
 df:m<p→∀i,i<m→i∉fl→D i
 ag:iY n ac Lp ds
 tr:sx P r n l.toArray N wd K (c+m-p) (l.drop p) Lp ds w
 keep:p≤m+c→eJ N wd w
 da:m+c<p→∀i,i<m→D i
 wm:p=m→w=wd
 defers:a.defers=ds
 size:a.tmps.size=a0.tmps.size
 sizec:ac.tmps.size=a0.tmps.size
 done:∀t,(∀i o,i<m→l[i]? =some o→o.dst=some t→D i)→a.tmps[t]? =ac.tmps[t]?
 pend:∀i o t,i<m→l[i]? =some o→o.dst=some t→¬D i→a.tmps[t]? =a0.tmps[t]?
 cm:∀t,(∀i o,m≤i→i<p→l[i]? =some o→o.dst≠some t)→ac.tmps[t]? =am.tmps[t]?
theorem DP {ops:Array Oper} {Qc Q:Exit→Act→World→Prop} {i:Nat} {rest:List Nat} {o:Oper} {a ac:Act} (ho:ops[i]? =some o) (hq:tq o.op=true) (KY:∀x∈o.op.operands,a.eval x=ac.eval x) (DI:Region.wanted o (yielded ops a.tmps)=Region.wanted o (yielded ops ac.tmps)) (hdf:a.defers=ac.defers)
  (h:wpListIn (FW r) 0 P ops Qc [o] ac w) (ko:∀e a w,Qc e a w→e= .normal) (hk:∀v w',Qc .normal (ac.put o.dst v) w'→wpOpsIn (FW r) 0 P ops Q rest (a.put o.dst v) w') (hdd:∀d w',¬Qc .normal ({ac with defers:=d::ac.defers}.put o.dst undef) w'):wpOpsIn (FW r) 0 P ops Q (i::rest) a w:=by
 simp only[wpOpsIn,ho];simp only[wpListIn]at h;rw[DI];have o6:∀c,o.op≠ .defer c:=fun c hc=>by rw[hc]at hq;cases hq
 split
 ·rename_i hw
  rw[if_pos hw]at h;obtain⟨_,h2⟩:=h;refine⟨fun _ _=>trivial,?_⟩;rw[Oper.semAt_eq _ _ _ o6]at h2 ⊢;rw[Qi hq KY];generalize (execOp ac.eval o).run P w=res at h2 ⊢
  cases res with
  |ok nx w'=>
   cases nx with
   |value v=>exact hk _ _ h2
   |skip=>exact hk _ _ h2
   |defer d=>exact absurd h2 (hdd d w')
   |enter f args=>exact⟨h2.1,h2.2.mono fun e xV he=>by
     cases e with
     |returned v=>exact hk _ _ he
     |panicked c=>exact absurd (ko _ _ _ he) (by simp)
     |outgrown=>obtain⟨a,w,h⟩:=he;exact absurd (ko _ _ _ h) (by simp)⟩
   |row row args=>exact⟨h2.1,h2.2.mono fun _ _ he=>hk _ _ he⟩
   |round l f tmps su body=>exact⟨h2.1,h2.2.mono fun e xV he=>by
     cases e with
     |returned v=>exact hk _ _ he
     |panicked c=>exact absurd (ko _ _ _ he) (by simp)
     |outgrown=>obtain⟨a,w,h⟩:=he;exact absurd (ko _ _ _ h) (by simp)⟩
   |_=>exact h2.elim
  |halt x w'=>
   cases x with
   |panic v=>exact absurd (ko _ _ _ h2) (by simp)
   |_=>exact h2.elim
 ·rename_i hw
  rw[if_neg hw]at h;exact⟨fun _ _=>trivial,hk _ _ h.2⟩
theorem GJ.next {l:List Oper} {m:Nat} {fl:List Nat} {c:Nat} {N:aD} {a0 am:Act} {hU:List Value} {wd:World} (dr:eK l 0=true) (nT:kC l m=true) (Gb:lB l m fl c=true) (qy:m<l.length) (j7:∀i,i<m→∃v,hU[i]? =some v)
  {st:Nat→Act} (kM:∀j o,j<m→l[j]? =some o→∃v,hU[j]? =some v∧One P r l.toArray wd o (st j) v) (JF:∀j,j<m→QJ l m a0 hU wd (fun i=>i<j) (st j) wd) (Ir:QJ l m a0 hU wd (fun i=>i<m) am wd)
  {Lm:Sl} (hLm:iY n am Lm ds) (hF:∀j o,j∈fl→l[j]? =some o→bZ P N wd Lm o)
  {Q:Exit→Act→World→Prop} {D:Nat→Prop} {a:Act} {w:World} {j:Nat} {o:Oper} {rest:List Nat} (ho:l[j]? =some o) (pY: ¬D j) (hp:∀k∈cy o,D k) (lL:∀i o,l[i]? =some o→D i→∀k∈cy o,D k) (hi:∃p ac Lp,GJ P r n l m fl c N K ds a0 am wd D a w p ac Lp)
  (hk:∀a' w',(∃p ac Lp,GJ P r n l m fl c N K ds a0 am wd (fun i=>i=j∨D i) a' w' p ac Lp)→wpOpsIn (FW r) 0 P l.toArray Q rest a' w'):wpOpsIn (FW r) 0 P l.toArray Q (j::rest) a w:=by
 obtain⟨p,ac,Lp,hi⟩:=hi;obtain⟨YS,yM,LF,Is,hfo⟩:=Ci Gb;have xU:=(List.getElem?_eq_some_iff.1 ho).1;rcases Nat.lt_or_ge j m with hj|hj
 ·obtain⟨v,hv,h1⟩:=kM j o hj ho;obtain⟨hq,hso⟩:=lA nT hj ho;have hmf:m<p→j∈fl:=fun h=>Classical.byContradiction fun hf=>pY (hi.df h j hj hf)
  have Du:∀t∈asks l o,a.tmps[t]? =(st j).tmps[t]? :=fun t ht=>by
   by_cases hx:∃i o',i<m∧l[i]? =some o'∧o'.dst=some t
   ·obtain⟨i,o',p6,fV,hd⟩:=hx;obtain⟨v',sr⟩:=j7 i p6;rcases hso t ht i o' p6 fV hd with h|h|h
    ·have Dv:=hp i h;have jq:=cR dr j o ho i h;rw[hi.done t (fun k ok Gz hok JG=>by rw[fP dr hok fV JG hd];exact Dv),hi.cm t (fun k ok uk Cf hok JG=>by have:=fP dr hok fV JG hd;omega),Ir.done i o' v' t p6 fV sr p6 hd,(JF j hj).done i o' v' t p6 fV sr (by omega) hd]
    ·subst h;rw[hi.pend i o' t p6 fV hd pY,(JF i hj).base t (fun k ok Gz hok JG GA=>by have:=fP dr hok fV GA hd;omega)]
    ·have jq:=cR dr i o' fV j h;rw[hi.pend i o' t p6 fV hd (fun Dv=>pY (lL i o' fV Dv j h)),(JF j hj).base t (fun k ok Gz hok JG GA=>by have:=fP dr hok fV GA hd;omega)]
   ·have ko:∀k ok,k<m→l[k]? =some ok→ok.dst≠some t:=fun k ok Gz hok JG=>hx ⟨k,ok,Gz,hok,JG⟩
    rw[hi.done t (fun k ok Gz hok JG=>absurd JG (ko k ok Gz hok)),hi.cm t (fun k ok uk Cf hok JG=>by
     rcases hfo j o hj (hmf (by omega)) ho t ht k ok hok JG with h|⟨_,h⟩
     ·have:=cR dr j o ho k h;omega
     ·exact pY (lL k ok hok ((hi.dt k uk (List.getElem?_eq_some_iff.1 hok).1).2 Cf) j h)),Ir.base t (fun k ok Gz hok _=>ko k ok Gz hok),(JF j hj).base t (fun k ok Gz hok _=>ko k ok Gz hok)]
  obtain⟨KY,DI⟩:=oF Du
  have h2:One P r l.toArray w o a v:=by
   rcases Nat.eq_or_lt_of_le hi.p0 with GB|GB
   ·have X6:=hi.wm GB.symm;unfold One at h1 ⊢;rw[DI,mE hq KY,X6];exact h1
   ·have hjf:=hmf GB
    have aet:∀t∈asks l o,am.tmps[t]? =(st j).tmps[t]? :=fun t ht=>Ir.agree dr j7 (JF j hj) fun i o' p6 fV hd=>by
     rcases hfo j o hj hjf ho t ht i o' fV hd with h|⟨h,_⟩
     ·have:=cR dr j o ho i h;exact⟨fun _=>by omega,fun _=>p6⟩
     ·omega
    obtain⟨YT,_⟩:=oF aet;unfold One at h1 ⊢;rw[DI]
    split
    ·rename_i hw
     rw[if_pos hw]at h1;rw[←mE hq YT]at h1;rw[mE hq KY,←mE hq YT];exact hF j o hjf ho am.eval (fun x u hx=>hLm.eval hx) v w (hi.keep (Nat.le_of_not_lt fun dY=>pY (hi.da dY j hj))) h1
    ·rename_i hw
     rw[if_neg hw]at h1;exact h1
  refine h2.run (by simpa using ho) hq (hk _ _ ⟨p,ac,Lp,hi.p0,hi.p1,fun i h3 h4=>?_,fun h i h3 h4=> .inr (hi.df h i h3 h4),hi.ag,hi.tr,hi.keep,fun h i h3=> .inr (hi.da h i h3),hi.wm,by rw[put_defers];exact hi.defers,by rw[oD];exact hi.size,hi.sizec,fun t ht=>?_,fun i o' t p6 fV hd Sw=>?_,hi.cm⟩)
  ·rw[←hi.dt i h3 h4];exact⟨fun h=>h.resolve_left (by omega),.inr⟩
  ·rw[iF];by_cases e:o.dst=some t
   ·rw[if_pos e,hi.cm t (fun k ok uk Cf hok JG=>by have:=fP dr hok ho JG e;omega),Ir.done j o v t hj ho hv hj e];exact um hi.size
   ·rw[if_neg e];exact hi.done t fun i o' p6 fV hd=>(ht i o' p6 fV hd).resolve_left (fun h=>by subst h;rw[ho]at fV;cases fV;exact e hd)
  ·rw[iF,if_neg (fun e=>Sw (.inl (fP dr fV ho hd e)))];exact hi.pend i o' t p6 fV hd (fun h=>Sw (.inr h))
 ·have hjp:j=p:=by
   have h1:p≤j:=by
    rcases Nat.lt_or_ge j p with h|h
    ·exact absurd ((hi.dt j hj xU).2 h) pY
    ·exact h
   rcases Nat.lt_or_ge m j with h|h
   ·have h2:=hp _ (k4 yM (j:=j) (by omega) ho);have:=(hi.dt (j-1) (by omega) (by omega)).1 h2;omega
   ·have:=hi.p0;omega
  subst hjp;obtain⟨hto,LG⟩:=Is j o hj ho
  have iA:∀i,i<m→i∉fl→D i:=fun i p6 hif=>by
   rcases Nat.eq_or_lt_of_le hi.p0 with h|h
   ·rw[h,ho]at LF;exact nC (D:=D) lL j (cy o) LF hp i (by omega) hif
   ·exact hi.df h i p6 hif
  have Du:∀t∈asks l o,a.tmps[t]? =ac.tmps[t]? :=fun t ht=>hi.done t fun i o' p6 fV hd=>hp i (LG t ht i o' p6 fV hd)
  obtain⟨KY,DI⟩:=oF Du
  have YU:m+c<j+1→∀i,i<m→D i:=fun dY i p6=>by
   rcases Nat.lt_or_ge (m+c) j with h|h
   ·exact hi.da h i p6
   ·have uq:j=m+c:=by omega
    rcases YS with h5|h5
    ·omega
    ·refine pj (D:=D) lL m _ h5 (fun k hk=>?_) i p6;simp only[vW,List.mem_flatMap,List.mem_range'_1]at hk;obtain⟨q,⟨UH,hq2⟩,Sx⟩:=hk;rcases Nat.eq_or_lt_of_le (show q≤j by omega)with e|e
     ·rw[e,ho]at Sx;exact hp k Sx
     ·have hDq:=(hi.dt q UH (by omega)).2 e
      cases hY:l[q]? with
      |none=>rw[hY]at Sx;cases Sx
      |some oq=>rw[hY]at Sx;exact lL q oq hY hDq k Sx
  have xh:=hi.tr;rw[List.drop_eq_getElem_cons xU,(List.getElem?_eq_some_iff.1 ho).2]at xh;have h1:=Rg.run xh ac hi.ag;refine DP (by simpa using ho) hto KY DI (by rw[hi.defers,hi.ag.defers]) h1 (fun e a w ⟨_,_,_,he,_⟩=>he) (fun v w' ⟨L',qw,hA,_,LC,hkp,UI⟩=>?_) (fun d w' ⟨L',qw,hA,_,LC,_⟩=>?_)
  ·rw[LC]at hA;refine hk _ _ ⟨j+1,ac.put o.dst v,L',by omega,by omega,fun i h3 h4=>?_,fun _ i h3 h4=> .inr (iA i h3 h4),hA,by rw[show c+m-(j+1)=c+m-j-1 from by omega];exact UI,fun h=>hkp (by omega),fun h i p6=> .inr (YU h i p6),fun h=>by omega,by rw[put_defers];exact hi.defers,by rw[oD];exact hi.size,by rw[oD];exact hi.sizec,fun t ht=>?_,fun i o' t p6 fV hd Sw=>?_,fun t ht=>?_⟩
   ·constructor
    ·rintro(h|h)
     ·omega
     ·have:=(hi.dt i h3 h4).1 h;omega
    ·intro h;rcases Nat.eq_or_lt_of_le (show i≤j by omega)with h5|h5
     ·exact .inl h5
     ·exact .inr ((hi.dt i h3 h4).2 h5)
   ·rw[iF,iF]
    split
    ·exact um (hi.size.trans hi.sizec.symm)
    ·exact hi.done t fun i o' p6 fV hd=>(ht i o' p6 fV hd).resolve_left (by omega)
   ·rw[iF,if_neg (fun e=>by have:=fP dr fV ho hd e;omega)];exact hi.pend i o' t p6 fV hd (fun h=>Sw (.inr h))
   ·rw[iF,if_neg (ht j o hj (by omega) ho)];exact hi.cm t fun i o' h3 h4 h5=>ht i o' h3 (by omega) h5
  ·have h3:=hA.defers;rw[put_defers,LC]at h3;have h4:=congrArg List.length h3;rw[hi.ag.defers]at h4;simp at h4
theorem T.oG {id:Nat} {l:List Oper} (m:Nat) (fl:List Nat) (c:Nat) (N:aD) (hm:P.follows .mixedOrders=true) (qy:Nat.blt m l.length=true) (dr:eK l 0=true) (nT:kC l m=true) (Gb:lB l m fl c=true)
  (h:∀wD,(∀M,Step M w M wD aC)→kN P r n l.toArray (l.take m) L ds wD (fun L'=>(∀j o,j∈fl→l[j]? =some o→bZ P N wD L' o)∧sx P r n l.toArray N wD K c (l.drop m) L' ds wD)):T P r n (.region id l.toArray true) L ds w K:=by
 refine⟨fun a ha=>wpIn_region_draw fun t=>?_⟩;simp only[Region.schedule,hm,Bool.true_or,if_true,Region.linearise];have Bi:m<l.length:=by simpa[Nat.blt_eq]using qy
 have hQ:=h _ (pv w);have jf:∀j,j<m→(l.take m)[j]? =l[j]? :=fun j hj=>by rw[List.getElem?_take,if_pos hj]
 obtain⟨am,Lm,vs,xh,hA,hF,hT⟩:=hQ.trace (fun o ho=>by
  obtain⟨j,hj⟩:=List.mem_iff_getElem?.1 ho
  have Bj:j<m:=by
   have:=(List.getElem?_eq_some_iff.1 hj).1;rw[List.length_take]at this;omega
  exact(lA nT Bj (by rw[←jf j Bj];exact hj)).1) ha
 obtain⟨st,h0,hl,kM⟩:=xh.Ch;have hlen:(l.take m).length=m:=by rw[List.length_take];omega
 rw[hlen]at hl;have xW:∀j o,j<m→l[j]? =some o→∃v,vs[j]? =some v∧One P r l.toArray _ o (st j) v∧st (j+1)=(st j).put o.dst v:=fun j o hj ho=>kM j o (by rw[jf j hj];exact ho)
 have j7:∀i,i<m→∃v,vs[i]? =some v:=fun i hi=>by
  obtain⟨v,hv,_⟩:=xW i l[i] hi (List.getElem?_eq_getElem (by omega));exact⟨v,hv⟩
 have JF:=oE dr h0 xW;have Ir:=JF m (Nat.le_refl _) (by omega);rw[hl]at Ir
 refine pq (J:=fun D a' w'=>∃p ac Lp,GJ P r n l m fl c N K ds a am {w with drawn:=w.drawn+1} D a' w' p ac Lp) dr (fun {D D' a' w'} ⟨p,ac,Lp,hi⟩ hD=>⟨p,ac,Lp,hi.p0,hi.p1,fun i h3 h4=>(hD i h4).trans (hi.dt i h3 h4),fun h i h3 h4=>(hD i (by omega)).2 (hi.df h i h3 h4),hi.ag,hi.tr,hi.keep,fun h i h3=>(hD i (by omega)).2 (hi.da h i h3),hi.wm,hi.defers,hi.size,hi.sizec,fun t ht=>hi.done t fun i o h3 h4 h5=>(hD i (by omega)).1 (ht i o h3 h4 h5),fun i o t h3 h4 h5 h6=>hi.pend i o t h3 h4 h5 (fun h=>h6 ((hD i (by omega)).2 h)),hi.cm⟩)
  (fun {D a' w' j o rest} hj ho pY hp lL hi hk=>GJ.next dr nT Gb Bi j7 (fun j o hj ho=>by obtain⟨v,h1,h2,_⟩:=xW j o hj ho;exact⟨v,h1,h2⟩) (fun j hj=>JF j (by omega) (by omega)) Ir hA hF ho pY hp lL hi hk) (fun a' w' hJ=>?_) _ t _ a _ (by simp) (by simp[List.countP_replicate]) (fun i o h1 h2=>?_) ⟨m,am,Lm,Nat.le_refl _,by omega,fun i h3 h4=>?_,fun h=>by omega,hA,by rw[Nat.add_sub_cancel];exact hT,fun _=>eJ.refl _ _,fun h=>by omega,fun _=>rfl,ha.defers,rfl,Ir.size,fun t ht=>?_,fun i o t _ _ _ _=>rfl,fun t _=>rfl⟩
 ·obtain⟨p,ac,Lp,hi⟩:=hJ
  have tS:p=l.length:=by
   rcases Nat.lt_or_ge p l.length with h3|h3
   ·have:=(hi.dt p hi.p0 h3).1 h3;omega
   ·have:=hi.p1;omega
  have xh:=hi.tr;rw[tS,List.drop_eq_nil_of_le (Nat.le_refl _)]at xh;refine⟨Lp,ds,⟨?_,hi.defers,fun t v ht=>?_⟩,xh⟩
  ·rw[hi.size];exact ha.size
  ·rw[hi.done t fun i o h3 h4 _=>by omega];exact hi.ag.at_ t v ht
 ·simp[Array.getElem?_replicate]at h2
 ·simp[Array.getElem?_replicate];omega
 ·rw[Ir.base t fun i o h3 h4 _ h5=>?_];have:=ht i o h3 h4 h5;simp[Array.getElem?_replicate]at this
def ia (P:Program) (N:aD) (wd:World) (L:Sl) (l:List Oper):List Nat→Prop
 |[]=>True
 |j::js=>(match l[j]? with|some o=>bZ P N wd L o|none=>True)∧ia P N wd L l js
theorem ia.all {N:aD} {wd:World} {l:List Oper}:∀{fl:List Nat},ia P N wd L l fl→∀j o,j∈fl→l[j]? =some o→bZ P N wd L o
 |[],_,j,o,hj,_=>absurd hj (List.not_mem_nil)
 |k::fl,h,j,o,hj,ho=>by
  rcases List.mem_cons.1 hj with e|hj
  ·have h1:=h.1;rw[←e,ho]at h1;exact h1
  ·exact ia.all h.2 j o hj ho
variable {N:aD} {wd:World} {dst:Option Nat} {ty:TypeId} {pos:String} {af:Array Edge} {gd:Option (Nat×Bool)} {x y i:Operand}
theorem bZ.move:bZ P N wd L {dst,op:= .move x,type:=ty,pos,after:=af,guard:=gd}:=fun ρ _ v w' _ h=>by
 have h:Result.ok (Next.value (ρ x)) wd= .ok (.value v) wd:=h
 cases h;rfl
def Loc {α:Type} (s:Sem α):Prop:=∀(P:Program) (w1:World) (a:α) (w':World),s.run P w1= .ok a w'→w'=w1∧∀w2,s.run P w2= .ok a w2
theorem Loc.bind {α β:Type} {s:Sem α} {f:α→Sem β} (h:Loc s) (hf:∀a,Loc (f a)):Loc (s >>= f):=fun P w1 b w' hr=>by
 rw[Sem.run_bind]at hr
 cases hs:s.run P w1 with
 |ok a wa=>
  rw[hs]at hr;obtain⟨rfl,h2⟩:=h P w1 a wa hs;obtain⟨h3,h4⟩:=hf a P _ b w' hr;exact⟨h3,fun w2=>by rw[Sem.run_bind,h2 w2];exact h4 w2⟩
 |halt e wa=>rw[hs]at hr;simp[Result.andThen]at hr
theorem Loc.pure {α:Type} (a:α):Loc (Pure.pure a:Sem α):=fun P w1 b w' hr=>by
 simp only[Sem.run_pure,Result.ok.injEq]at hr;exact⟨hr.2.symm,fun w2=>by rw[←hr.1];rfl⟩
theorem Loc.val {s:Sem Value} (h:Loc s):Loc (do Pure.pure (Next.value (←s)):Sem Next):=h.bind fun v=> .pure _
theorem Loc.halt {α:Type} {s:Sem α} (h:∀(P:Program) (w:World) a w',s.run P w≠ .ok a w'):Loc s:=fun P w1 a w' hr=>absurd hr (h P w1 a w')
theorem Loc.stuck {α:Type} (e:Halt):Loc (.halt e:Sem α):= .halt fun P w a w' h=>by simp[Sem.run]at h
theorem bZ.free {o:Oper} (h:∀ρ:Operand→Value,(∀x u,ev L x=some u→ρ x=u)→Loc (execOp ρ o)):bZ P N wd L o:=fun ρ hρ v w' _ hr=>(h ρ hρ P wd _ _ hr).2 w'
theorem Bn (t:TypeId):Loc (underlying t):=fun P w1 a w' hr=>by
 simp only[underlying,Sem.run_bind,program,Sem.run,Result.andThen]at hr ⊢
 cases hu:P.underlying t with
 |none=>rw[hu]at hr;simp[stuck,Sem.run]at hr
 |some d=>rw[hu]at hr;simp only[Sem.run_pure,Result.ok.injEq]at hr ⊢;exact⟨hr.2.symm,fun w2=>⟨hr.1,trivial⟩⟩
theorem LH (t:TypeId):Loc (typeInfo t):=fun P w1 a w' hr=>by
 simp only[typeInfo,Sem.run_bind,program,Sem.run,Result.andThen]at hr ⊢
 cases hu:P.info? t with
 |none=>rw[hu]at hr;simp[stuck,Sem.run]at hr
 |some d=>rw[hu]at hr;simp only[Sem.run_pure,Result.ok.injEq]at hr ⊢;exact⟨hr.2.symm,fun w2=>⟨hr.1,trivial⟩⟩
theorem LI (t:TypeId):Loc (sizeOf t):=(LH t).bind fun _=> .pure _
theorem xi {α:Type} (e:RuntimeError) (w w':World) (a:α):(runtimePanic e:Sem α).run P w≠ .ok a w':=fun h=>by
 cases e<;>simp only[runtimePanic,program,goPanic,Sem.run,Sem.run_bind,Result.andThen]at h<;>repeat' (first|(cases h;done)|(simp at h;done)|split at h)
theorem yN {α:Type} (k:IntKind) (i:Int) (n:Int) (c:BoundsCode):Loc (boundsPanic k i n c:Sem α):= .halt fun P w a w' h=>by
 unfold boundsPanic at h;simp only at h
 split at h
 ·rw[Sem.run_bind]at h;generalize ((· ==1) <$> choose (.extern "runtime.boundsError.signed" 2):Sem Bool).run P w=res at h
  cases res with
  |ok b w1=>
   have h:(runtimePanic (.bounds (IntKind.i64.wrap i) n b c):Sem α).run P w1= .ok a w':=h;exact xi _ _ _ _ h
  |halt e w1=>simp[Result.andThen]at h
 ·have h:(runtimePanic (.bounds (IntKind.i64.wrap i) n (k != IntKind.u64) c):Sem α).run P w= .ok a w':=by rw[Sem.run_bind]at h;exact h
  exact xi _ _ _ _ h
theorem LJ (v:Value):Loc (Instr.sureAddr v):=by
 unfold Instr.sureAddr
 split
 ·exact .pure _
 ·exact .stuck _
theorem JH (v:Value):Loc (asIntOf v):=by
 unfold asIntOf
 split
 ·exact .pure _
 ·exact .stuck _
 ·exact .stuck _
theorem bZ.idx {t:TypeId}:bZ P N wd L {dst,op:= .indexAddr t x i,type:=ty,pos,after:=af,guard:=gd}:= .free fun ρ _=>by
 simp only[execOp];refine Loc.val ?_;unfold Instr.indexAt
 have key:∀(base:Option Addr) (len:Nat) (elem:TypeId) (k:IntKind) (j:Int) (f:TypeDesc→Bool),Loc (underlying t >>= fun u=>match base with
   |some a=>if 0≤j∧j<len then(sizeOf elem >>= fun sz=>Pure.pure (Value.pointer (some (a.add (j.toNat*sz)))))else if(decide (len≤1)&&f u)=true then unsupported (.noEntry "op/indexAddr.an index out of range at an array of length 0 or 1 (ledger 616)")else boundsPanic k j len .index
   |none=>boundsPanic k j 0 .index:Sem Value):=fun base len elem k j f=>(Bn t).bind fun d2=>by
  split
  ·split
   ·exact(LI _).bind fun _=> .pure _
   ·split
    ·exact .stuck _
    ·exact yN _ _ _ _
  ·exact yN _ _ _ _
 refine (JH _).bind fun ki=>(Bn t).bind fun d=> ?_
 simp only
 split
 ·exact(LJ _).bind fun a=>(Loc.pure _).bind fun bl=>by obtain⟨base,len,elem⟩:=bl;exact key base len elem _ _ (fun d=>match d with| .array .. =>true|_=>false)
 ·exact(Loc.pure _).bind fun bl=>by obtain⟨base,len,elem⟩:=bl;exact key base len elem _ _ (fun d=>match d with| .array .. =>true|_=>false)
 ·exact(Loc.stuck _).bind fun bl=>by obtain⟨base,len,elem⟩:=bl;exact key base len elem _ _ (fun d=>match d with| .array .. =>true|_=>false)
theorem bZ.nilCheck {a:Addr} (hx:ev L x=some (.pointer (some a))):bZ P N wd L {dst,op:= .nilCheck x,type:=ty,pos,after:=af,guard:=gd}:= .free fun ρ hρ=>by
 simp only[execOp,hρ x _ hx];exact .pure _
theorem mG {w w':World} {b:Nat} (hb:∃cs e fr,w.heap[b]? =some (.cells cs e fr)) (hs:w'.heap[b]? =w.heap[b]?):∀(n o i:Nat) (acc a:Array Value) (w1:World),(loadCellsFrom ⟨b,o,none⟩ i n acc).run P w= .ok a w1→w1=w∧(loadCellsFrom ⟨b,o,none⟩ i n acc).run P w'= .ok a w'
 |0,o,i,acc,a,w1,h=>by
  simp only[loadCellsFrom,Sem.run_pure,Result.ok.injEq]at h ⊢;exact⟨h.2.symm,h.1,trivial⟩
 |n+1,o,i,acc,a,w1,h=>by
  obtain⟨cs,e,fr,hc⟩:=hb;simp only[loadCellsFrom,Sem.run_bind]at h ⊢;have lC:∀k,w'.cell? ⟨b,k,none⟩=w.cell? ⟨b,k,none⟩:=fun k=>by simp only[World.cell?,hs]
  have UJ:(⟨b,o,none⟩:Addr).add i=⟨b,o+i,none⟩:=by simp[Addr.add]
  rw[UJ]at h ⊢;simp only[load,Sem.run]at h ⊢;rw[lC]
  cases hv:w.cell? ⟨b,o+i,none⟩with
  |some v=>
   rw[hv]at h;simp only[Result.andThen]at h ⊢;exact mG ⟨cs,e,fr,hc⟩ hs n o (i+1) (acc.push v) a w1 h
  |none=>
   rw[hv]at h;simp[World.farLoad,hc,Result.andThen]at h
theorem bZ.load {t:TypeId} {b o:Nat} {cs:Array Value} {e:TypeId} {fr:Nat×Nat} (hx:ev L x=some (.pointer (some ⟨b,o,none⟩))) (hb:wd.heap[b]? =some (.cells cs e fr)) (hn: ¬N b):bZ P N wd L {dst,op:= .load t x,type:=ty,pos,after:=af,guard:=gd}:=fun ρ hρ v w' hk hr=>by
 have hs:=hk.2 b (ak hb) hn;simp only[execOp,hρ x _ hx]at hr ⊢;rw[Sem.run_bind]at hr ⊢
 have key:∀v w1,(Instr.loadAt t (.pointer (some ⟨b,o,none⟩))).run P wd= .ok v w1→(Instr.loadAt t (.pointer (some ⟨b,o,none⟩))).run P w'= .ok v w':=fun v w1 h=>by
  simp only[Instr.loadAt,Instr.sureAddr,Sem.run_bind,Sem.run_pure,Result.andThen_ok,loadVar]at h ⊢
  have Du:∀w:World,(isAgg t).run P w=match P.underlying t with|some (.struct _)|some (.array _ _)=>Result.ok true w|some _=>Result.ok false w|none=>Result.halt (.stuck "no such type") w:=fun w=>by
   simp only[isAgg,underlying,Sem.run_bind,program,Sem.run,Result.andThen]
   cases P.underlying t with
   |none=>simp[stuck,Sem.run]
   |some d=>cases d<;>simp
  rw[Du]at h ⊢
  cases hu:P.underlying t with
  |none=>rw[hu]at h;simp[Result.andThen]at h
  |some d=>
   have jW:∀w:World,(sizeOf t).run P w=match P.info? t with|some i=>Result.ok i.size w|none=>Result.halt (.stuck "no such type") w:=fun w=>by
    simp only[sizeOf,typeInfo,Sem.run_bind,program,Sem.run,Result.andThen]
    cases P.info? t<;>simp[stuck,Sem.run]
   have tp:∀v w1,(Go.load ⟨b,o,none⟩).run P wd= .ok v w1→(Go.load ⟨b,o,none⟩).run P w'= .ok v w':=fun v w1 h=>by
    have lC:w'.cell? ⟨b,o,none⟩=wd.cell? ⟨b,o,none⟩:=by simp only[World.cell?,hs]
    simp only[Go.load,Sem.run]at h ⊢;rw[lC]
    cases hv:wd.cell? ⟨b,o,none⟩with
    |some u=>rw[hv]at h;simp only[Result.ok.injEq]at h ⊢;exact⟨h.1,trivial⟩
    |none=>rw[hv]at h;simp[World.farLoad,hb]at h
   have Gp:∀v w1,(do Pure.pure (Value.agg (←loadCells ⟨b,o,none⟩ (←sizeOf t))):Sem Value).run P wd= .ok v w1→(do Pure.pure (Value.agg (←loadCells ⟨b,o,none⟩ (←sizeOf t))):Sem Value).run P w'= .ok v w':=fun v w1 h=>by
    simp only[Sem.run_bind,jW]at h ⊢
    cases hi:P.info? t with
    |none=>rw[hi]at h;simp[Result.andThen]at h
    |some inf=>
     rw[hi]at h;simp only[Result.andThen]at h ⊢
     cases hl:(loadCells ⟨b,o,none⟩ inf.size).run P wd with
     |ok a w2=>
      rw[hl]at h;obtain⟨_,h2⟩:=mG ⟨cs,e,fr,hb⟩ hs _ _ _ _ _ _ hl;have h2:(loadCells ⟨b,o,none⟩ inf.size).run P w'= .ok a w':=h2;rw[h2];simp only[Sem.run_pure,Result.ok.injEq]at h ⊢;exact⟨h.1,trivial⟩
     |halt x w2=>rw[hl]at h;simp at h
   rw[hu]at h
   cases d<;>simp only[Result.andThen_ok,if_true,Bool.false_eq_true,if_false]at h ⊢ <;>first|exact tp v w1 h|exact Gp v w1 h
 cases hl:(Instr.loadAt t (.pointer (some ⟨b,o,none⟩))).run P wd with
 |ok u w1=>
  rw[hl]at hr;rw[key u w1 hl];simp only[Result.andThen_ok,Sem.run_pure,Result.ok.injEq]at hr ⊢;exact⟨hr.1,trivial⟩
 |halt x w1=>rw[hl]at hr;simp[Result.andThen]at hr
theorem cO.float {α:Type} {A:RT α} {M:aD} {w:World} {v:Value} {x:α} (h:cO A M w v x) (hn:0<A.n:=by decide):∃b o cs e fr,v= .pointer (some ⟨b,o,none⟩)∧w.heap[b]? =some (.cells cs e fr)∧¬M b:=by
 obtain⟨b,o,vs,h1,h2,h3,h4⟩:=h;have hp:0<vs.length:=by rw[A.len h3];exact hn
 have hc:=h4 0 vs[0] (List.getElem?_eq_getElem hp);simp only[World.cell?]at hc
 cases hb:w.heap[b]? with
 |none=>rw[hb]at hc;cases hc
 |some ob=>
  rw[hb]at hc
  cases ob with
  |cells cs e fr=>exact⟨b,o,cs,e,fr,h1,hb,h2⟩
  |_=>cases hc
theorem bZ.field {s:TypeId} {fs:Array Field} {fd:Field} {j:Nat} {zv:Value} {size bytes:Nat} (hs:P.underlying s=some (.struct fs)) (hj:fs[j]? =some fd) (hi:TI P fd.type zv size bytes) (h0:size≠0):bZ P N wd L {dst,op:= .fieldAddr s x j,type:=ty,pos,after:=af,guard:=gd}:=fun ρ hρ v w' hk hr=>by
 simp only[execOp,Sem.run_bind]at hr ⊢
 have key:∀w,(Instr.fieldAt s (ρ x) j).run P w=match ρ x with| .pointer (some a)=>Result.ok (.pointer (some (a.add fd.offset))) w|_=>Result.halt (.stuck "an address expected (no nilCheck in front?)") w:=fun w=>by
  generalize ρ x=u;unfold Instr.fieldAt;simp only[Sem.run_bind,run_underlying hs,Result.andThen_ok,hj];unfold Instr.sureAddr
  split
  ·simp only[Sem.run_pure,Result.andThen_ok,Sem.run_bind,fieldPlace,hi.sizeOf,h0,if_false]
  ·simp[stuck,Sem.run,Result.andThen]
 rw[key]at hr ⊢
 split at hr
 ·simp only[Result.andThen_ok,Sem.run_pure,Result.ok.injEq]at hr ⊢;exact⟨hr.1,trivial⟩
 ·simp[Result.andThen]at hr
end
end Go.K
namespace Go.K
section
variable {P:Program} {r:Option Nat} {n:Nat} {L:Sl} {ds:List Deferred} {w:World} {K:Kt}
def il (P:Program) (r:Option Nat) (n:Nat) (l:List Oper) (L:Sl) (ds:List Deferred) (wD:World) (K:Kt):Prop:=
 ∀a,iY n a L ds→∃J:(Nat→Prop)→Act→World→Prop,
  (∀(D D':Nat→Prop) a w,J D a w→(∀i,i<l.length→(D' i↔D i))→J D' a w)∧
  (∀(Q:Exit→Act→World→Prop) (D:Nat→Prop) a w j o rest,j<l.length→l[j]? =some o→¬D j→(∀k∈cy o,D k)→(∀i o,l[i]? =some o→D i→∀k∈cy o,D k)→J D a w→(∀a' w',J (fun i=>i=j∨D i) a' w'→wpOpsIn (FW r) 0 P l.toArray Q rest a' w')→wpOpsIn (FW r) 0 P l.toArray Q (j::rest) a w)∧
  (∀a w,J (fun i=>i<l.length) a w→up n K .normal a w)∧J (fun _=>False) a wD
theorem il.t {id:Nat} {l:List Oper} (hm:P.follows .mixedOrders=true) (dr:eK l 0=true) (h:∀wD,(∀M,Step M w M wD aC)→il P r n l L ds wD K):T P r n (.region id l.toArray true) L ds w K:=by
 refine⟨fun a ha=>wpIn_region_draw fun t=>?_⟩;simp only[Region.schedule,hm,Bool.true_or,if_true,Region.linearise];obtain⟨J,h1,h2,h3,h4⟩:=h _ (pv w) a ha;refine pq (J:=J) dr (fun {D D' a w} hi hD=>h1 D D' a w hi hD) (fun {D a' w' j o rest} hj ho pY hp lL hi hk=>h2 _ _ _ _ _ _ _ hj ho pY hp lL hi hk) h3 _ t _ a _ (by simp) (by simp[List.countP_replicate]) (fun i o h1 h2=>?_) (h1 _ _ _ _ h4 fun i _=>?_)
 ·simp[Array.getElem?_replicate]at h2
 ·simp[Array.getElem?_replicate]
theorem yO {l:List Oper} {wd:World} (m:Nat) (fl:List Nat) (c:Nat) (N:aD) (qy:Nat.blt m l.length=true) (dr:eK l 0=true) (nT:kC l m=true) (Gb:lB l m fl c=true)
  (h:kN P r n l.toArray (l.take m) L ds wd (fun L'=>(∀j o,j∈fl→l[j]? =some o→bZ P N wd L' o)∧sx P r n l.toArray N wd K c (l.drop m) L' ds wd)):il P r n l L ds wd K:=by
 intro a ha;have Bi:m<l.length:=by simpa[Nat.blt_eq]using qy
 have jf:∀j,j<m→(l.take m)[j]? =l[j]? :=fun j hj=>by rw[List.getElem?_take,if_pos hj]
 obtain⟨am,Lm,vs,xh,hA,hF,hT⟩:=h.trace (fun o ho=>by
  obtain⟨j,hj⟩:=List.mem_iff_getElem?.1 ho
  have Bj:j<m:=by
   have:=(List.getElem?_eq_some_iff.1 hj).1;rw[List.length_take]at this;omega
  exact(lA nT Bj (by rw[←jf j Bj];exact hj)).1) ha
 obtain⟨st,h0,hl,kM⟩:=xh.Ch;have hlen:(l.take m).length=m:=by rw[List.length_take];omega
 rw[hlen]at hl;have xW:∀j o,j<m→l[j]? =some o→∃v,vs[j]? =some v∧One P r l.toArray wd o (st j) v∧st (j+1)=(st j).put o.dst v:=fun j o hj ho=>kM j o (by rw[jf j hj];exact ho)
 have j7:∀i,i<m→∃v,vs[i]? =some v:=fun i hi=>by
  obtain⟨v,hv,_⟩:=xW i l[i] hi (List.getElem?_eq_getElem (by omega));exact⟨v,hv⟩
 have JF:=oE dr h0 xW;have Ir:=JF m (Nat.le_refl _) (by omega);rw[hl]at Ir
 refine⟨fun D a' w'=>∃p ac Lp,GJ P r n l m fl c N K ds a am wd D a' w' p ac Lp,fun D D' a' w' ⟨p,ac,Lp,hi⟩ hD=>⟨p,ac,Lp,hi.p0,hi.p1,fun i h3 h4=>(hD i h4).trans (hi.dt i h3 h4),fun h i h3 h4=>(hD i (by omega)).2 (hi.df h i h3 h4),hi.ag,hi.tr,hi.keep,fun h i h3=>(hD i (by omega)).2 (hi.da h i h3),hi.wm,hi.defers,hi.size,hi.sizec,fun t ht=>hi.done t fun i o h3 h4 h5=>(hD i (by omega)).1 (ht i o h3 h4 h5),fun i o t h3 h4 h5 h6=>hi.pend i o t h3 h4 h5 (fun h=>h6 ((hD i (by omega)).2 h)),hi.cm⟩,
  fun Q D a' w' j o rest hj ho pY hp lL hi hk=>GJ.next dr nT Gb Bi j7 (fun j o hj ho=>by obtain⟨v,h1,h2,_⟩:=xW j o hj ho;exact⟨v,h1,h2⟩) (fun j hj=>JF j (by omega) (by omega)) Ir hA hF ho pY hp lL hi hk,fun a' w' hJ=>?_,⟨m,am,Lm,Nat.le_refl _,by omega,fun i h3 h4=>?_,fun h=>by omega,hA,by rw[Nat.add_sub_cancel];exact hT,fun _=>eJ.refl _ _,fun h=>by omega,fun _=>rfl,ha.defers,rfl,Ir.size,fun t ht=>?_,fun i o t _ _ _ _=>rfl,fun t _=>rfl⟩⟩
 ·obtain⟨p,ac,Lp,hi⟩:=hJ
  have tS:p=l.length:=by
   rcases Nat.lt_or_ge p l.length with h3|h3
   ·have:=(hi.dt p hi.p0 h3).1 h3;omega
   ·have:=hi.p1;omega
  have xh:=hi.tr;rw[tS,List.drop_eq_nil_of_le (Nat.le_refl _)]at xh;refine⟨Lp,ds,⟨?_,hi.defers,fun t v ht=>?_⟩,xh⟩
  ·rw[hi.size];exact ha.size
  ·rw[hi.done t fun i o h3 h4 _=>by omega];exact hi.ag.at_ t v ht
 ·exact⟨False.elim,fun h=>by omega⟩
 ·rw[Ir.base t fun i o h3 h4 _ h5=>(ht i o h3 h4 h5)]
def tu (π:List Nat) (o:Oper):Oper:=⟨o.dst,o.op,o.type,o.pos,o.after.map fun e=>{e with on:=π.idxOf e.on},o.guard.map fun g=>(π.idxOf g.1,g.2)⟩
def yP (π:List Nat) (l:List Oper):List Oper:=π.map fun i=>tu π (l.getD i default)
def lM (π:List Nat) (k:Nat):Bool:=π.length==k&&π.all (Nat.blt · k)&&(List.range k).all (π.contains ·)&&(List.range k).all fun i=>π.idxOf (π.getD i 0)==i
theorem pw {π:List Nat} {k:Nat} (h:lM π k=true):π.length=k∧(∀(i j:Nat),π[i]? =some j→j<k)∧(∀j,j<k→π[π.idxOf j]? =some j)∧(∀(i j:Nat),π[i]? =some j→π.idxOf j=i)∧(∀j,k≤j→π.idxOf j=k):=by
 simp only[lM,Bool.and_eq_true,beq_iff_eq,List.all_eq_true,Nat.blt_eq,List.mem_range,List.contains_iff_mem]at h;obtain⟨⟨⟨h1,h2⟩,h3⟩,h4⟩:=h;refine⟨h1,fun i j jq=>h2 j (List.mem_of_getElem? jq),fun j hj=>?_,fun i j jq=>?_,fun j hj=>?_⟩
 ·have dY:=List.idxOf_lt_length_of_mem (h3 j hj);rw[List.getElem?_eq_getElem dY,List.getElem_idxOf dY]
 ·have hi:i<k:=by have:=(List.getElem?_eq_some_iff.1 jq).1;omega
  have:=h4 i hi
  rwa [List.getD_eq_getElem?_getD,jq,Option.getD_some]at this
 ·rw[List.idxOf_eq_length (fun hm=>by have:=h2 j hm;omega),h1]
theorem Cj {π:List Nat} {l:List Oper} (hπ:lM π l.length=true) {j:Nat} {o:Oper} (ho:l[j]? =some o):(yP π l)[π.idxOf j]? =some (tu π o):=by
 obtain⟨_,_,h3,_⟩:=pw hπ;have hj:=(List.getElem?_eq_some_iff.1 ho).1;simp only[yP,List.getElem?_map,h3 j hj,Option.map_some,List.getD_eq_getElem?_getD,ho,Option.getD_some]
theorem Qj {π:List Nat} {l:List Oper} (hπ:lM π l.length=true) {i:Nat} {o':Oper} (ho:(yP π l)[i]? =some o'):∃j o,π[i]? =some j∧l[j]? =some o∧o'=tu π o:=by
 obtain⟨_,h2,_⟩:=pw hπ;simp only[yP,List.getElem?_map,Option.map_eq_some_iff]at ho;obtain⟨j,hj,rfl⟩:=ho;refine⟨j,_,hj,List.getElem?_eq_getElem (h2 i j hj),?_⟩;rw[List.getD_eq_getElem?_getD,List.getElem?_eq_getElem (h2 i j hj),Option.getD_some]
theorem yQ (π:List Nat) (o:Oper):cy (tu π o)=(cy o).map π.idxOf:=by
 simp only[cy,tu,Array.toList_map,List.filter_map,List.map_map];rfl
theorem DQ {π:List Nat} {l:List Oper} (hπ:lM π l.length=true) (tmps:Array Value) (j:Nat):yielded (yP π l).toArray tmps (π.idxOf j)=yielded l.toArray tmps j:=by
 unfold yielded
 have:((yP π l).toArray[π.idxOf j]?).bind (·.dst)=(l.toArray[j]?).bind (·.dst):=by
  simp only[List.getElem?_toArray]
  cases ho:l[j]? with
  |some o=>rw[Cj hπ ho];rfl
  |none=>
   have hj:l.length≤j:=List.getElem?_eq_none_iff.1 ho;obtain⟨h1,_,_,_,h5⟩:=pw hπ;rw[h5 j hj,List.getElem?_eq_none (by simp[yP,h1])]
 rw[this]
theorem GC {π:List Nat} {l:List Oper} (hπ:lM π l.length=true) (tmps:Array Value) (o:Oper):Region.wanted (tu π o) (yielded (yP π l).toArray tmps)=Region.wanted o (yielded l.toArray tmps):=by
 unfold Region.wanted tu
 cases o.guard with
 |none=>rfl
 |some g=>simp only[Option.map_some,DQ hπ]
theorem Qk {π:List Nat} {l:List Oper} (hπ:lM π l.length=true) {Q:Exit→Act→World→Prop} {j:Nat} {o:Oper} {rest:List Nat} {a:Act} (ho:l[j]? =some o)
  (h:wpOpsIn (FW r) 0 P (yP π l).toArray (fun e a w=>match e with| .normal=>wpOpsIn (FW r) 0 P l.toArray Q rest a w|e=>Q e a w) [π.idxOf j] a w):wpOpsIn (FW r) 0 P l.toArray Q (j::rest) a w:=by
 simp only[wpOpsIn,List.getElem?_toArray,ho,Cj hπ ho,GC hπ]at h ⊢
 split at h
 ·rename_i hw
  rw[if_pos hw];refine⟨h.1,?_⟩;have h2:=h.2;rw[show Oper.semAt (FW r).round a.eval (tu π o)=Oper.semAt (FW r).round a.eval o from rfl]at h2;generalize (Oper.semAt (FW r).round a.eval o).run P w=res at h2 ⊢
  cases res with
  |ok nx w'=>
   cases nx with
   |enter f args=>exact⟨h2.1,h2.2.mono fun e xV he=>by cases e<;>exact he⟩
   |round l f tmps su body=>exact⟨h2.1,h2.2.mono fun e xV he=>by cases e<;>exact he⟩
   |_=>exact h2
  |halt x w'=>cases x<;>exact h2
 ·rename_i hw
  rw[if_neg hw];exact⟨h.1,h.2⟩
theorem il.perm {l:List Oper} {wd:World} (π:List Nat) (hπ:lM π l.length=true) (dr:eK l 0=true) (h:il P r n (yP π l) L ds wd K):il P r n l L ds wd K:=by
 intro a ha;obtain⟨J,h1,h2,h3,h4⟩:=h a ha;obtain⟨p1,p2,p3,p4,_⟩:=pw hπ;have hlen:(yP π l).length=l.length:=by simp[yP,p1]
 refine⟨fun D a w=>J (fun i=>∃j,π[i]? =some j∧D j) a w,fun D D' a w hJ hD=>h1 _ _ _ _ hJ fun i _=>⟨fun⟨j,hj,h⟩=>⟨j,hj,(hD j (p2 i j hj)).1 h⟩,fun⟨j,hj,h⟩=>⟨j,hj,(hD j (p2 i j hj)).2 h⟩⟩,fun Q D a w j o rest hj ho pY hp lL hJ hk=>?_,fun a w hJ=>h3 _ _ (h1 _ _ _ _ hJ fun i hi=>?_),h1 _ _ _ _ h4 fun i _=>⟨fun⟨j,_,h⟩=>h,False.elim⟩⟩
 ·refine Qk hπ ho (h2 _ _ _ _ _ _ _ (by rw[hlen,←p1];exact(List.getElem?_eq_some_iff.1 (p3 j hj)).1) (Cj hπ ho) ?_ ?_ ?_ hJ fun a' w' Uq=>hk _ _ (h1 _ _ _ _ Uq fun i hi=>?_))
  ·rintro⟨k,uk,Cf⟩;rw[p3 j hj]at uk
   cases uk;exact pY Cf
  ·intro k' uj;rw[yQ,List.mem_map]at uj;obtain⟨k,uk,rfl⟩:=uj;have:=cR dr j o ho k uk;exact⟨k,p3 k (by omega),hp k uk⟩
  ·rintro i o' fV ⟨k,uk,Cf⟩ k' uj;obtain⟨k2,ok,h5,h6,rfl⟩:=Qj hπ fV;rw[h5]at uk;cases uk;rw[yQ,List.mem_map]at uj;obtain⟨q,UH,rfl⟩:=uj;have:=cR dr k ok h6 q UH;have:=p2 i k h5;exact⟨q,p3 q (by omega),lL k ok h6 Cf q UH⟩
  ·constructor
   ·rintro⟨k,uk,h|h⟩
    ·subst h;exact .inl (p4 i k uk).symm
    ·exact .inr ⟨k,uk,h⟩
   ·rintro(h|⟨k,uk,h⟩)
    ·subst h;exact⟨j,p3 j hj,.inl rfl⟩
    ·exact⟨k,uk,.inr h⟩
 ·rw[hlen]at hi;have hp:π[i]? =some (π[i]'(by omega)):=List.getElem?_eq_getElem _;exact⟨fun _=>⟨_,hp,p2 i _ hp⟩,fun _=>by omega⟩
theorem T.LK {id:Nat} {l l':List Oper} (π:List Nat) (m:Nat) (fl:List Nat) (c:Nat) (N:aD) (hm:P.follows .mixedOrders=true) (GD:yP π l=l') (sy:eK l 0=true) (hπ:lM π l.length=true) (qy:Nat.blt m l'.length=true) (dr:eK l' 0=true) (nT:kC l' m=true) (Gb:lB l' m fl c=true)
  (h:∀wD,(∀M,Step M w M wD aC)→kN P r n l'.toArray (l'.take m) L ds wD (fun L'=>(∀j o,j∈fl→l'[j]? =some o→bZ P N wD L' o)∧sx P r n l'.toArray N wD K c (l'.drop m) L' ds wD)):T P r n (.region id l.toArray true) L ds w K:=by
 subst GD;exact il.t hm sy fun wD hD=> .perm π hπ sy (yO m fl c N qy dr nT Gb (h wD hD))
end
end Go.K
namespace Go.K
def xj (P:Program) (l:Nat) (args:Array Value) (w:World) (Q:Value→World→Prop):Prop:=YieldAt (FW none) 0 P l args w (fun e w'=>∃v,e= .returned v∧Q v w')
section
variable {P:Program} {r:Option Nat} {n:Nat} {L:Sl} {ds:List Deferred} {w:World} {K:Kt} {ops:Array Oper} {rest:List Oper} {d:Nat} {ty:TypeId} {pos:String} {af:Array Edge}
theorem Rg.yield {x:Operand} {l:Nat} {xs:List Operand} {vs:List Value} {DE:Array TypeId} {Q:Value→World→Prop} (hx:ev L x=some (.func (.yield l) #[] #[]))
  (jd:PK L xs=some vs) (hd:Nat.blt d n=true) (hs:xj P l vs.toArray w Q) (k:∀v w',Q v w'→Rg P r n ops rest ((d,v)::L) ds w' K):
  Rg P r n ops ({dst:=some d,op:= .call {callee:= .value x,args:=xs.toArray,argTypes:=DE},type:=ty,pos,after:=af,guard:=none}::rest) L ds w K:=by
 refine⟨fun a ha=>wpListIn_plain rfl fun K' P3=>DC (fun _ h=>by cases h) ?_⟩;obtain⟨fn,tmps,su,body,hy,hr⟩:=hs
 have gY:(execOp a.eval {dst:=some d,op:= .call {callee:= .value x,args:=xs.toArray,argTypes:=DE},type:=ty,pos,after:=af,guard:=none}).run P w= .ok (.round l fn tmps su body) w:=by
  have h1:=pf (ρ:=a.eval) (fun x u hx=>ha.eval hx) jd;simp only[execOp,resolve,List.map_toArray,h1,ha.eval hx];simpa[Deferred.ofValue,invoke]using hy
 rw[gY,Oper.uponIn_round];refine⟨fun h=>by simp[FW,Fence.wide]at h,?_⟩;have hr':RoundIn (FW r) (0-1) P l fn tmps su body w (fun e w'=>∃v,e= .returned v∧Q v w'):=hr;refine hr'.mono ?_;rintro e w' ⟨v,rfl,hv⟩;exact P3 _ _ ((k v w' hv).run _ (ha.put (by simpa[Nat.blt_eq]using hd) v))
end
def tv (fn:FuncId) (tm:Array Value) (ps:Array Tmp) (su body:Code) (D:Nat) (st:LoopState) (pe:Option Code):Loop:={state:=st,pending:=pe,fn:=fn,tmps:=tm,params:=ps,assign:=su,body:=body,defers:=D}
structure Tm (n:Nat) (tm:Array Value) (L:Sl):Prop where
 size:n≤tm.size
 at_:∀t v,lk L t=some v→tm[t]? =some v
def JI:List Tmp→List Value→Sl→Sl
 |p::ps,v::vs,L=>JI ps vs ((p,v)::L)
 |_,_,L=>L
theorem Bo {n:Nat}:∀(ps:List Tmp) (vs:List Value) (tm:Array Value) (L:Sl),Tm n tm L→(∀p∈ps,p<n)→iY n {tmps:=(ps.zip vs).foldl (fun tmps (t,a)=>tmps.setIfInBounds t a) tm,defers:=[]} (JI ps vs L) []
 |[],vs,tm,L,h,_=>⟨by simpa using h.size,rfl,by simpa[JI]using h.at_⟩
 |p::ps,[],tm,L,h,_=>⟨by simpa using h.size,rfl,by simpa[JI]using h.at_⟩
 |p::ps,v::vs,tm,L,h,hp=>by
  have h0:iY n {tmps:=tm,defers:=[]} L []:=⟨h.size,rfl,h.at_⟩;have h1:=h0.put (hp p (List.mem_cons_self ..)) v;exact Bo ps vs (tm.setIfInBounds p v) ((p,v)::L) ⟨by simpa using h.size,h1.at_⟩ (fun q hq=>hp q (List.mem_cons_of_mem _ hq))
def UK (l:Nat) (rec:LoopState→Option Code→Loop) (Q:Value→World→Prop):Kt
 |.normal,_,_,w=>w.heap[l]? =some (.loop (rec .busy none))∧Q (.bool true) (w.putObj l (.loop (rec .ready none)))
 |.ret,_,_,w=>w.heap[l]? =some (.loop (rec .busy none))∧Q (.bool false) (w.putObj l (.loop (rec .done (some .ret))))
 |.exit id,_,_,w=>w.heap[l]? =some (.loop (rec .busy none))∧Q (.bool false) (w.putObj l (.loop (rec .done (some (.exit id)))))
 |.goto id,_,_,w=>w.heap[l]? =some (.loop (rec .busy none))∧Q (.bool false) (w.putObj l (.loop (rec .done (some (.goto id)))))
 |_,_,_,_=>False
@[reducible] def YV (P:Program) (l n:Nat) (rec:LoopState→Option Code→Loop) (body:Code) (Q:Value→World→Prop):Kt:=fun e L ds w=>
 e= .normal∧w.heap[l]? =some (.loop (rec .ready none))∧T P (some l) n body L ds (w.putObj l (.loop (rec .busy none))) (UK l rec Q)
theorem LL {P:Program} {n l D:Nat} {fn:FuncId} {tm:Array Value} {ps:List Tmp} {su body:Code} {vs:List Value} {L:Sl} {w:World} {Q:Value→World→Prop}
  (hl:w.heap[l]? =some (.loop (tv fn tm ps.toArray su body D .ready none))) (Ql:Tm n tm L) (hlen:vs.length=ps.length) (ky:∀p∈ps,p<n)
  (h:T P (some l) n su (JI ps vs L) [] w (YV P l n (tv fn tm ps.toArray su body D) body Q)):xj P l vs.toArray w Q:=by
 have hy:=run_yield (P:=P) (args:=vs.toArray) hl (by simp[tv,hlen]);refine⟨_,_,_,_,hy,roundIn_of_wpIn trivial ?_⟩
 have hz:((tv fn tm ps.toArray su body D .ready none).params.zip vs.toArray).foldl (fun tmps (t,a)=>tmps.setIfInBounds t a) (tv fn tm ps.toArray su body D .ready none).tmps=(ps.zip vs).foldl (fun tmps (t,a)=>tmps.setIfInBounds t a) tm:=by
  simp[tv,←Array.foldl_toList]
 rw[hz];refine wpIn_mono (h.run _ (Bo ps vs tm L Ql ky)) ?_;rintro e a w1 ⟨L1,ds1,xX,rfl,Sy,hb⟩;refine⟨_,run_beginRound Sy rfl,wpIn_mono (hb.run a xX) ?_⟩;rintro e a2 w2 ⟨L2,ds2,yL,hK⟩
 cases e with
 |normal=>exact⟨_,_,run_endRound none hK.1,_,rfl,hK.2⟩
 |ret=>exact⟨_,_,run_endRound (some .ret) hK.1,_,rfl,hK.2⟩
 |exit id=>exact⟨_,_,run_endRound (some (.exit id)) hK.1,_,rfl,hK.2⟩
 |goto id=>exact⟨_,_,run_endRound (some (.goto id)) hK.1,_,rfl,hK.2⟩
 |panic c=>exact hK.elim
 |outgrown=>exact hK.elim
def Sz (n D:Nat) (ps:Array Tmp) (su body:Code) (L:Sl) (rec:LoopState→Option Code→Loop):Prop:=∃fn tm,Tm n tm L∧rec=tv fn tm ps su body D
theorem mg {P:Program} {n l D:Nat} {ps:List Tmp} {su body:Code} {vs:List Value} {L:Sl} {w:World} {Q:Value→World→Prop} {rec:LoopState→Option Code→Loop} (nU:Sz n D ps.toArray su body L rec)
  (hl:w.heap[l]? =some (.loop (rec .ready none))) (hlen:vs.length=ps.length) (ky:∀p∈ps,p<n)
  (h:T P (some l) n su (JI ps vs L) [] w (YV P l n rec body Q)):xj P l vs.toArray w Q:=by
 obtain⟨fn,tm,Ql,rfl⟩:=nU;exact LL hl Ql hlen ky h
def mark (D:Nat):Deferred:={target:= .collected D,args:= #[]}
theorem T.UL {P:Program} {n:Nat} {L:Sl} {ds:List Deferred} {w:World} {K:Kt} {g:Operand} {ps:Array Tmp} {su body:Code} {gf:FuncId} {lb:Array Value} (hg:ev L g=some (.func (.func gf) #[] lb)) (he:Enters P gf)
  (h:∀fn tm,Tm n tm L→Spec P gf (#[.func (.yield (w.heap.size+1)) #[] #[]]++lb)
   ((w.alloc (.deferred (some []))).alloc (.loop (tv fn tm ps su body w.heap.size .ready none))) (fun _ w3=>
    (w3.heap[w.heap.size+1]? =some (.loop (tv fn tm ps su body w.heap.size .ready none))∧K .normal L (mark w.heap.size::ds) (w3.putObj (w.heap.size+1) (.loop (tv fn tm ps su body w.heap.size .exhausted none))))∨
    ∃c,w3.heap[w.heap.size+1]? =some (.loop (tv fn tm ps su body w.heap.size .done (some c)))∧T P none n c L (mark w.heap.size::ds) (w3.putObj (w.heap.size+1) (.loop (tv fn tm ps su body w.heap.size .exhausted (some c)))) K)):
  T P none n (.rangeFunc g ps su body) L ds w K:=by
 refine⟨fun a ha=>wpIn_rangeFunc fun fn hfn=>?_⟩;have hs:=h fn a.tmps ⟨ha.size,ha.at_⟩;have rR:iY n {a with defers:=[mark w.heap.size]++a.defers} L (mark w.heap.size::ds):=⟨ha.size,by simp[ha.defers],ha.at_⟩
 let W1:World:=(w.alloc (.deferred (some []))).alloc (.loop (tv fn a.tmps ps su body w.heap.size .ready none))
 refine⟨w.heap.size+1,[mark w.heap.size],W1,{target:= .fn (.func gf) lb,args:= #[.func (.yield (w.heap.size+1)) #[] #[]]},W1,gf,#[.func (.yield (w.heap.size+1)) #[] #[]]++lb,W1,run_enterLoop_outer _ _ _ _ _,?_,?_,?_,?_,?_⟩
 ·simp only[resolve,ha.eval hg];simp[go_sem]
 ·exact fun _ _=>trivial
 ·simpa[invoke,go_sem]using he (#[.func (.yield (w.heap.size+1)) #[] #[]]++lb) _
 ·exact fun h=>by simp[FW,Fence.wide]at h
 ·refine (callsIn_wide.2 hs).mono ?_;rintro e w3 ⟨v,rfl,⟨hl,hk⟩|⟨c,hl,hk⟩⟩
  ·exact⟨none,_,run_endLoop hl (by simp[tv]),_,_,rR,hk⟩
  ·exact⟨some c,_,run_endLoop hl (by simp[tv]),hk.run _ rR⟩
theorem T.range {P:Program} {n:Nat} {L:Sl} {ds:List Deferred} {w:World} {K:Kt} {g:Operand} {ps:Array Tmp} {su body:Code} {gf:FuncId} {lb:Array Value} (hg:ev L g=some (.func (.func gf) #[] lb)) (he:Enters P gf)
  (h:∀rec,Sz n w.heap.size ps su body L rec→Spec P gf (#[.func (.yield (w.heap.size+1)) #[] #[]]++lb)
   ((w.alloc (.deferred (some []))).alloc (.loop (rec .ready none))) (fun _ w3=>
    (w3.heap[w.heap.size+1]? =some (.loop (rec .ready none))∧K .normal L (mark w.heap.size::ds) (w3.putObj (w.heap.size+1) (.loop (rec .exhausted none))))∨
    ∃c,w3.heap[w.heap.size+1]? =some (.loop (rec .done (some c)))∧T P none n c L (mark w.heap.size::ds) (w3.putObj (w.heap.size+1) (.loop (rec .exhausted (some c)))) K)):
  T P none n (.rangeFunc g ps su body) L ds w K:= .UL hg he fun fn tm Ql=>h _ ⟨fn,tm,Ql,rfl⟩
def Marks (P:Program):List Deferred→World→World→Prop
 |[],w,w'=>w'=w
 |d::ds,w,w'=>∃r w1,d.target= .collected r∧(Instr.takeDeferred r).run P w= .ok [] w1∧Marks P ds w1 w'
def DR (P:Program) (fn:Func) (Q:Value→World→Prop):Kt
 |.normal,L,ds,w| .ret,L,ds,w=>∃w',Marks P ds w w'∧∀a:Act,(∀t v,lk L t=some v→a.tmps[t]? =some v)→∃v,(results fn a.tmps).run P w'= .ok v w'∧Q v w'
 |_,_,_,_=>False
theorem ur {P:Program} {fn:Func} {tmps:Array Value} {R:Ending→World→Prop} {w':World}:∀(ds:List Deferred) (w:World),Marks P ds w w'→(∃v,(results fn tmps).run P w'= .ok v w'∧R (.returned v) w')→LeavesInM (FW none) 0 P fn tmps R ds .returning w
 |[],w,h,hr=>by cases h;exact hr
 |d::ds,w,⟨r,w1,h1,h2,h3⟩,hr=>⟨by simp,.inl ⟨r,w1,h1,h2,ur ds w1 h3 hr⟩⟩
theorem oH {P:Program} {f:FuncId} {fn:Func} {c:Code} {args:List Value} {w:World} {Q:Value→World→Prop} (hf:P.funcs[f]? =some fn) (hb:fn.body=some c) {n:Nat} (hn:fn.ntmps=n)
  (h:T P none n c (vQ 0 args) [] w (DR P fn Q)):Spec P f args.toArray w Q:=by
 refine(callsIn_wide (n:=0)).1 (callsIn_of_wp_marks (F:=FW none) hf hb trivial ?_);refine wpIn_mono (h.run _ ⟨?_,rfl,?_⟩) ?_
 ·simp[hn];omega
 ·intro t v ht;obtain⟨_,h2⟩:=Be args 0 t v ht;simp only[Nat.sub_zero]at h2;have dY:t<args.length:=(List.getElem?_eq_some_iff.1 h2).1;simp only;rw[Array.getElem?_append_left (by simpa using dY)];simpa using h2
 ·rintro e a w' ⟨L,ds,ha,hK⟩
  have go:(∃xV,Marks P ds w' xV∧∀a:Act,(∀t v,lk L t=some v→a.tmps[t]? =some v)→∃v,(results fn a.tmps).run P xV= .ok v xV∧Q v xV)→LeavesInM (FW none) 0 P fn a.tmps (fun e w'=>∃v,e= .returned v∧Q v w') a.defers .returning w':=by
   rintro⟨xV,h1,h2⟩;obtain⟨v,h3,h4⟩:=h2 a ha.at_;rw[ha.defers];exact ur ds w' h1 ⟨v,h3,v,rfl,h4⟩
  cases e with
  |normal=>exact go hK
  |ret=>exact go hK
  |exit id=>exact hK.elim
  |goto id=>exact hK.elim
  |panic c=>exact hK.elim
  |outgrown=>exact hK.elim
theorem vX {P:Program} {D:Nat} {w:World} (h:w.heap[D]? =some (.deferred (some []))):Marks P [mark D] w (w.putObj D (.deferred none)):=⟨D,_,rfl,run_takeDeferred h,rfl⟩
section
variable {P:Program} {fn:Func} {L:Sl} {w:World} {Q:Value→World→Prop}
theorem gj (hr:fn.results= #[]) (h:Q (.tuple #[]) w):xQ P fn Q .normal L [] w:=⟨rfl,fun a ha=>⟨_,by simp[results,hr],h⟩⟩
theorem Ck {t D:Nat} {v:Value} (hr:fn.results= #[.tmp t]) (hv:lk L t=some v) (hD:w.heap[D]? =some (.deferred (some []))) (h:Q v (w.putObj D (.deferred none))):
  DR P fn Q .ret L [mark D] w:=⟨_,vX hD,fun a ha=>⟨v,by simp[results,hr,ha t v hv],h⟩⟩
theorem UM {t u D:Nat} {x y:Value} (hr:fn.results= #[.tmp t,.tmp u]) (hx:lk L t=some x) (hy:lk L u=some y) (hD:w.heap[D]? =some (.deferred (some []))) (h:Q (.tuple #[x,y]) (w.putObj D (.deferred none))):
  DR P fn Q .ret L [mark D] w:=⟨_,vX hD,fun a ha=>⟨_,by simp[results,hr,ha _ _ hx,ha _ _ hy],h⟩⟩
theorem Qm {t u:Nat} {x y:Value} (hr:fn.results= #[.tmp t,.tmp u]) (hx:lk L t=some x) (hy:lk L u=some y) (h:Q (.tuple #[x,y]) w):
  DR P fn Q .ret L [] w:=⟨w,rfl,fun a ha=>⟨_,by simp[results,hr,ha _ _ hx,ha _ _ hy],h⟩⟩
end
theorem dZ {M:aD} {w:World} {b:Nat} {o:Obj} (hM:M b):Step M w M (w.putObj b o) (fun k=>k=b):=
 ⟨fun h k hk=>by simpa[World.putObj]using h k hk,rfl,rfl,rfl,by simp[World.putObj],fun _ _=>Iff.rfl,fun k _ hn=>World.putObj_heap_other (fun e=>hn e),fun k hk=>by subst hk;exact hM⟩
end Go.K
namespace Go.K
section
variable {P:Program} {r:Option Nat} {n:Nat} {L:Sl} {ds:List Deferred} {w:World} {K:Kt} {ops:Array Oper} {rest:List Oper} {d:Nat} {ty:TypeId} {pos:String} {af:Array Edge} {x y:Operand} {α:Type} {A:RT α}
theorem cO.fH {M:aD} {v:Value} {a:α} (h:cO A M w v a):∃p,v= .pointer (some p):=by
 obtain⟨b,o,vs,h1,_⟩:=h;exact⟨_,h1⟩
theorem Rg.nilCheck {v:Value} (hx:ev L x=some v) (hv:∃p,v= .pointer (some p)) (hd:Nat.blt d n=true) (k:Rg P r n ops rest ((d,v)::L) ds w K):
  Rg P r n ops ({dst:=some d,op:= .nilCheck x,type:=ty,pos,after:=af,guard:=none}::rest) L ds w K:=by
 obtain⟨p,rfl⟩:=hv;exact .op (fun _ h=>by cases h) rfl rfl hd _ w (fun ρ h=>by simp only[execOp,h x _ hx];simp) k
theorem Rg.cp {s:TypeId} {fs:Array Field} {fd:Field} {j size o o' b:Nat} {zv:Value} {bytes:Nat} (hu:P.underlying s=some (.struct fs)) (Ll:fs[j]? =some fd) (ho:o+fd.offset=o') (hi:TI P fd.type zv size bytes) (hs:size≠0)
  (hx:ev L x=some (.pointer (some ⟨b,o,none⟩))) (hd:Nat.blt d n=true) (k:Rg P r n ops rest ((d,.pointer (some ⟨b,o',none⟩))::L) ds w K):
  Rg P r n ops ({dst:=some d,op:= .fieldAddr s x j,type:=ty,pos,after:=af,guard:=none}::rest) L ds w K:=
 .op (fun _ h=>by cases h) rfl rfl hd _ w (fun ρ h=>by
  simp only[execOp,h x _ hx];simp[Instr.fieldAt,run_underlying hu,Ll,Instr.sureAddr,fieldPlace,hi.sizeOf,hs,←ho,Addr.add_mid]) k
theorem Rg.fz {t:TypeId} {fs:TypeDesc} {zv:Value} {bytes size b:Nat} {vs:List Value} {e:TypeId} {fr:Nat×Nat} (hu:P.underlying t=some fs) (hf:fs.isRow=true) (hi:TI P t zv size bytes) (hl:vs.length=size)
  (hx:ev L x=some (.pointer (some ⟨b,0,none⟩))) (hd:Nat.blt d n=true) (hb:w.heap[b]? =some (.cells vs.toArray e fr)) (k:Rg P r n ops rest ((d,.agg vs.toArray)::L) ds w K):
  Rg P r n ops ({dst:=some d,op:= .load t x,type:=ty,pos,after:=af,guard:=none}::rest) L ds w K:=by
 refine .op (fun _ h=>by cases h) rfl rfl hd (.agg vs.toArray) w (fun ρ h=>?_) k;simp only[execOp,h x _ hx];obtain⟨i,yi,_,AG,_⟩:=hi.get;have hr:w.rangeAt b 0 vs:=fun j v hj=>fG hb (by simpa using hj)
 have:=run_loadAt_mid (P:=P) w b 0 t vs fs hr hu hf (by simp[yi,AG,hl]);simp[this]
theorem nD:∀(vs:List Value) (w:World) (b o:Nat) (cs:Array Value) (e:TypeId) (fr:Nat×Nat),w.heap[b]? =some (.cells cs e fr)→
  ∃Gc:Array Value,(w.setCells b o vs).heap[b]? =some (.cells Gc e fr)∧Gc.size=cs.size∧(∀j,Gc[j]? =if o≤j∧j<o+vs.length∧j<cs.size then vs[j-o]? else cs[j]?)∧∀M:aD,M b→Step M w M (w.setCells b o vs) (fun k=>k=b)
 |[],w,b,o,cs,e,fr,h=>⟨cs,by simpa[World.setCells]using h,rfl,fun j=>by rw[if_neg (by simp;omega)],fun M hM=>(Step.refl M w).cB (fun _ h=>h.elim) (fun k hk=>by subst hk;exact hM)⟩
 |v::vs,w,b,o,cs,e,fr,h=>by
  have h1:=yF (o:=o) (v:=v) h;obtain⟨Gc,h2,h3,h4,h5⟩:=nD vs (w.setCell ⟨b,o,none⟩ v) b (o+1) _ e fr h1;refine⟨Gc,h2,by rw[h3];simp,fun j=>?_,fun M hM=>(ug M hM).trans (h5 M hM) fun _ _ h=>h⟩;rw[h4 j,Array.getElem?_setIfInBounds];simp only[Array.size_setIfInBounds,List.length_cons];by_cases hj:o=j
  ·subst hj;rw[if_neg (by omega),if_pos rfl];by_cases dY:o<cs.size
   ·rw[if_pos dY,if_pos ⟨Nat.le_refl _,by omega,dY⟩];simp
   ·rw[if_neg dY,if_neg (by omega),Array.getElem?_eq_none (by omega)]
  ·rw[if_neg hj];by_cases h6:o+1≤j∧j<o+1+vs.length∧j<cs.size
   ·rw[if_pos h6,if_pos (by omega),show j-o=(j-(o+1))+1 from by omega];simp
   ·rw[if_neg h6,if_neg (by omega)]
theorem Rg.dL {t:TypeId} {zv:Value} {bytes size b:Nat} {cs:Array Value} {vs:List Value} {e:TypeId} {M:aD} (hi:TI P t zv size bytes) (hl:vs.length=size) (hcs:cs.size=size) (h1:∀u∈vs,u.oneCell'=true)
  (hx:ev L x=some (.pointer (some ⟨b,0,none⟩))) (hy:ev L y=some (.agg vs.toArray)) (hb:w.heap[b]? =some (.cells cs e (0,0))) (hm:M b)
  (k:∀w',w'.heap[b]? =some (.cells vs.toArray e (0,0))→Step M w M w' (fun k=>k=b)→Rg P r n ops rest L ds w' K):
  Rg P r n ops ({dst:=none,op:= .store t x y,type:=ty,pos,after:=af,guard:=none}::rest) L ds w K:=by
 obtain⟨Gc,h2,h3,h4,h5⟩:=nD vs w b 0 cs e (0,0) hb
 have aey:Gc=vs.toArray:=Array.ext_getElem? fun j=>by
  rw[h4 j];by_cases hj:j<cs.size
  ·rw[if_pos (by omega)];simp
  ·rw[if_neg (by omega),Array.getElem?_eq_none (by omega)];simp;omega
 subst aey;refine .Sj (fun _ h=>by cases h) rfl rfl (w.setCells b 0 vs) (fun ρ hρ=>?_) (k _ h2 (h5 M hm));simp only[execOp,hρ x _ hx,hρ y _ hy];obtain⟨i,yi,_,AG,_⟩:=hi.get
 have:=run_storeAt_mid (P:=P) w b 0 t vs.toArray (fun j hj=>by
  have SB:j<cs.size:=by simp at hj;omega
  exact⟨by rw[fG hb (v:=cs[j]) (by simp[SB])];rfl,by simp[World.frozen?,hb]⟩) (by simp[yi,AG,hl]) (by simpa[Array.all_eq_true_iff_forall_mem]using h1)
 simp[this]
theorem Rg.mH {t e:TypeId} {zv v:Value} {bytes:Nat} {M M1:aD} {w1:World} {a:α} {ty2:TypeId} {aez:String} {af2:Array Edge} (hi:TI P e zv A.n bytes) (hz:zv.cells.size=A.n) (hg:A.agg=true) (hd:Nat.blt d n=true) (JJ:t=e) (hdy:ev ((d,.pointer (some ⟨w.heap.size,0,none⟩))::L) y=some v)
  (hv:A.V M1 w1 a v) (hle:Le M1 w1 M w) (hm:Lt M w) (k:∀u w',cO A M w' u a→Step M w M w' aC→w.heap.size<w'.heap.size→Rg P r n ops rest ((d,u)::L) ds w' K):
  Rg P r n ops ({dst:=some d,op:= .alloc e,type:=ty,pos,after:=af,guard:=none}::{dst:=none,op:= .store t (.tmp d) y,type:=ty2,pos:=aez,after:=af2,guard:=none}::rest) L ds w K:=by
 subst JJ;obtain⟨vs,h1,rfl⟩:=hv.le hle;have hdd:lk ((d,.pointer (some ⟨w.heap.size,0,none⟩))::L) d=some (.pointer (some ⟨w.heap.size,0,none⟩)):=by simp[lk,Nat.beq_refl]
 obtain⟨i,i1,i2,i3,i4⟩:=hi.get;refine .op (fun _ h=>by cases h) rfl rfl hd (.pointer (some ⟨w.heap.size,0,none⟩)) (w.alloc (.cells zv.cells t)) (fun ρ hρ=>?_) ?_
 ·simp only[execOp];simp[Instr.alloc,zeroValue,typeInfo,i1,i2,newVar,newRow,newObj,Sem.run]
 ·have s1:=(cW M w (.cells zv.cells t)).own (Nat.le_refl _) (by simp);refine .dL (M:=ins M w.heap.size) hi (A.len h1) hz (A.one h1) hdd (by simpa[RT.val,hg]using hdy) (cj w _) (.inl rfl) (fun w' h2 s2=>?_);have Gr:=s2.size;have kM:Step M w M w' aC:=⟨fun h b hb=>Nat.lt_of_lt_of_le (h b hb) (Nat.le_trans s1.size Gr),s2.os.trans s1.os,s2.tape.trans s1.tape,s2.output.trans s1.output,Nat.le_trans s1.size Gr,fun _ _=>Iff.rfl,fun k hk _=>(s2.same k (Nat.lt_of_lt_of_le hk s1.size) (fun e=>by subst e;omega)).trans (s1.same k hk fun h=>h.elim),fun _ h=>h.elim⟩;refine k _ w' ⟨w.heap.size,0,vs,rfl,fun h=>by have:=hm _ h;omega,A.le kM.le h1,fun j u hj=>fG h2 (by simpa using hj)⟩ kM (by simp at Gr;omega)
def GF (place:Nat→Option (Nat×Nat)):List Value→List (Nat×Value)→List Value→Prop
 |zs,[],out=>out=zs
 |zs,(i,v)::rest,out=>∃off vs,place i=some (off,vs.length)∧v.cells=vs.toArray∧off+vs.length≤zs.length∧GF place (zs.take off++vs++zs.drop (off+vs.length)) rest out
theorem xk {place:Nat→Option (Nat×Nat)}:∀(ps:List (Nat×Value)) (zs out:List Value),GF place zs ps out→Instr.fill place zs.toArray ps=some out.toArray
 |[],zs,out,h=>by cases h;rfl
 |(i,v)::rest,zs,out,⟨off,vs,h1,h2,h3,h4⟩=>by
  rw[←xk rest _ out h4]
  have key:∀(l:List Value) (k:Nat) (cs:Array Value),off+k+l.length≤cs.size→((l.zipIdx k).foldl (fun(cs:Array Value) (x:Value×Nat)=>cs.setIfInBounds (off+x.2) x.1) cs).size=cs.size∧
    ∀j:Nat,((l.zipIdx k).foldl (fun(cs:Array Value) (x:Value×Nat)=>cs.setIfInBounds (off+x.2) x.1) cs)[j]? =if off+k≤j∧j<off+k+l.length then l[j-(off+k)]? else cs[j]? :=by
   intro l
   induction l with
   |nil=>
    intro k cs hk;refine⟨rfl,fun j=>?_⟩;simp;intro h1 h2;omega
   |cons a l ih=>
    intro k cs hk;simp only[List.zipIdx_cons,List.foldl_cons];simp only[List.length_cons]at hk;obtain⟨h1,h2⟩:=ih (k+1) (cs.setIfInBounds (off+k) a) (by simp;omega);refine⟨by rw[h1];simp,fun j=>?_⟩;rw[h2 j,Array.getElem?_setIfInBounds,List.length_cons];by_cases h3:off+(k+1)≤j∧j<off+(k+1)+l.length
    ·rw[if_pos h3,if_pos (by omega),show j-(off+k)=(j-(off+(k+1)))+1 from by omega];simp
    ·rw[if_neg h3];by_cases h4:off+k=j
     ·subst h4;rw[if_pos rfl,if_pos (by omega),if_pos (by omega)];simp
     ·rw[if_neg h4,if_neg (by omega)]
  obtain⟨k1,k2⟩:=key vs 0 zs.toArray (by simpa using h3)
  conv=>lhs;rw[Instr.fill]
  simp only[h1,h2];simp[show¬(zs.length<off+vs.length) by omega];congr 1;refine Array.ext_getElem? fun j=>?_
  rw[k2 j,Nat.add_zero,List.getElem?_toArray,List.getElem?_toArray];by_cases hj:j<off
  ·rw[if_neg (by omega),List.getElem?_append_left (by simp;omega),List.getElem?_take,if_pos hj]
  ·have ht:(zs.take off).length=off:=by simp;omega
   rw[List.getElem?_append_right (by omega),ht];by_cases uq:j<off+vs.length
   ·rw[if_pos (by omega),List.getElem?_append_left (by omega)]
   ·rw[if_neg (by omega),List.getElem?_append_right (by omega),List.getElem?_drop];congr 1;omega
def placesOf (P:Program) (t:TypeId):List (Option (Nat×Nat)):=match P.underlying t with
 |some (.struct fs)=>fs.toList.map fun f=>(P.info? f.type).map fun i=>(f.offset,i.size)
 |_=>[]
def DS (L:Sl):List (Nat×Operand)→List (Nat×Value)→Prop
 |[],vs=>vs=[]
 |p::ps,vs=>∃v r,vs=(p.1,v)::r∧ev L p.2=some v∧DS L ps r
theorem DS.use {ρ:Operand→Value} (h:∀x v,ev L x=some v→ρ x=v):∀{ps:List (Nat×Operand)} {vs:List (Nat×Value)},DS L ps vs→ps.map (fun p=>(p.1,ρ p.2))=vs
 |[],_,hp=>by cases hp;rfl
 |p::ps,_,⟨v,r,h1,h2,h3⟩=>by rw[List.map_cons,h p.2 v h2,DS.use h h3,h1]
theorem Rg.build {t:TypeId} {fs:Array Field} {zv:Value} {bytes size:Nat} {ps:List (Nat×Operand)} {hU:List (Nat×Value)} {out:List Value} {places:List (Nat×Nat)} (hu:P.underlying t=some (.struct fs)) (hi:TI P t zv size bytes)
  (UN:placesOf P t=places.map some) (hd:Nat.blt d n=true)
  (jd:DS L ps hU) (hf:GF (fun i=>places[i]?) zv.cells.toList hU out) (k:Rg P r n ops rest ((d,.agg out.toArray)::L) ds w K):
  Rg P r n ops ({dst:=some d,op:= .build t ps.toArray,type:=ty,pos,after:=af,guard:=none}::rest) L ds w K:=by
 have tS:fs.toList.map (fun f=>(P.info? f.type).map fun i=>(f.offset,i.size))=places.map some:=by
  unfold placesOf at UN;rw[hu]at UN;exact UN
 obtain⟨i,i1,i2,i3,i4⟩:=hi.get;refine .op (fun _ h=>by cases h) rfl rfl hd (.agg out.toArray) w (fun ρ hρ=>?_) k;have hm:(Array.map (fun(i,x)=>(i,ρ x)) ps.toArray).toList=hU:=by rw[Array.toList_map];exact jd.use hρ
 have hp:∀(l:List Field) (acc:List (Nat×Nat)),l.map (fun f=>(P.info? f.type).map fun i=>(f.offset,i.size))=acc.map some→(l.mapM (fun f=>do let s ←Go.sizeOf f.type;pure (f.offset,s):Field→Sem (Nat×Nat))).run P w= .ok acc w:=by
  intro l
  induction l with
  |nil=>intro acc h;cases acc with
   |nil=>rfl
   |cons a acc=>simp at h
  |cons f l ih=>
   intro acc h
   cases acc with
   |nil=>simp at h
   |cons a acc=>
    simp only[List.map_cons,List.cons.injEq]at h;obtain⟨h1,h2⟩:=h;have:=ih acc h2
    cases hq:P.info? f.type with
    |none=>rw[hq]at h1;simp at h1
    |some i=>
     rw[hq]at h1;simp at h1;subst h1;have hs:(Go.sizeOf f.type).run P w= .ok i.size w:=by simp[Go.sizeOf,typeInfo,program,Sem.run,hq]
     simp only[List.mapM_cons,Sem.run_bind,hs,Result.andThen_ok,Sem.run_pure,this]
 have It:(fs.mapM (fun f=>do let s ←Go.sizeOf f.type;pure (f.offset,s):Field→Sem (Nat×Nat))).run P w= .ok places.toArray w:=by
  have h3:fs.mapM (fun f=>do let s ←Go.sizeOf f.type;pure (f.offset,s):Field→Sem (Nat×Nat))=List.toArray <$> fs.toList.mapM (fun f=>do let s ←Go.sizeOf f.type;pure (f.offset,s):Field→Sem (Nat×Nat)):=by
   exact Array.mapM_eq_mapM_toList
  rw[h3];simp only[map_eq_pure_bind,Sem.run_bind,hp _ _ tS,Result.andThen_ok,Sem.run_pure]
 have hf2:=xk hU _ out hf;have hz:(zeroValue t).run P w= .ok zv w:=by simp[zeroValue,typeInfo,program,Sem.run,i1,i2]
 have hf3:Instr.fill (fun x=>places.toArray[x]?) zv.cells hU=some out.toArray:=by simpa using hf2
 simp only[execOp,Instr.build,Sem.run_bind,hz,Result.andThen_ok,run_underlying hu,It,hm,hf3,Sem.run_pure]
theorem Rg.JK {t e:TypeId} {l h m:Operand} {κ κ' κ'':IntKind} {lo hi mx:Int} {hn:0<A.n} {M:aD} {w1:World} {xs:List α} {v zv:Value} {bytes:Nat} (ht:P.underlying t=some (.slice e)) (Ca:TI P e zv A.n bytes)
  (hx:ev L x=some v) (hl:ev L l=some (.int κ lo)) (hh:ev L h=some (.int κ' hi)) (hm:ev L m=some (.int κ'' mx)) (hd:Nat.blt d n=true) (hv:(A.sl hn).V M w1 xs v) (hb:0≤lo∧lo≤hi∧hi=mx∧hi≤xs.length)
  (k:∀u,(A.sl hn).V M w1 ((xs.take hi.toNat).drop lo.toNat) u→Rg P r n ops rest ((d,u)::L) ds w K):
  Rg P r n ops ({dst:=some d,op:= .slice t x (some l) (some h) (some m),type:=ty,pos,after:=af,guard:=none}::rest) L ds w K:=by
 obtain⟨a,cap,rfl,hc,hlen,hs⟩:=iz.1 hv;obtain⟨h1,h2,rfl,h3⟩:=hb;have yE:((xs.take hi.toNat).drop lo.toNat).length=hi.toNat-lo.toNat:=by rw[List.length_drop,List.length_take];omega
 refine .op (fun _ h=>by cases h) rfl rfl hd (sliced a lo.toNat hi.toNat hi.toNat A.n) w (fun ρ hρ=>?_) (k _ (iz.2 ⟨_,hi.toNat-lo.toNat,?_,by omega,by omega,hs.slice lo.toNat hi.toNat cap hi.toNat (by omega) (by omega) (by omega)⟩))
 ·simp only[execOp,hρ x _ hx,Option.map_some,hρ l _ hl,hρ h _ hh,hρ m _ hm];rw[Sem.run_bind,run_sliceAt_slice _ _ _ _ _ _ (jg ht),run_slice_lhm _ _ _ _ _ (jg ht) _ _ _ _ _ _ h1 h2 (Int.le_refl _) (by omega),pg ht,Ca.sizeOf];simp
 ·rw[yE];rfl
theorem Rg.uu {t t' e:TypeId} {a:Option Addr} {l c:Nat} (ht:P.underlying t=some (.slice e)) (hx:ev L x=some (.slice a l c)) (hy:ev L y=some (.slice none 0 0)) (hd:Nat.blt d n=true)
  (k:Rg P r n ops rest ((d,.bool (decide (a=none)))::L) ds w K):
  Rg P r n ops ({dst:=some d,op:= .binOp .eql t x y t',type:=ty,pos,after:=af,guard:=none}::rest) L ds w K:=
 .op (fun _ h=>by cases h) rfl rfl hd _ w (fun ρ h=>by
  have he:=run_equal_slice_nil (P:=P) w t e a l c ht;simp only[execOp];rw[h x _ hx,h y _ hy]
  cases a<;>simp[eqGuard,binOp,run_underlying ht]<;>simp[he]) k
theorem Rg.DT {t t' e:TypeId} {v:Value} (ht:P.underlying t=some (.pointer e)) (hx:ev L x=some v) (hv:∃p,v= .pointer (some p)) (hy:ev L y=some (.pointer none)) (hd:Nat.blt d n=true)
  (k:Rg P r n ops rest ((d,.bool false)::L) ds w K):
  Rg P r n ops ({dst:=some d,op:= .binOp .eql t x y t',type:=ty,pos,after:=af,guard:=none}::rest) L ds w K:=by
 obtain⟨p,rfl⟩:=hv
 exact .op (fun _ h=>by cases h) rfl rfl hd _ w (fun ρ h=>by
  have YW:P.underlying t=some (.pointer (P.pointee t)):=by simp[Program.pointee,ht]
  have he:=run_equal_pointer_nil (P:=P) w t (some p) YW;simp only[execOp];rw[h x _ hx,h y _ hy];simp[eqGuard,binOp,run_underlying ht,he]) k
theorem Rg.sl0 {t e:TypeId} {zv:Value} {bytes size:Nat} (ht:P.underlying t=some (.slice e)) (hi:TI P e zv size bytes) (M:aD) (hd:Nat.blt d n=true)
  (k:∀a w',Step M w M w' aC→Rg P r n ops rest ((d,.slice (some a) 0 0)::L) ds w' K):
  Rg P r n ops ({dst:=some d,op:= .buildSlice t 0 #[],type:=ty,pos,after:=af,guard:=none}::rest) L ds w K:=by
 refine .op (fun _ h=>by cases h) rfl rfl hd (.slice (some ⟨w.heap.size,0,none⟩) 0 0) (w.alloc (.cells #[] e)) (fun ρ hρ=>?_) (k _ _ (cW M w _));simp only[execOp,Instr.buildSlice,Sem.run_bind,run_underlying ht,Result.andThen_ok,hi.sizeOf];simp[newRow,newObj,Sem.run,Instr.fill];have h0:Array.range 0= #[]:=by apply Array.ext<;>simp
 simp[h0]
theorem LM {fn:Func} {Q:Value→World→Prop} {c t u s b:Nat} {vs:List Value} {fs:TypeDesc} {e:TypeId} {fr:Nat×Nat} {y z zv:Value} {size bytes:Nat} (hr:fn.results= #[.cell c t,.tmp u,.tmp s]) (hc:lk L c=some (.pointer (some ⟨b,0,none⟩))) (hu:P.underlying t=some fs) (hf:fs.isRow=true) (hi:TI P t zv size bytes) (hl:vs.length=size)
  (hb:w.heap[b]? =some (.cells vs.toArray e fr)) (hy:lk L u=some y) (hz:lk L s=some z) (h:Q (.tuple #[.agg vs.toArray,y,z]) w):xQ P fn Q .ret L [] w:=
 ⟨rfl,fun a ha=>⟨_,by
  obtain⟨i,yi,_,AG,_⟩:=hi.get;have LN:w.rangeAt b 0 vs:=fun j v hj=>fG hb (by simpa using hj)
  have:=run_loadVar_mid (P:=P) w b 0 t vs fs LN hu hf (by simp[yi,AG,hl]);simp[results,hr,ha _ _ hc,ha _ _ hy,ha _ _ hz,asAddr,this,Sem.run_bind],h⟩⟩
theorem Rg.rz {t e:TypeId} {zv:Value} {bytes:Nat} {hn:0<A.n} {M M2:aD} {w2:World} {a:Option Addr} {u:Value} {ys:List α} (ht:P.underlying t=some (.slice e)) (hi:TI P e zv A.n bytes) (hz:zv.cells.size=A.n)
  (hx:ev L x=some (.slice a 0 0)) (hy:ev L y=some u) (hd:Nat.blt d n=true) (hu:(A.sl hn).V M2 w2 ys u) (hle:Le M2 w2 M w) (hm:Lt M w) (hb:ys.length*bytes≤140737488355328)
  (k:∀v' w',(A.sl hn).V M w' ys v'→Step M w M w' aC→Rg P r n ops rest ((d,v')::L) ds w' K):
  Rg P r n ops ({dst:=some d,op:= .call {callee:= .builtin .append,args:= #[x,y],argTypes:= #[t,t]},type:=ty,pos,after:=af,guard:=none}::rest) L ds w K:=by
 have GG:=dD hu;by_cases eN:ys=[]
 ·subst eN;obtain⟨b,c,rfl,_⟩:=iz.1 hu;refine .op (fun _ h=>by cases h) rfl rfl hd (.slice a 0 0) w (fun ρ hρ=>?_) (k _ w (iz.2 ⟨a,0,rfl,Nat.le_refl _,by simp,.inl rfl⟩) (Step.refl _ _));simp only[execOp,resolve,List.map_toArray,List.map_cons,List.map_nil,hρ x _ hx,hρ y _ hy];have:=pX (P:=P) (w:=w) (ty:=ty) ht hi a 0 0 c b (Nat.le_refl 0);simp only[List.length_nil]at this ⊢;simp[invoke,builtin,this]
 ·have hp:0<ys.length:=List.length_pos_iff.2 eN;refine .yI (xs:=[]) (a:=a) ht hi hz hx hy hd (iz.2 ⟨a,0,rfl,Nat.le_refl _,by simp,.inl rfl⟩) (fun _=>rfl) hu hle hp (by simpa using GG) (by simpa using hb) fun v' M' w' ho s=> ?_
  rw[List.nil_append]at ho;exact k v' w' (Own.close hm s ho GG) s.back
theorem lW {M:aD} {a:α} {v:Value} (h:A.V M w a v) (hg:A.agg=false) (h1:A.n=1):v.oneCell'=true:=by
 obtain⟨vs,hR,rfl⟩:=h;have hl:=A.len hR
 match vs,hl with
 |[u],_=>simpa[RT.val,hg]using A.one hR u (by simp)
 |[],hl=>simp at hl;omega
 |_::_::_,hl=>simp at hl;omega
theorem mI {M:aD} {a:α} {v:Value} (h:A.V M w a v) (hg:A.agg=false) (h1:A.n=1):A.R M w a [v]:=by
 obtain⟨vs,hR,rfl⟩:=h;have hl:=A.len hR
 match vs,hl,hR with
 |[u],_,hR=>simpa[RT.val,hg]using hR
 |[],hl,_=>simp at hl;omega
 |_::_::_,hl,_=>simp at hl;omega
theorem fg {β:Type} {B:RT β} {M:aD} {a:α} {b:β} {u v:Value} (h:A.V M w a u) (h':B.V M w b v) (hg:A.agg=false) (h1:A.n=1) (YX:B.agg=false) (X7:B.n=1):(A.pair B).V M w (a,b) (.agg [u,v].toArray):=
 ⟨[u,v],⟨[u],[v],rfl,mI h hg h1,mI h' YX X7⟩,rfl⟩
theorem LO {x:Int}: -9223372036854775808≤IntKind.i64.wrap x∧IntKind.i64.wrap x≤9223372036854775807:=by
 rw[IntKind.wrap_i64];omega
end
end Go.K
namespace Go.K
section
variable {P:Program} {r:Option Nat} {n:Nat} {L:Sl} {ds:List Deferred} {w:World} {K:Kt} {ops:Array Oper} {rest:List Oper} {d:Nat} {x:Operand} {ty:TypeId} {pos:String} {af:Array Edge}
theorem Rg.mM {t e:TypeId} {a:Option Addr} {l c:Nat} (ht:P.underlying t=some (.slice e)) (hx:ev L x=some (.slice a l c)) (hd:Nat.blt d n=true)
  (k:Rg P r n ops rest ((d,.int .i64 (l:Int))::L) ds w K):
  Rg P r n ops ({dst:=some d,op:= .call {callee:= .builtin .len,args:= #[x],argTypes:= #[t]},type:=ty,pos,after:=af,guard:=none}::rest) L ds w K:=by
 refine .op (fun _ h=>by cases h) rfl rfl hd _ w (fun ρ h=>?_) k;simp only[execOp,resolve,List.map_toArray,List.map_cons,List.map_nil,h x _ hx];simp[invoke,builtin,Builtin.len_,run_underlying ht,goInt]
end
end Go.K

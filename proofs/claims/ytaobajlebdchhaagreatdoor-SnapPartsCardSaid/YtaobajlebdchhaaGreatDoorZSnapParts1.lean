/- What the law 'SnapParts' needs of walks and plain Lean, part 1: nothing is assumed beyond the texts that it imports. -/
import Derived.ArgAppend
import Derived.Below
import Derived.ChangeOld
import Derived.Deep.MidRow
import Derived.IntWalk
import Derived.LaidByTextLater
import Derived.LaidHandle
import Derived.LaidLaws
import Derived.LaidMore
import Derived.Laws.AppendOwn
import Derived.Laws.BytesString
import Derived.Laws.Cover3
import Derived.Laws.NewBlocks
import Derived.Laws.Pointers
import Derived.Laws.Slices
import Derived.Laws.Small
import Derived.MakeChecks
import Derived.OpenShut
import Derived.Orders
import Derived.ProofKit
import Derived.RangeFuncLeaves
import Derived.RangeFuncNested
import Derived.SevenTiedAt
import Derived.ShutString
import Derived.SizedLaws
import Derived.Stop.Joined
import Derived.TacticsIn
import Derived.WalkKit
set_option linter.unusedVariables false
set_option linter.unusedSimpArgs false
theorem G {α:Sort _} {a:α}:a=a:=rfl
theorem q0 {p:Prop} (h:p:=by omega):p:=h
theorem XT {p:Prop} (h:p:=by decide):p:=h
theorem a00 {p:Prop} (h:p:=by assumption):p:=h
theorem a01 {p:Prop} (h:p:=by exact (.cons G (.cons G (.cons G (.cons G .nil))))):p:=h
theorem a02 {p:Prop} (h:p:=by exact ad ⟨G,G,_,G,G,aV⟩):p:=h
theorem a03 {p:Prop} (h:p:=by first|exact kp|exact kp.qp a00|exact kp.goN a00|exact kp.go a00 (λ_ _ h=>by first|exact h|exact h.elim)):p:=h
theorem a04 {p:Prop} (h:p:=by exact (congrArg some (by kernel_rfl))):p:=h
theorem a05 {p:Prop} (h:p:=by exact (λhk=>by have hk:_=_:=hk;omega)):p:=h
theorem a06 {p:Prop} (h:p:=by exact (λ_ h=>by cases h)):p:=h
theorem a07 {p:Prop} (h:p:=by exact (.cons G (.cons G (.cons G .nil)))):p:=h
theorem a08 {p:Prop} (h:p:=by exact ak G G G G (ad ⟨G,G,_,G,G,aV⟩)):p:=h
theorem a09 {p:Prop} (h:p:=by first|(exfalso;omega)|(unfold nO;repeat (first|rw[if_pos q0]|rw[if_neg q0]))):p:=h
theorem a10 {p:Prop} (h:p:=by first|(exfalso;omega)|(unfold iB;repeat (first|rw[if_pos q0]|rw[if_neg q0]))):p:=h
theorem a11 {p:Prop} (h:p:=by first|(exfalso;omega)|(unfold xy;repeat (first|rw[if_pos q0]|rw[if_neg q0]))):p:=h
theorem a13 {p:Prop} (h:p:=by simp;omega):p:=h
theorem a14 {p:Prop} (h:p:=by exact (.cons G (.cons G a01))):p:=h
theorem a15 {p:Prop} (h:p:=by exact (λ_ h=>h.elim)):p:=h
theorem a16 {p:Prop} (h:p:=by intro u hu;simp at hu;rcases hu with rfl|rfl<;>first|rfl|exact jL a00 rfl rfl):p:=h
theorem a18 {p:Prop} (h:p:=by first|exact λk v c hv hc h=>(hR.o k v hv).jE ho XT hc h|exact λk v c hv hc (h:c=b)=>(hR.o k v hv).fk gb XT (h▸hc)|exact λk v c hv hc (h:c=AQ)=>(hR.o k v hv).fk pM XT (h▸hc)):p:=h
theorem a19 {p:Prop} (h:p:=by exact aP rfl rfl ⟨by rw[gm,if_neg q0],G⟩):p:=h
theorem a30 {p:Prop} (h:p:=by first|assumption|exact λh=>h|(intro h;have h:_=_:=h;omega)):p:=h
theorem a34 {p:Prop} (h:p:=by exact (.cons G a01)):p:=h
theorem a38 {p:Prop} (h:p:=by first|exact λh=>ho.kZ hW.at_ h|exact fun(h:mb=b)=>W7 h.symm|exact fun(h:mb=AQ)=>by have h9:=hW.at_;rw[h,pM]at h9;cases h9):p:=h
theorem a42 {p:Prop} (h:p:=by clear hp;rcases(show p=0\/p=1\/p=2\/p=3\/p=4 by omega)with rfl|rfl|rfl|rfl|rfl<;>kernel_rfl):p:=h
theorem a43 {p:Prop} (h:p:=by first|exact λk hk=>by(obtain⟨cs,hc⟩:=te.isCells hk;exact⟨cs,_,hc,by decide,by decide,by decide⟩)|exact λk (hk:k=gH)=>⟨_,_,hk▸g2,by decide,by decide,by decide⟩):p:=h
theorem a47 {p:Prop} (h:p:=by have:=gP (xs.take k);rw[bF]at this;simp;omega):p:=h
theorem a48 {p:Prop} (h:p:=by exact (.cons G (.cons G (.cons G (.cons G (.cons G (.cons (show some (Value.int .i64 ((many:Int)-1))=some (Value.int .i64 ((many-1:Nat):Int))from by congr 2;omega) .nil))))))):p:=h
theorem a52 {p:Prop} (h:p:=by exact aP rfl rfl ⟨by rw[gm,if_pos q0],G⟩):p:=h
theorem a56 {p:Prop} (h:p:=by first|assumption|exact Step.lt a00 a00|exact Step.lt a00 (Step.lt a00 a00)):p:=h
theorem a61 {p:Prop} (h:p:=by exact aP G G ⟨congrArg Value.bool (decide_eq_decide.2 ⟨λh=>iN.2 ⟨j8,wH,wI,h⟩,λe=>(iN.1 e).2.2.2⟩),S⟩):p:=h
theorem a62 {p:Prop} (h:p:=by first|omega|decide):p:=h
theorem a65 {p:Prop} (h:p:=by unfold gj;rw[if_neg (by rw[Cj];decide)];exact J2.le dZ.le):p:=h
theorem a68 {p:Prop} (h:p:=by simpa using h):p:=h
theorem a69 {p:Prop} (h:p:=by exact aP G G ⟨G,G⟩):p:=h
theorem a71 {p:Prop} (h:p:=by exact aP G G ⟨congrArg Value.bool (dV (decide_eq_false q0)),G⟩):p:=h
theorem a73 {p:Prop} (h:p:=by exact ad ⟨G,G,_,G,sH,aV⟩):p:=h
theorem a74 {p:Prop} (h:p:=by exact aP G G ⟨congrArg Value.bool (decide_eq_decide.2 q0),G⟩):p:=h
theorem a81 {p:Prop} (h:p:=by exact (.cons G a14)):p:=h
theorem a83 {p:Prop} (h:p:=by exact aP G G ⟨congrArg Value.bool (decide_eq_false (λe=>wI (iN.1 e).2.2.1)).symm,S⟩):p:=h
theorem a84 {p:Prop} (h:p:=by obtain⟨_,_,he,_⟩:=ho.isSlice;rw[he];rfl):p:=h
theorem a86 {p:Prop} (h:p:=by simp[ByteArray.size]):p:=h
theorem a88 {p:Prop} (h:p:=by exact aP G G ⟨congrArg Value.bool (decide_eq_false (λe=>wH (iN.1 e).2.1)).symm,S⟩):p:=h
theorem a89 {p:Prop} (h:p:=by exact aP G G ⟨congrArg Value.bool (decide_eq_false (λe=>j8 (iN.1 e).1)).symm,S⟩):p:=h
theorem a90 {p:Prop} (h:p:=by exact λp hp=>by cases hp):p:=h
theorem a92 {p:Prop} (h:p:=by exact jB G ⟨_,hM,⟨⟨_,go,eE _ _ _ _ _⟩,⟨_,gs,hs⟩,iv,je,hBo,hBs⟩,S⟩):p:=h
theorem a94 {p:Prop} (h:p:=by simp[List.countP_replicate]):p:=h
theorem a95 {p:Prop} (h:p:=by rcases(show x=0\/x=1\/x=2\/x=3\/x=4\/x=5\/x=6\/x=7\/x=8\/x=9\/x=10\/x=11\/x=12\/x=13\/x=14\/x=15 by omega)with rfl|rfl|rfl|rfl|rfl|rfl|rfl|rfl|rfl|rfl|rfl|rfl|rfl|rfl|rfl|rfl<;>kernel_rfl):p:=h
theorem a96 {p:Prop} (h:p:=by exact (.cons rfl (.cons rfl (.cons rfl (.cons (by first|(rw[wg,Hl,yA,cT];rfl)|(rw[wg,(Bool.not_eq_true _).mp Hl,ei];rfl)) (.cons rfl (.cons rfl (.cons rfl (.cons rfl (.cons rfl (.cons rfl .nil))))))))))):p:=h
theorem a97 {p:Prop} (h:p:=by intro u hu;simp at hu;rcases hu with rfl|rfl|rfl|rfl|rfl<;>first|rfl|exact jL a00 rfl rfl):p:=h
theorem a98 {p:Prop} (h:p:=by simpa using hj):p:=h
theorem a99 {p:Prop} (h:p:=by first|exact(vB q0).symm|exact(rf q0).symm):p:=h
theorem ac0 {p:Prop} (h:p:=by rw[Cj];decide):p:=h
theorem ac2 {p:Prop} (h:p:=by exact (.cons G (.cons G .nil))):p:=h
theorem ac4 {p:Prop} (h:p:=by exact aP rfl rfl ⟨by rw[fe,decide_eq_false (p:=1<=s.length/\s.length<=12) q0,ei],λM=>aV⟩):p:=h
theorem ad4 {p:Prop} (h:p:=by rw[<-hc];exact λk h1 h2=>fN k h1 q0):p:=h
theorem ad5 {p:Prop} (h:p:=by simp;have:=jf l;rw[DZ]at this;simp at this;omega):p:=h
theorem ae4 {p:Prop} (h:p:=by exact eS rfl rfl rfl ⟨⟨_,rfl,λh=>by cases h⟩,S.back⟩):p:=h
theorem af1 {p:Prop} (h:p:=by simpa using hx):p:=h
theorem af3 {p:Prop} (h:p:=by first|exact h|exact .inr (.inr (.inl h))|(rcases h with h|h<;>simp[h])):p:=h
theorem af5 {p:Prop} (h:p:=by first|assumption|exact cg dZ a00):p:=h
theorem af7 {p:Prop} (h:p:=by obtain⟨_,_,he,_⟩:=dU.isSlice;rw[he];rfl):p:=h
theorem ag0 {p:Prop} (h:p:=by rw[R2];exact ux.le l7.le):p:=h
theorem ag1 {p:Prop} (h:p:=by first|exact .inl q0|exact .inr (.inl q0)|exact .inr (.inr a00)):p:=h
theorem ag8 {p:Prop} (h:p:=by rw[l9 q0 hx,decide_eq_true Bw,cT];exact decide_eq_decide.2 q0):p:=h
theorem ai0 {p:Prop} (h:p:=by exact eS rfl rfl rfl ⟨_,by rw[R6,hy,decide_eq_false (λh=>A9 (aF h))],G⟩):p:=h
theorem ai1 {p:Prop} (h:p:=by have:=ij hf;simp;omega):p:=h
theorem ai2 {p:Prop} (h:p:=by have:=S.size;omega):p:=h
theorem ai3 {p:Prop} (h:p:=by exact key base len elem _ _ (λd=>match d with| .array .. =>true|_=>false)):p:=h
theorem ai4 {p:Prop} (h:p:=by have h1:=lp (f:=λe=>qE q.kind ((q.kids.take (i+1)).map (fG e.1.2))) L 0;have h2:=lp (f:=λe=>fG e.1.2 x) L 0;omega):p:=h
theorem ai6 {p:Prop} (h:p:=by rcases h with h|h|rfl<;>first|exact .inl (.inl h)|exact .inl (.inr h)|exact .inr ⟨zb,hQ4 _ (.inr (.inr rfl))⟩):p:=h
theorem ai7 {p:Prop} (h:p:=by simpa using hi):p:=h
theorem ai8 {p:Prop} (h:p:=by intro x hx;simp at hx;rcases hx with rfl|rfl|rfl<;>rfl):p:=h
theorem ai9 {p:Prop} (h:p:=by exact (.cons rfl (.cons (by first|(rw[rY hx,if_pos MV];rfl)|(rw[rY hx,if_neg MV];rfl)) (.cons rfl (.cons rfl (.cons rfl .nil)))))):p:=h
theorem aj2 {p:Prop} (h:p:=by exact eS rfl rfl rfl ⟨_,by rw[R6,hy,A9,decide_eq_true rfl],rfl⟩):p:=h
theorem al5 {p:Prop} (h:p:=by intro u hu;simp at hu;rcases hu with rfl|rfl<;>rfl):p:=h
theorem an1 {p:Prop} (h:p:=by unfold TQ bit;rw[decide_eq_true gr,cT,aq,Nat.testBit_eq_decide_div_mod_eq];exact decide_eq_decide.2 q0):p:=h
theorem an3 {p:Prop} (h:p:=by rw[<-hc];congr 1;omega):p:=h
theorem an7 {p:Prop} (h:p:=by simpa using hy):p:=h
theorem ao8 {p:Prop} (h:p:=by rintro(h|h)<;>first|exact absurd h a00|omega):p:=h
theorem ao9 {p:Prop} (h:p:=by simp[binOp,Op.intArith,IntWalk.i64_in _ hb]):p:=h
theorem ap1 {p:Prop} (h:p:=by show¬k=1;have hk:k=2\/k=3\/k=4:=hk;omega):p:=h
theorem ap7 {p:Prop} (h:p:=by show¬k=5;have hk:k=2\/k=3\/k=4:=hk;omega):p:=h
theorem aq5 {p:Prop} (h:p:=by simp only;omega):p:=h
theorem aq6 {p:Prop} (h:p:=by exact ad ⟨G,G,_,G,RW,aV⟩):p:=h
theorem aq7 {p:Prop} (h:p:=by simpa[Nat.blt_eq]using XU):p:=h
theorem aw {α:Type} {c:α} {P:α->Prop} (h:P c):∀x,x=c->P x:=λx hx=>hx▸h
namespace Go.K
abbrev Sl:=List (Nat×Value)
def lk:Sl->Nat->Option Value
 |[],_=>none
 |(k,v)::l,t=>bif Nat.beq k t then some v else lk l t
structure iS (n:Nat) (a:Act) (L:Sl) (ds:List Deferred):Prop where
 size:n<=a.tmps.size
 defers:a.defers=ds
 at_:∀t v,lk L t=some v->a.tmps[t]? =some v
def ev (L:Sl):Operand->Option Value
 |.tmp t=>lk L t
 |.const v=>some v
 |.global g=>some (.pointer (some ⟨g,0,none⟩))
 |.func f=>some (.func (.func f) #[] #[])
theorem iS.eval {n a L ds} (h:iS n a L ds) {x:Operand} {v:Value} (hx:ev L x=some v):a.eval x=v:=by
 cases x with
 |tmp t=>simp only[ev]at hx;simp[Act.eval,h.at_ t v hx]
 |const u=>simp only[ev]at hx;cases hx;rfl
 |global g=>simp only[ev]at hx;cases hx;rfl
 |func f=>simp only[ev]at hx;cases hx;rfl
theorem iS.put {n a L ds} (h:iS n a L ds) {d:Nat} (hd:d<n) (v:Value):iS n (a.put (some d) v) ((d,v)::L) ds:=by
 refine⟨?_,h.defers,?_⟩
 ·simp only[Act.put,Array.size_setIfInBounds];exact h.size
 ·intro t u ht;simp only[lk]at ht;have hs:=h.size;by_cases e:d=t
  ·subst e;simp only[Nat.beq_refl,cond_true]at ht
   cases ht;simp only[Act.put];rw[Array.getElem?_setIfInBounds];simp;omega
  ·have e':Nat.beq d t=false:=by
    cases hb:Nat.beq d t with
    |false=>rfl
    |true=>exact absurd (Nat.eq_of_beq_eq_true hb) e
   rw[e']at ht;simp only[cond_false]at ht;simp only[Act.put];rw[Array.getElem?_setIfInBounds,if_neg e];exact h.at_ t u ht
def Sub:Sl->Sl->Prop
 |[],_=>True
 |(t,v)::A,B=>lk B t=some v/\Sub A B
theorem Sub.nil {B:Sl}:Sub [] B:=trivial
theorem Sub.cons {t:Nat} {v:Value} {A B:Sl} (h:lk B t=some v) (h':Sub A B):Sub ((t,v)::A) B:=⟨h,h'⟩
theorem Sub.lk {A B:Sl} (h:Sub A B) {t:Nat} {v:Value} (ht:lk A t=some v):lk B t=some v:=by
 induction A with
 |nil=>simp[K.lk]at ht
 |cons p A ih=>
  obtain⟨k,u⟩:=p;obtain⟨h1,h2⟩:=h;simp only[K.lk]at ht
  cases hb:Nat.beq k t with
  |true=>
   rw[hb]at ht;simp only[cond_true]at ht;cases ht;rw[<-Nat.eq_of_beq_eq_true hb];exact h1
  |false=>rw[hb]at ht;exact ih h2 ht
theorem iS.sub {n a A B ds} (h:iS n a B ds) (hs:Sub A B):iS n a A ds:=⟨h.size,h.defers,λt v ht=>h.at_ t v (hs.lk ht)⟩
abbrev FW (r:Option Nat):Fence:={Fence.wide with round:=r}
abbrev Kt:=Exit->Sl->List Deferred->World->Prop
def up (n:Nat) (K:Kt):Exit->Act->World->Prop:=λe a w=>∃L ds,iS n a L ds/\K e L ds w
structure T (P:Program) (r:Option Nat) (n:Nat) (c:Code) (L:Sl) (ds:List Deferred) (w:World) (K:Kt):Prop where
 run:∀a,iS n a L ds->c.wpIn (FW r) 0 P (up n K) a w
structure Rg (P:Program) (r:Option Nat) (n:Nat) (ops:Array Oper) (rest:List Oper) (L:Sl) (ds:List Deferred) (w:World) (K:Kt):Prop where
 run:∀a,iS n a L ds->wpListIn (FW r) 0 P ops (up n K) rest a w
@[reducible] def wY (k:Sl->List Deferred->World->Prop) (K:Kt):Kt
 |.normal,L,ds,w=>k L ds w
 |e,L,ds,w=>K e L ds w
@[reducible] def mi (id:Nat) (K:Kt):Kt
 |.exit id',L,ds,w=>if id'=id then K .normal L ds w else K (.exit id') L ds w
 |e,L,ds,w=>K e L ds w
section
variable {P:Program} {r:Option Nat} {n:Nat} {L:Sl} {ds:List Deferred} {w:World} {K:Kt}
theorem T.mono {c:Code} {K':Kt} (h:T P r n c L ds w K) (hK:∀e L ds w,K e L ds w->K' e L ds w):T P r n c L ds w K':=
 ⟨λa ha=>wpIn_mono (h.run a ha) λ_ _ _ ⟨L,ds,h1,h2⟩=>⟨L,ds,h1,hK _ _ _ _ h2⟩⟩
theorem T.weaken {c:Code} (L':Sl) (hs:Sub L' L) (h:T P r n c L' ds w K):T P r n c L ds w K:=⟨λa ha=>h.run a (ha.sub hs)⟩
theorem T.skip (h:K .normal L ds w):T P r n .skip L ds w K:=⟨λa ha=>wpIn_skip ⟨L,ds,ha,h⟩⟩
theorem T.exit {id:Nat} (h:K (.exit id) L ds w):T P r n (.exit id) L ds w K:=⟨λa ha=>wpIn_exit ⟨L,ds,ha,h⟩⟩
theorem T.ret (h:K .ret L ds w):T P r n .ret L ds w K:=⟨λa ha=>wpIn_ret ⟨L,ds,ha,h⟩⟩
theorem T.seq {x y:Code} (h:T P r n x L ds w (wY (λL ds w=>T P r n y L ds w K) K)):T P r n (.seq x y) L ds w K:=by
 refine⟨λa ha=>wpIn_seq (wpIn_mono (h.run a ha) ?_)⟩;rintro e a' w' ⟨L',nj,oz,hK⟩
 cases e with
 |normal=>exact hK.run a' oz
 |exit id=>exact⟨L',nj,oz,hK⟩
 |goto id=>exact⟨L',nj,oz,hK⟩
 |ret=>exact⟨L',nj,oz,hK⟩
 |panic c=>exact⟨L',nj,oz,hK⟩
 |outgrown=>exact⟨L',nj,oz,hK⟩
theorem T.block {id:Nat} {c:Code} (h:T P r n c L ds w (mi id K)):T P r n (.block id c) L ds w K:=by
 refine⟨λa ha=>wpIn_block (wpIn_mono (h.run a ha) ?_)⟩;rintro e a' w' ⟨L',nj,oz,hK⟩
 cases e with
 |normal=>exact⟨L',nj,oz,hK⟩
 |exit id'=>
  simp only[Exit.inBlock];simp only[mi]at hK
  split
  ·rename_i e';rw[if_pos e']at hK;exact⟨L',nj,oz,hK⟩
  ·rename_i e';rw[if_neg e']at hK;exact⟨L',nj,oz,hK⟩
 |goto id=>exact⟨L',nj,oz,hK⟩
 |ret=>exact⟨L',nj,oz,hK⟩
 |panic c=>exact⟨L',nj,oz,hK⟩
 |outgrown=>exact⟨L',nj,oz,hK⟩
theorem T.cond {c:Operand} {x y:Code} {b:Bool} (hc:ev L c=some (.bool b)) (ht:b=true->T P r n x L ds w K) (hf:b=false->T P r n y L ds w K):
  T P r n (.cond c x y) L ds w K:=by
 refine ⟨λa ha=> ?_⟩;have:=ha.eval hc
 cases b with
 |true=>exact wpIn_cond_true this ((ht rfl).run a ha)
 |false=>exact wpIn_cond_false this ((hf rfl).run a ha)
theorem T.dP {c:Operand} {x y:Code} {p:Prop} [Decidable p] (hc:ev L c=some (.bool (decide p))) (ht:p->T P r n x L ds w K) (hf: ¬p->T P r n y L ds w K):
  T P r n (.cond c x y) L ds w K:= .cond hc (λh=>ht (of_decide_eq_true h)) (λh=>hf (of_decide_eq_false h))
theorem T.sh {c:Operand} {x y:Code} (hc:ev L c=some (.bool true)) (ht:T P r n x L ds w K):T P r n (.cond c x y) L ds w K:= .cond hc (λ_=>ht) (λh=>by cases h)
theorem T.iff {c:Operand} {x y:Code} (hc:ev L c=some (.bool false)) (hf:T P r n y L ds w K):T P r n (.cond c x y) L ds w K:= .cond hc (λh=>by cases h) (λ_=>hf)
theorem least {σ:Type} (m:σ->Nat) (p:σ->Prop):(∃s,p s)->∃s,p s/\∀s',p s'→m s<=m s':=by
 have key:∀k s,m s=k->p s->∃s,p s/\∀s',p s'→m s<=m s':=by
  intro k
  induction k using Nat.strongRecOn with
  |_ k ih=>
   intro s hs hp;by_cases h:∃s',p s'∧m s'<k
   ·obtain⟨s',Oy,eZ⟩:=h;exact ih (m s') eZ s' G Oy
   ·exact⟨s,hp,λs' Oy=>by
     rcases Nat.lt_or_ge (m s') (m s)with h'|h'
     ·exact absurd ⟨s',Oy,hs▸h'⟩ h
     ·exact h'⟩
 rintro⟨s,hp⟩;exact key _ s G hp
theorem T.loop {σ:Type} {c:Code} (Lf:σ->Sl) (I:σ->World->Prop) (m:σ->Nat) (s0:σ) (hL:Sub (Lf s0) L) (h0:I s0 w)
  (round:∀s w,I s w->T P r n c (Lf s) ds w (wY (λL' nj w'=>nj=ds/\∃s',Sub (Lf s') L'∧I s' w'∧m s'<m s) K)):T P r n (.loop c) L ds w K:=by
 classical
 refine ⟨λa ha=> ?_⟩
 let J:σ->Act->World->Prop:=λs a w=>iS n a (Lf s) ds/\I s w
 let μ:Act->World->Nat:=λa w=>if h:∃s,J s a w then m (Classical.choose (least m (J · a w) h))else 0
 refine wpIn_loop (λa w=>∃s,J s a w) μ ⟨s0,ha.sub hL,h0⟩ ?_;rintro a w hJ;have hc:=Classical.choose_spec (least m (J · a w) hJ);have hμ:μ a w=m (Classical.choose (least m (J · a w) hJ)):=by simp only[μ];rw[dif_pos hJ]
 rw[hμ];generalize Classical.choose (least m (J · a w) hJ)=s at hc;obtain⟨⟨hs,hi⟩,_⟩:=hc;refine wpIn_mono ((round s w hi).run a hs) ?_;rintro e a' w' ⟨L',nj,oz,hK⟩
 cases e with
 |normal=>
  obtain⟨rfl,s',zw,kQ,eZ⟩:=hK;have T6:∃s,J s a' w':=⟨s',oz.sub zw,kQ⟩;refine ⟨T6,?_⟩;have h2:=(Classical.choose_spec (least m (J · a' w') T6)).2 s' ⟨oz.sub zw,kQ⟩;simp only[μ];rw[dif_pos T6];omega
 |exit id=>exact⟨L',nj,oz,hK⟩
 |goto id=>exact⟨L',nj,oz,hK⟩
 |ret=>exact⟨L',nj,oz,hK⟩
 |panic c=>exact⟨L',nj,oz,hK⟩
 |outgrown=>exact⟨L',nj,oz,hK⟩
theorem T.region {id:Nat} {l:List Oper} (h:Rg P r n l.toArray l L ds w K):T P r n (.region id l.toArray false) L ds w K:=
 ⟨λa ha=>wpIn_region_lit (h.run a ha)⟩
variable {ops:Array Oper} {rest:List Oper} {o:Oper}
theorem Rg.nil (h:K .normal L ds w):Rg P r n ops [] L ds w K:=⟨λ_ ha=>wpListIn_nil ⟨L,ds,ha,h⟩⟩
theorem E7 (lU:∀c,o.op≠ .defer c) {a:Act} {next:Act->World->Prop} {Q:Exit->Act->World->Prop}
  (h:o.uponIn (FW r) 0 P a next Q ((execOp a.eval o).run P w)):o.wpIn (FW r) 0 P a w next Q:=
 ⟨λ_ _=>trivial,by rw[Oper.semAt_eq _ _ _ lU];exact h⟩
theorem Rg.op (lU:∀c,o.op≠ .defer c) (hg:o.guard=none) {d:Nat} (hd:o.dst=some d) (XU:Nat.blt d n=true) (v:Value) (w':World)
  (gO:∀ρ:Operand->Value,(∀x u,ev L x=some u->ρ x=u)->(execOp ρ o).run P w= .ok (.value v) w')
  (h:Rg P r n ops rest ((d,v)::L) ds w' K):Rg P r n ops (o::rest) L ds w K:=by
 refine ⟨λa ha=>wpListIn_plain hg λK' Oz=>E7 lU ?_⟩;rw[gO a.eval (λx u hx=>ha.eval hx),Oper.uponIn_value,hd];exact Oz _ _ (h.run _ (ha.put aq7 v))
theorem Rg.Wn (lU:∀c,o.op≠ .defer c) (hg:o.guard=none) (hd:o.dst=none) (w':World)
  (gO:∀ρ:Operand->Value,(∀x u,ev L x=some u->ρ x=u)->(execOp ρ o).run P w= .ok .skip w')
  (h:Rg P r n ops rest L ds w' K):Rg P r n ops (o::rest) L ds w K:=by
 refine ⟨λa ha=>wpListIn_plain hg λK' Oz=>E7 lU ?_⟩;rw[gO a.eval (λx u hx=>ha.eval hx),Oper.uponIn_skip,hd];exact Oz _ _ (h.run _ ha)
def Spec (P:Program) (f:FuncId) (args:Array Value) (w:World) (Q:Value->World->Prop):Prop:=
 Calls P f args w λe w'=>∃v,e= .returned v/\Q v w'
theorem Spec.mono {f:FuncId} {args:Array Value} {Q Q':Value->World->Prop} (h:Spec P f args w Q) (hq:∀v w',Q v w'→Q' v w'):Spec P f args w Q':=
 Calls.mono h λ_ _ ⟨v,he,hv⟩=>⟨v,he,hq _ _ hv⟩
theorem Rg.OA (lU:∀c,o.op≠ .defer c) (hg:o.guard=none) {d:Nat} (hd:o.dst=some d) (XU:Nat.blt d n=true) {f:FuncId} {args:Array Value} {w1:World} {Q:Value->World->Prop}
  (gO:∀ρ:Operand->Value,(∀x u,ev L x=some u->ρ x=u)->(execOp ρ o).run P w= .ok (.enter f args) w1)
  (hs:Spec P f args w1 Q) (h:∀v w',Q v w'→Rg P r n ops rest ((d,v)::L) ds w' K):Rg P r n ops (o::rest) L ds w K:=by
 refine ⟨λa ha=>wpListIn_plain hg λK' Oz=>E7 lU ?_⟩;rw[gO a.eval (λx u hx=>ha.eval hx),Oper.uponIn_enter,hd];refine ⟨λh=>by simp[FW,Fence.wide]at h,?_⟩
 have hc:CallsIn (FW r) (0-1) P f args w1 λe w'=>∃v,e= .returned v/\Q v w':=by
  cases r with
  |none=>exact callsIn_wide.2 hs
  |some l=>exact CallsIn.inRound l (callsIn_wide.2 hs)
 refine hc.mono ?_;rintro e w' ⟨v,rfl,hv⟩;exact Oz _ _ ((h v w' hv).run _ (ha.put aq7 v))
def zx (ops:Array Oper) (j:Nat):Option Nat:=(ops[j]?).bind (·.dst)
theorem zy {a:Act} (ha:iS n a L ds) {j g:Nat} {b:Bool} (hj:zx ops j=some g) (hb:lk L g=some (.bool b)):yielded ops a.tmps j=some b:=by
 unfold yielded;unfold zx at hj;rw[hj];simp[ha.at_ g _ hb]
theorem Rg.XV {g:Nat} {b:Bool} (hb:lk L g=some (.bool b)) (ht:b=true->Rg P r n ops rest ((g,.bool true)::L) ds w K) (hf:b=false->Rg P r n ops rest ((g,.bool false)::L) ds w K):
  Rg P r n ops rest L ds w K:=by
 have key:∀c,b=c->∀t v,lk ((g,.bool c)::L) t=some v->lk L t=some v:=by
  rintro c rfl t v h;simp only[lk]at h
  cases hbq:Nat.beq g t with
  |true=>rw[hbq]at h;simp only[cond_true]at h;rw[<-Nat.eq_of_beq_eq_true hbq,hb];exact h
  |false=>rw[hbq]at h;exact h
 refine ⟨λa ha=> ?_⟩
 cases b with
 |true=>exact(ht rfl).run a ⟨ha.size,ha.defers,λt v h=>ha.at_ t v (key true rfl t v h)⟩
 |false=>exact(hf rfl).run a ⟨ha.size,ha.defers,λt v h=>ha.at_ t v (key false rfl t v h)⟩
theorem Rg.bJ {g:Nat} {p:Prop} [Decidable p] (hb:lk L g=some (.bool (decide p))) (ht:p->Rg P r n ops rest ((g,.bool true)::L) ds w K) (hf: ¬p->Rg P r n ops rest ((g,.bool false)::L) ds w K):
  Rg P r n ops rest L ds w K:= .XV hb (λh=>ht (of_decide_eq_true h)) (λh=>hf (of_decide_eq_false h))
theorem Rg.E8 {g:Nat} {p:Prop} [Decidable p] (hb:lk L g=some (.bool (decide p))) (hp:p) (k:Rg P r n ops rest ((g,.bool true)::L) ds w K):Rg P r n ops rest L ds w K:=
 .bJ hb (λ_=>k) (λh=>absurd hp h)
theorem Rg.qO {g:Nat} {p:Prop} [Decidable p] (hb:lk L g=some (.bool (decide p))) (hp: ¬p) (k:Rg P r n ops rest ((g,.bool false)::L) ds w K):Rg P r n ops rest L ds w K:=
 .bJ hb (λh=>absurd h hp) (λ_=>k)
theorem T.OB {c:Operand} {x y:Code} {p:Prop} [Decidable p] (hc:ev L c=some (.bool (decide p))) (hp:p) (h:T P r n x L ds w K):T P r n (.cond c x y) L ds w K:= .dP hc (λ_=>h) (λh=>absurd hp h)
theorem T.qk {c:Operand} {x y:Code} {p:Prop} [Decidable p] (hc:ev L c=some (.bool (decide p))) (hp: ¬p) (h:T P r n y L ds w K):T P r n (.cond c x y) L ds w K:= .dP hc (λh=>absurd h hp) (λ_=>h)
theorem Rg.aC {dst:Option Nat} {op:Op} {ty:TypeId} {pos:String} {af:Array Edge} {j g:Nat} {b:Bool} (hj:zx ops j=some g) (hb:lk L g=some (.bool b))
  (h:Rg P r n ops ({dst,op,type:=ty,pos,after:=af,guard:=none}::rest) L ds w K):Rg P r n ops ({dst,op,type:=ty,pos,after:=af,guard:=some (j,b)}::rest) L ds w K:=by
 refine ⟨λa ha=> ?_⟩;have h1:=h.run a ha;have hy:=zy ha hj hb;simp only[wpListIn,Region.wanted,if_true]at h1;simp only[wpListIn,Region.wanted,hy,beq_self_eq_true,if_true];exact h1
theorem Rg.bP {d:Nat} {op:Op} {ty:TypeId} {pos:String} {af:Array Edge} {j g:Nat} {b c:Bool} (hj:zx ops j=some g) (hb:lk L g=some (.bool b)) (fw:(b==c)=false)
  (XU:Nat.blt d n=true) (h:Rg P r n ops rest ((d,undef)::L) ds w K):Rg P r n ops ({dst:=some d,op,type:=ty,pos,after:=af,guard:=some (j,c)}::rest) L ds w K:=by
 refine ⟨λa ha=> ?_⟩;have hy:=zy ha hj hb;have XW:b≠c:=by simpa using fw
 simp only[wpListIn,Region.wanted,hy];rw[if_neg (by simpa using XW)];exact⟨λ_ _=>trivial,h.run _ (ha.put aq7 undef)⟩
end
section
variable {P:Program} {r:Option Nat} {n:Nat} {L:Sl} {ds:List Deferred} {w:World} {K:Kt} {ops:Array Oper} {rest:List Oper}
theorem BP {a:Act} (ha:iS n a L ds) {j g:Nat} (hj:zx ops j=some g) (hb:lk L g=some undef):yielded ops a.tmps j=none:=by
 unfold yielded;unfold zx at hj;rw[hj];simp[ha.at_ g _ hb,undef]
theorem Rg.eM {d:Nat} {op:Op} {ty:TypeId} {pos:String} {af:Array Edge} {j g:Nat} {c:Bool} (hj:zx ops j=some g) (hb:lk L g=some undef)
  (XU:Nat.blt d n=true) (h:Rg P r n ops rest ((d,undef)::L) ds w K):Rg P r n ops ({dst:=some d,op,type:=ty,pos,after:=af,guard:=some (j,c)}::rest) L ds w K:=by
 refine ⟨λa ha=> ?_⟩;have hy:=BP ha hj hb;simp only[wpListIn,Region.wanted,hy];rw[if_neg (by simp)];exact⟨λ_ _=>trivial,h.run _ (ha.put aq7 undef)⟩
end
def wZ:Nat->List Value->Sl
 |_,[]=>[]
 |i,v::l=>(i,v)::wZ (i+1) l
theorem Cr (l:List Value):∀(i t:Nat) (v:Value),lk (wZ i l) t=some v->i<=t/\l[t-i]? =some v:=by
 induction l with
 |nil=>intro i t v h;simp[wZ,lk]at h
 |cons u l ih=>
  intro i t v h;simp only[wZ,lk]at h
  cases hb:Nat.beq i t with
  |true=>
   rw[hb]at h;simp only[cond_true]at h;cases h;have:=Nat.eq_of_beq_eq_true hb;subst this;exact⟨Nat.le_refl _,by simp⟩
  |false=>
   rw[hb]at h;obtain⟨h1,h2⟩:=ih (i+1) t v h;refine ⟨by omega,?_⟩;rw[show t-i=(t-(i+1))+1 from by omega];simpa using h2
def yL (P:Program) (fn:Func) (Q:Value->World->Prop):Kt
 |.normal,L,ds,w| .ret,L,ds,w=>ds=[]/\∀a:Act,(∀t v,lk L t=some v->a.tmps[t]? =some v)->∃v,(results fn a.tmps).run P w= .ok v w/\Q v w
 |_,_,_,_=>False
theorem aS {P:Program} {f:FuncId} {fn:Func} {c:Code} {args:List Value} {w:World} {Q:Value->World->Prop} (hf:P.funcs[f]? =some fn) (hb:fn.body=some c) {n:Nat} (hn:fn.ntmps=n)
  (h:T P none n c (wZ 0 args) [] w (yL P fn Q)):Spec P f args.toArray w Q:=by
 refine(callsIn_wide (n:=0)).1 (callsIn_of_wp hf hb trivial ?_);refine wpIn_mono (h.run _ ⟨?_,G,?_⟩) ?_
 ·simp[hn];omega
 ·intro t v ht;obtain⟨_,h2⟩:=Cr args 0 t v ht;simp only[Nat.sub_zero]at h2;have eZ:t<args.length:=(List.getElem?_eq_some_iff.1 h2).1;simp only;rw[Array.getElem?_append_left (by simpa using eZ)];simpa using h2
 ·rintro e a w' ⟨L,ds,ha,hK⟩
  cases e with
  |normal=>obtain⟨h1,h2⟩:=hK;obtain⟨v,h3,h4⟩:=h2 a ha.at_;exact⟨ha.defers.trans h1,v,h3,v,G,h4⟩
  |ret=>obtain⟨h1,h2⟩:=hK;obtain⟨v,h3,h4⟩:=h2 a ha.at_;exact⟨ha.defers.trans h1,v,h3,v,G,h4⟩
  |exit id=>exact hK.elim
  |goto id=>exact hK.elim
  |panic c=>exact hK.elim
  |outgrown=>exact hK.elim
section
variable {P:Program} {fn:Func} {L:Sl} {w:World} {Q:Value->World->Prop}
theorem aP {t:Nat} {v:Value} (hr:fn.results= #[.tmp t]) (hv:lk L t=some v) (h:Q v w):
  yL P fn Q .ret L [] w:=
 ⟨rfl,λa ha=>⟨v,by simp[results,hr,ha t v hv],h⟩⟩
theorem Cs (hr:fn.results= #[]) (h:Q (.tuple #[]) w):
  yL P fn Q .ret L [] w:=
 ⟨rfl,λa ha=>⟨_,by simp[results,hr],h⟩⟩
theorem eS {t u:Nat} {x y:Value} (hr:fn.results= #[.tmp t,.tmp u]) (hx:lk L t=some x) (hy:lk L u=some y) (h:Q (.tuple #[x,y]) w):
  yL P fn Q .ret L [] w:=
 ⟨rfl,λa ha=>⟨_,by simp[results,hr,ha _ _ hx,ha _ _ hy],h⟩⟩
theorem sL {t u s:Nat} {x y z:Value} (hr:fn.results= #[.tmp t,.tmp u,.tmp s]) (hx:lk L t=some x) (hy:lk L u=some y) (hz:lk L s=some z) (h:Q (.tuple #[x,y,z]) w):
  yL P fn Q .ret L [] w:=
 ⟨rfl,λa ha=>⟨_,by simp[results,hr,ha _ _ hx,ha _ _ hy,ha _ _ hz],h⟩⟩
end
section
variable {P:Program} {r:Option Nat} {n:Nat} {L:Sl} {ds:List Deferred} {w:World} {K:Kt} {ops:Array Oper}
theorem Rg.cI {F:Sl->Prop} (h:F L):Rg P r n ops [] L ds w (λe L' nj w'=>e=.normal/\nj=ds/\w'=w/\F L'):=Rg.nil ⟨rfl,rfl,rfl,h⟩
theorem T.aO {id:Nat} {l:List Oper} {y:Code} (h:Rg P r n l.toArray l L ds w (wY (λL ds w=>T P r n y L ds w K) K)):T P r n (.seq (.region id l.toArray false) y) L ds w K:=T.seq (T.region h)
end
end Go.K
namespace Go.K
open Go.RowKit (Below)
abbrev aE:=Nat->Prop
def ar:aE:=λ_=>False
def ins (M:aE) (b:Nat):aE:=λk=>k=b\/M k
def Le (M:aE) (w:World) (M':aE) (w':World):Prop:=∀b,b<w.heap.size->¬M b->¬M' b/\w'.heap[b]? =w.heap[b]?
theorem ae {w:World} {b:Nat} {o:Obj} (h:w.heap[b]? =some o):b<w.heap.size:=(Array.getElem?_eq_some_iff.1 h).1
theorem Le.refl (M:aE) (w:World):Le M w M w:=λ_ _ h=>⟨h,rfl⟩
theorem Le.trans {M1 M2 M3:aE} {w1 w2 w3:World} (h:Le M1 w1 M2 w2) (h':Le M2 w2 M3 w3):Le M1 w1 M3 w3:=λb hb hm=>by
 obtain⟨h1,h2⟩:=h b hb hm
 have Ih:b<w2.heap.size:=by
  have:w1.heap[b]? =some w1.heap[b]:=Array.getElem?_eq_getElem hb;exact ae (h2.trans this)
 obtain⟨h3,h4⟩:=h' b Ih h1;exact⟨h3,h4.trans h2⟩
def Lt (M:aE) (w:World):Prop:=∀b,M b->b<w.heap.size
theorem Lt.none (w:World):Lt ar w:=λ_ h=>h.elim
structure Step (M:aE) (w:World) (M':aE) (w':World) (N:aE):Prop where
 lt:Lt M w->Lt M' w'
 os:w'.os=w.os
 tape:w'.tape=w.tape
 output:w'.output=w.output
 size:w.heap.size<=w'.heap.size
 mem:∀b,b<w.heap.size->(M' b↔M b)
 same:∀b,b<w.heap.size->¬N b->w'.heap[b]? =w.heap[b]?
 sub:∀b,N b->M b
theorem Step.refl (M:aE) (w:World):Step M w M w ar:=⟨id,rfl,rfl,rfl,Nat.le_refl _,λ_ _=>Iff.rfl,λ_ _ _=>rfl,λ_ h=>h.elim⟩
theorem Step.le {M M' N:aE} {w w':World} (h:Step M w M' w' N):Le M w M' w':=λb hb hm=>⟨λzz=>hm ((h.mem b hb).1 zz),h.same b hb λhn=>hm (h.sub b hn)⟩
theorem Step.trans {M1 M2 M3 N N':aE} {w1 w2 w3:World} (h:Step M1 w1 M2 w2 N) (h':Step M2 w2 M3 w3 N') (hN:∀b,b<w1.heap.size->N' b->N b):Step M1 w1 M3 w3 N:=
 ⟨λh0=>h'.lt (h.lt h0),h'.os.trans h.os,h'.tape.trans h.tape,h'.output.trans h.output,Nat.le_trans h.size h'.size,
  λb hb=>(h'.mem b (Nat.lt_of_lt_of_le hb h.size)).trans (h.mem b hb),
  λb hb hn=>(h'.same b (Nat.lt_of_lt_of_le hb h.size) (λh2=>hn (hN b hb h2))).trans (h.same b hb hn),h.sub⟩
theorem Step.av {M1 M2 M3 N:aE} {w1 w2 w3:World} (h:Step M1 w1 M2 w2 N) (h':Step M2 w2 M3 w3 ar):Step M1 w1 M3 w3 N:=h.trans h' λ_ _ h=>h.elim
theorem Step.dF {M M' N N':aE} {w w':World} (h:Step M w M' w' N) (hN:∀b,N b->N' b) (hs:∀b,N' b->M b):Step M w M' w' N':=
 ⟨h.lt,h.os,h.tape,h.output,h.size,h.mem,λb hb hn=>h.same b hb λh2=>hn (hN b h2),hs⟩
theorem Step.any {M M':aE} {w w':World} (h:Step M w M' w' ar) (M1:aE):Step M1 w M1 w' ar:=
 ⟨λh0 b hb=>Nat.lt_of_lt_of_le (h0 b hb) h.size,h.os,h.tape,h.output,h.size,λ_ _=>Iff.rfl,h.same,λ_ h=>h.elim⟩
theorem Step.back {M M' N:aE} {w w':World} (h:Step M w M' w' N):Step M w M w' N:=⟨λh0 b hb=>Nat.lt_of_lt_of_le (h0 b hb) h.size,h.os,h.tape,h.output,h.size,λ_ _=>Iff.rfl,h.same,h.sub⟩
theorem Step.below {M:aE} {M':aE} {w w':World} (h:Step M w M' w' ar):Below w.heap.size w w':=⟨h.os,h.tape,h.output,h.size,λk hk=>h.same k hk λh=>h.elim⟩
theorem Step.ay {M M':aE} {w w':World} (h:Step M w M' w' ar) {b:Nat} {o:Obj} (hb:w.heap[b]? =some o):w'.heap[b]? =some o:=(h.same b (ae hb) λh=>h.elim).trans hb
theorem Step.bL {M M' N:aE} {w w':World} (h:Step M w M' w' N) {b:Nat} {o:Obj} (hb:w.heap[b]? =some o) (hn: ¬N b):w'.heap[b]? =some o:=(h.same b (ae hb) hn).trans hb
theorem Lt.step {M M' N:aE} {w w':World} (h:Lt M w) (s:Step M w M' w' N):Lt M' w':=s.lt h
theorem Le.close {M0 M N:aE} {w0 w:World} (hl:Lt M0 w0) (s:Step M0 w0 M w N):Le M w M0 w:=λb _ hm=>
 ⟨λh0=>hm ((s.mem b (hl b h0)).2 h0),rfl⟩
theorem dL (M:aE) (w:World) (o:Obj):Step M w M (w.alloc o) ar:=
 ⟨λh b hb=>Nat.lt_of_lt_of_le (h b hb) (by simp),rfl,rfl,rfl,by simp,λ_ _=>Iff.rfl,λk hk _=>Below.heap_alloc w o k hk,λ_ h=>h.elim⟩
theorem oA (M:aE) (w:World):Step M w M w.drew ar:=⟨λh=>h,rfl,rfl,rfl,Nat.le_refl _,λ_ _=>Iff.rfl,λ_ _ _=>rfl,λ_ h=>h.elim⟩
theorem Step.own {M M' N:aE} {w w':World} (s:Step M w M' w' N) {b:Nat} (hb:w.heap.size<=b) (BG:b<w'.heap.size):Step M w (ins M' b) w' N:=
 ⟨λh k hk=>by
  rcases hk with rfl|hk
  ·exact BG
  ·exact s.lt h k hk,s.os,s.tape,s.output,s.size,λk hk=>⟨λh=>by
  rcases h with rfl|h
  ·omega
  ·exact(s.mem k hk).1 h,λh=> .inr ((s.mem k hk).2 h)⟩,s.same,s.sub⟩
structure RT (α:Type) where
 n:Nat
 agg:Bool
 R:aE->World->α->List Value->Prop
 len:∀{M w x vs},R M w x vs->vs.length=n
 one:∀{M w x vs},R M w x vs->∀v∈vs,v.oneCell'=true
 le:∀{M w M' w' x vs},Le M w M' w'→R M w x vs->R M' w' x vs
def RT.val {α:Type} (A:RT α) (vs:List Value):Value:=if A.agg then .agg vs.toArray else vs.headD undef
def RT.V {α:Type} (A:RT α) (M:aE) (w:World) (x:α) (v:Value):Prop:=∃vs,A.R M w x vs/\v=A.val vs
theorem RT.V.le {α:Type} {A:RT α} {M M':aE} {w w':World} {x:α} {v:Value} (hl:Le M w M' w') (h:A.V M w x v):A.V M' w' x v:=by
 obtain⟨vs,h1,h2⟩:=h;exact⟨vs,A.le hl h1,h2⟩
def RT.int (k:IntKind):RT Int where
 n:=1
 agg:=false
 R:=λ_ _ x vs=>vs=[.int k x]/\k.min<=x/\x<=k.max
 len:=by rintro _ _ x vs ⟨rfl,_⟩;rfl
 one:=by rintro _ _ x vs ⟨rfl,_⟩ v hv;simp at hv;subst hv;rfl
 le:=λ_ h=>h
def RT.u8:RT UInt8 where
 n:=1
 agg:=false
 R:=λ_ _ x vs=>vs=[.int .u8 x.toNat]
 len:=by rintro _ _ x vs rfl;rfl
 one:=by rintro _ _ x vs rfl v hv;simp at hv;subst hv;rfl
 le:=λ_ h=>h
def RT.bool:RT Bool where
 n:=1
 agg:=false
 R:=λ_ _ x vs=>vs=[.bool x]
 len:=by rintro _ _ x vs rfl;rfl
 one:=by rintro _ _ x vs rfl v hv;simp at hv;subst hv;rfl
 le:=λ_ h=>h
def RT.str:RT (List UInt8) where
 n:=1
 agg:=false
 R:=λ_ _ x vs=>vs=[.string ⟨x.toArray⟩]/\x.length<=140737488355328
 len:=by rintro _ _ x vs ⟨rfl,_⟩;rfl
 one:=by rintro _ _ x vs ⟨rfl,_⟩ v hv;simp at hv;subst hv;rfl
 le:=λ_ h=>h
theorem tD {M M':aE} {w w':World} (hl:Le M w M' w') {b o:Nat} {vs:List Value} (hm: ¬M b) (h:w.rangeAt b o vs):w'.rangeAt b o vs:=by
 intro j v hv;have hc:=h j v hv;have hb:b<w.heap.size:=World.block_lt_of_cell? w ⟨b,o+j,none⟩ hc;rw[World.cell?_of_block (w:=w) (hl b hb hm).2];exact hc
def xc {α:Type} (A:RT α) (M:aE) (w:World) (a:Option Addr) (xs:List α):Prop:=
 xs=[]\/∃b o,a=some ⟨b,o,none⟩/\¬M b/\∀i x,xs[i]? =some x->∃vs,A.R M w x vs/\w.rangeAt b (o+i*A.n) vs
theorem xc.le {α:Type} {A:RT α} {M M':aE} {w w':World} {a:Option Addr} {xs:List α} (hn:0<A.n) (hl:Le M w M' w') (h:xc A M w a xs):xc A M' w' a xs:=by
 rcases h with h|⟨b,o,h1,h2,h3⟩
 ·exact .inl h
 ·cases xs with
  |nil=>exact .inl rfl
  |cons x xs=>
   obtain⟨vs,hv,hr⟩:=h3 0 x rfl;have Dx:0<vs.length:=by rw[A.len hv];exact hn
   have hc:=hr 0 vs[0] (List.getElem?_eq_getElem Dx);have hb:b<w.heap.size:=World.block_lt_of_cell? w _ hc;refine .inr ⟨b,o,h1,(hl b hb h2).1,λi x hi=> ?_⟩;obtain⟨vs,hv,hr⟩:=h3 i x hi;exact⟨vs,A.le hl hv,tD hl h2 hr⟩
def RT.sl {α:Type} (A:RT α) (hn:0<A.n:=by decide):RT (List α) where
 n:=1
 agg:=false
 R:=λM w xs vs=>∃a cap,vs=[.slice a xs.length cap]/\xs.length<=cap/\xs.length<=140737488355328/\xc A M w a xs
 len:=by rintro _ _ x vs ⟨a,cap,rfl,_⟩;rfl
 one:=by rintro _ _ x vs ⟨a,cap,rfl,_⟩ v hv;simp at hv;subst hv;rfl
 le:=by
  rintro M w M' w' xs vs hl ⟨a,cap,h1,h2,h3,h4⟩;exact⟨a,cap,h1,h2,h3,h4.le hn hl⟩
def RT.pair {α β:Type} (A:RT α) (B:RT β):RT (α×β) where
 n:=A.n+B.n
 agg:=true
 R:=λM w x vs=>∃va vb,vs=va++vb/\A.R M w x.1 va/\B.R M w x.2 vb
 len:=by rintro _ _ x vs ⟨va,vb,rfl,h1,h2⟩;rw[List.length_append,A.len h1,B.len h2]
 one:=by
  rintro _ _ x vs ⟨va,vb,rfl,h1,h2⟩ v hv;rcases List.mem_append.1 hv with hv|hv
  ·exact A.one h1 v hv
  ·exact B.one h2 v hv
 le:=by rintro M w M' w' x vs hl ⟨va,vb,h0,h1,h2⟩;exact⟨va,vb,h0,A.le hl h1,B.le hl h2⟩
def RT.XX {α β:Type} (A:RT α) (f:β->α):RT β where
 n:=A.n
 agg:=A.agg
 R:=λM w x vs=>A.R M w (f x) vs
 len:=A.len
 one:=A.one
 le:=A.le
theorem E9 {k:IntKind} {M:aE} {w:World} {x:Int} {v:Value}:(RT.int k).V M w x v↔v= .int k x/\k.min<=x/\x<=k.max:=
 ⟨fun⟨_,⟨h1,h2⟩,h3⟩=>by subst h1;exact⟨h3,h2⟩,fun⟨h1,h2⟩=>⟨_,⟨G,h2⟩,h1⟩⟩
theorem XY {M:aE} {w:World} {x:UInt8} {v:Value}:RT.u8.V M w x v↔v= .int .u8 x.toNat:=⟨fun⟨_,h1,h2⟩=>by cases h1;exact h2,λh=>⟨_,G,h⟩⟩
theorem XZ {M:aE} {w:World} {x:Bool} {v:Value}:RT.bool.V M w x v↔v= .bool x:=⟨fun⟨_,h1,h2⟩=>by cases h1;exact h2,λh=>⟨_,G,h⟩⟩
theorem mj {M:aE} {w:World} {x:List UInt8} {v:Value}:RT.str.V M w x v↔v= .string ⟨x.toArray⟩/\x.length<=140737488355328:=
 ⟨fun⟨_,⟨h1,h2⟩,h3⟩=>by subst h1;exact⟨h3,h2⟩,fun⟨h1,h2⟩=>⟨_,⟨G,h2⟩,h1⟩⟩
theorem iX {α:Type} {A:RT α} {hn:0<A.n} {M:aE} {w:World} {xs:List α} {v:Value}:
  (A.sl hn).V M w xs v↔∃a cap,v= .slice a xs.length cap/\xs.length<=cap/\xs.length<=140737488355328/\xc A M w a xs:=
 ⟨fun⟨_,⟨a,cap,h1,h2⟩,h3⟩=>by subst h1;exact⟨a,cap,h3,h2⟩,fun⟨a,cap,h1,h2⟩=>⟨_,⟨a,cap,G,h2⟩,h1⟩⟩
theorem gC {α:Type} {A:RT α} {hn:0<A.n} {M:aE} {w:World}:(A.sl hn).V M w [] (.slice none 0 0):=iX.2 ⟨none,0,rfl,Nat.zero_le _,Nat.zero_le _,.inl rfl⟩
theorem dW {α:Type} {A:RT α} {hn:0<A.n} {M:aE} {w:World} {xs:List α} {v:Value} (h:(A.sl hn).V M w xs v):xs.length<=140737488355328:=by
 obtain⟨_,_,_,_,h,_⟩:=iX.1 h;exact h
def fY {α:Type} (A:RT α) (M:aE) (w:World):List α->List Value->Prop
 |[],C=>C=[]
 |x::xs,C=>∃vs rest,C=vs++rest/\A.R M w x vs/\fY A M w xs rest
theorem fY.le {α:Type} {A:RT α} {M M':aE} {w w':World} (hl:Le M w M' w'):∀{xs:List α} {C:List Value},fY A M w xs C->fY A M' w' xs C
 |[],_,h=>h
 |_::_,_,⟨vs,rest,h1,h2,h3⟩=>⟨vs,rest,h1,A.le hl h2,fY.le hl h3⟩
theorem fY.length {α:Type} {A:RT α} {M:aE} {w:World}:∀{xs:List α} {C:List Value},fY A M w xs C->C.length=xs.length*A.n
 |[],_,h=>by cases h;simp
 |x::xs,_,⟨vs,rest,h1,h2,h3⟩=>by subst h1;rw[List.length_append,A.len h2,fY.length h3,List.length_cons,Nat.add_mul];omega
theorem fY.one {α:Type} {A:RT α} {M:aE} {w:World}:∀{xs:List α} {C:List Value},fY A M w xs C->∀u∈C,u.oneCell'=true
 |[],_,h,u,hu=>by cases h;cases hu
 |x::xs,_,⟨vs,rest,h1,h2,h3⟩,u,hu=>by
  subst h1;rcases List.mem_append.1 hu with hu|hu
  ·exact A.one h2 u hu
  ·exact fY.one h3 u hu
theorem fY.append {α:Type} {A:RT α} {M:aE} {w:World} {ys:List α} {D:List Value} (hd:fY A M w ys D):∀{xs:List α} {C:List Value},fY A M w xs C->fY A M w (xs++ys) (C++D)
 |[],_,h=>by cases h;simpa using hd
 |_::_,_,⟨vs,rest,h1,h2,h3⟩=>⟨vs,rest++D,by subst h1;simp,h2,fY.append hd h3⟩
theorem fY.at_ {α:Type} {A:RT α} {M:aE} {w:World}:∀{xs:List α} {C:List Value},fY A M w xs C->∀i x,xs[i]? =some x->∃vs,A.R M w x vs/\∀j v,vs[j]? =some v->C[i*A.n+j]? =some v
 |[],_,_,i,x,hi=>by simp at hi
 |y::xs,_,⟨vs,rest,h1,h2,h3⟩,0,x,hi=>by
  simp at hi;subst hi;subst h1;refine ⟨vs,h2,λj v hv=> ?_⟩;have hj:j<vs.length:=(List.getElem?_eq_some_iff.1 hv).1;rw[Nat.zero_mul,Nat.zero_add,List.getElem?_append_left hj];exact hv
 |y::xs,_,⟨vs,rest,h1,h2,h3⟩,i+1,x,hi=>by
  subst h1;obtain⟨us,hu,hr⟩:=fY.at_ h3 i x ai7;refine ⟨us,hu,λj v hv=> ?_⟩;have:=hr j v hv;have hl:=A.len h2;rw[List.getElem?_append_right (by rw[hl,Nat.add_mul];omega),hl,Nat.add_mul];rw[show i*A.n+1*A.n+j-A.n=i*A.n+j from by omega];exact this
theorem xc.all {α:Type} {A:RT α} {M:aE} {w:World} {b o:Nat}:∀{xs:List α},(∀i x,xs[i]? =some x->∃vs,A.R M w x vs/\w.rangeAt b (o+i*A.n) vs)->
  ∃C,fY A M w xs C/\w.rangeAt b o C:=by
 intro xs
 induction xs generalizing o with
 |nil=>intro _;exact⟨[],rfl,λj v hv=>by simp at hv⟩
 |cons x xs ih=>
  intro h;obtain⟨vs,hv,hr⟩:=h 0 x rfl
  obtain⟨C,hC,hD⟩:=ih (o:=o+A.n) (λi y hi=>by
   obtain⟨us,hu,hs⟩:=h (i+1) y ai7;refine ⟨us,hu,?_⟩;rw[show o+A.n+i*A.n=o+(i+1)*A.n from by rw[Nat.add_mul];omega];exact hs)
  refine ⟨vs++C,⟨vs,C,G,hv,hC⟩,λj v hj=> ?_⟩;have hl:=A.len hv;rcases Nat.lt_or_ge j vs.length with eZ|nk
  ·rw[List.getElem?_append_left eZ]at hj;have:=hr j v hj;simpa using this
  ·rw[List.getElem?_append_right nk]at hj;have:=hD (j-vs.length) v hj;rw[show o+A.n+(j-vs.length)=o+j from by omega]at this;exact this
structure Own {α:Type} (A:RT α) (e:TypeId) (M:aE) (w:World) (base:Nat) (v:Value) (xs:List α):Prop where
 row:∃C,w.ownsRow base e A.n v xs.length C/\fY A M w xs C
 mut_:∀b,v.ownBlock=some b->M b
theorem Own.nil {α:Type} (A:RT α) (e:TypeId) (M:aE) (w:World) (base:Nat):Own A e M w base (.slice none 0 0) []:=
 ⟨⟨[],World.ownsRow_nil w base e A.n,rfl⟩,λb h=>by simp[Value.ownBlock]at h⟩
theorem Own.isSlice {α:Type} {A:RT α} {e:TypeId} {M:aE} {w:World} {base:Nat} {v:Value} {xs:List α} (h:Own A e M w base v xs):∃a cap,v= .slice a xs.length cap/\xs.length<=cap:=by
 obtain⟨⟨C,hr,_⟩,_⟩:=h;rcases hr.2 with⟨h1,h2⟩|⟨g,cap,cur,h1,_,_,h4,_⟩
 ·exact⟨none,0,by rw[h1,h2],by omega⟩
 ·exact⟨_,cap,h1,h4⟩
theorem Own.base {α:Type} {A:RT α} {e:TypeId} {M:aE} {w:World} {base:Nat} {v:Value} {xs:List α} (h:Own A e M w base v xs):∀b,v.ownBlock=some b->base<=b/\b<w.heap.size:=by
 obtain⟨⟨C,hr,_⟩,_⟩:=h;exact hr.lt
theorem Own.step {α:Type} {A:RT α} {e:TypeId} {M M' N:aE} {w w':World} {base:Nat} {v:Value} {xs:List α} (h:Own A e M w base v xs) (s:Step M w M' w' N)
  (hn:∀b,v.ownBlock=some b->¬N b):Own A e M' w' base v xs:=by
 obtain⟨⟨C,hr,ha⟩,hm⟩:=h;refine⟨⟨C,⟨hr.1,?_⟩,ha.le s.le⟩,λb hb=>(s.mem b (hr.lt b hb).2).2 (hm b hb)⟩;rcases hr.2 with h1|⟨g,cap,cur,h1,h2,h3,h4⟩
 ·exact .inl h1
 ·exact .inr ⟨g,cap,cur,h1,h2,s.bL h3 (hn g (by rw[h1];rfl)),h4⟩
theorem Own.bD {α:Type} {A:RT α} {e:TypeId} {M M':aE} {w w':World} {base:Nat} {v:Value} {xs:List α} (h:Own A e M w base v xs) (s:Step M w M' w' ar):Own A e M' w' base v xs:=h.step s λ_ _ h=>h
theorem Own.sl {α:Type} {A:RT α} {hn:0<A.n} {e:TypeId} {M:aE} {w:World} {base:Nat} {v:Value} {xs:List α} (h:Own A e M w base v xs) {M0:aE} (hle:Le M w M0 w)
  (hb:∀b,v.ownBlock=some b->¬M0 b) (hlen:xs.length<=140737488355328):(A.sl hn).V M0 w xs v:=by
 obtain⟨⟨C,hr,ha⟩,hm⟩:=h;rcases hr.2 with⟨h1,h2⟩|⟨g,cap,cur,h1,h2,h3,h4,h5,h6,h7⟩
 ·have:xs=[]:=List.eq_nil_of_length_eq_zero h2;subst this;subst h1;exact gC
 ·subst h1;refine iX.2 ⟨_,cap,G,h4,hlen,.inr ⟨g,0,G,hb g G,λi x hi=>?_⟩⟩;obtain⟨vs,hv,hj⟩:=ha.at_ i x hi;refine ⟨vs,A.le hle hv,λj u hu=> ?_⟩;have h8:=hj j u hu;rw[<-h7,List.getElem?_take]at h8
  split at h8
  ·simp only[World.cell?,h3];simpa using h8
  ·cases h8
theorem Own.close {α:Type} {A:RT α} {hn:0<A.n} {e:TypeId} {M0 M N:aE} {w0 w:World} {v:Value} {xs:List α} (hl:Lt M0 w0) (s:Step M0 w0 M w N) (h:Own A e M w w0.heap.size v xs)
  (hlen:xs.length<=140737488355328):(A.sl hn).V M0 w xs v:=
 h.sl (Le.close hl s) (λb hb h0=>by have:=(h.base b hb).1;have:=hl b h0;omega) hlen
def TI (P:Program) (t:TypeId) (z:Value) (size bytes:Nat):Prop:=(P.info? t).map (λi=>(i.zero,i.size,i.bytes))=some (some z,size,bytes)
theorem TI.get {P:Program} {t:TypeId} {z:Value} {size bytes:Nat} (h:TI P t z size bytes):∃i,P.info? t=some i/\i.zero=some z/\i.size=size/\i.bytes=bytes:=by
 unfold TI at h
 cases hi:P.info? t with
 |none=>simp[hi]at h
 |some i=>simp[hi]at h;exact⟨i,G,h.1,h.2.1,h.2.2⟩
theorem TI.sizeOf {P:Program} {t:TypeId} {z:Value} {size bytes:Nat} (h:TI P t z size bytes) (w:World):(Go.sizeOf t).run P w= .ok size w:=by
 obtain⟨i,h1,h2,h3,h4⟩:=h.get;simp[Go.sizeOf,typeInfo,h1,h3]
end Go.K
namespace Go.K
theorem b4 {M:aE} {w:World}:Le M w M w:=Le.refl M w
theorem aV {M:aE} {w:World}:Step M w M w ar:=Step.refl M w
section
variable {P:Program} {r:Option Nat} {n:Nat} {L:Sl} {ds:List Deferred} {w:World} {K:Kt} {ops:Array Oper} {rest:List Oper}
variable {d:Nat} {ty:TypeId} {pos:String} {af:Array Edge} {x y z:Operand}
theorem Rg.eqv {d:Nat} {v v':Value} (h:v=v') (k:Rg P r n ops rest ((d,v')::L) ds w K):Rg P r n ops rest ((d,v)::L) ds w K:=by subst h;exact k
theorem Rg.move {v:Value} (hx:ev L x=some v) (hd:Nat.blt d n=true) (k:Rg P r n ops rest ((d,v)::L) ds w K):
  Rg P r n ops ({dst:=some d,op:= .move x,type:=ty,pos,after:=af,guard:=none}::rest) L ds w K:=
 .op a06 rfl rfl hd v w (λρ h=>by simp only[execOp];rw[h x v hx];simp) k
theorem Rg.assign {v:Value} (hx:ev L x=some v) (hd:Nat.blt d n=true) (k:Rg P r n ops rest ((d,v)::L) ds w K):
  Rg P r n ops ({dst:=some d,op:= .assign x,type:=ty,pos,after:=af,guard:=none}::rest) L ds w K:=
 .op a06 rfl rfl hd v w (λρ h=>by simp only[execOp];rw[h x v hx];simp) k
theorem Rg.cn {v:Value} (hx:ev L x=some (.bool true)) (hy:ev L y=some v) (hd:Nat.blt d n=true) (k:Rg P r n ops rest ((d,v)::L) ds w K):
  Rg P r n ops ({dst:=some d,op:= .pick x y z,type:=ty,pos,after:=af,guard:=none}::rest) L ds w K:=
 .op a06 rfl rfl hd v w (λρ h=>by simp only[execOp];rw[h x _ hx,h y v hy];simp[asBool]) k
theorem Rg.bE {v:Value} (hx:ev L x=some (.bool false)) (hz:ev L z=some v) (hd:Nat.blt d n=true) (k:Rg P r n ops rest ((d,v)::L) ds w K):
  Rg P r n ops ({dst:=some d,op:= .pick x y z,type:=ty,pos,after:=af,guard:=none}::rest) L ds w K:=
 .op a06 rfl rfl hd v w (λρ h=>by simp only[execOp];rw[h x _ hx,h z v hz];simp[asBool]) k
theorem Rg.not {b:Bool} {xt:TypeId} (hx:ev L x=some (.bool b)) (hd:Nat.blt d n=true) (k:Rg P r n ops rest ((d,.bool (!b))::L) ds w K):
  Rg P r n ops ({dst:=some d,op:= .unOp .not xt x,type:=ty,pos,after:=af,guard:=none}::rest) L ds w K:=
 .op a06 rfl rfl hd _ w (λρ h=>by simp only[execOp];rw[h x _ hx];simp[Op.unary]) k
theorem T7 {op:BinOp} {k:IntKind} {p q:Int} {t:TypeId} {x y:Operand} {v:Value} {s:Sem Value} (hs:binOp op t (.int k p) (.int k q)=s) (hr:s.run P w= .ok v w):
  Sem.run P (do eqGuard op t x y (.int k p) (.int k q);binOp op t (.int k p) (.int k q)) w= .ok v w:=by
 rw[hs];have:(eqGuard op t x y (.int k p) (.int k q)).run P w= .ok () w:=by unfold eqGuard;cases op<;>simp
 simp[Sem.run_bind,this,hr]
theorem Rg.bin {op:BinOp} {t t':TypeId} {k:IntKind} {p q:Int} {v:Value} (hx:ev L x=some (.int k p)) (hy:ev L y=some (.int k q)) (hd:Nat.blt d n=true)
  (hr:(binOp op t (.int k p) (.int k q)).run P w= .ok v w) (kk:Rg P r n ops rest ((d,v)::L) ds w K):
  Rg P r n ops ({dst:=some d,op:= .binOp op t x y t',type:=ty,pos,after:=af,guard:=none}::rest) L ds w K:=
 .op a06 rfl rfl hd v w (λρ h=>by
  simp only[execOp];rw[h x _ hx,h y _ hy,Sem.run_bind,T7 rfl hr];simp) kk
theorem Rg.cP {t t':TypeId} {p q:Int} (hx:ev L x=some (.int .i64 p)) (hy:ev L y=some (.int .i64 q)) (hd:Nat.blt d n=true)
  (hb: -9223372036854775808<=p+q/\p+q<=9223372036854775807) (k:Rg P r n ops rest ((d,.int .i64 (p+q))::L) ds w K):
  Rg P r n ops ({dst:=some d,op:= .binOp .add t x y t',type:=ty,pos,after:=af,guard:=none}::rest) L ds w K:=
 .bin hx hy hd ao9 k
theorem Rg.lV {t t':TypeId} {p q:Int} (hx:ev L x=some (.int .i64 p)) (hy:ev L y=some (.int .i64 q)) (hd:Nat.blt d n=true)
  (hb: -9223372036854775808<=p-q/\p-q<=9223372036854775807) (k:Rg P r n ops rest ((d,.int .i64 (p-q))::L) ds w K):
  Rg P r n ops ({dst:=some d,op:= .binOp .sub t x y t',type:=ty,pos,after:=af,guard:=none}::rest) L ds w K:=
 .bin hx hy hd ao9 k
theorem Rg.X0 {t t':TypeId} {p q:Int} (hx:ev L x=some (.int .i64 p)) (hy:ev L y=some (.int .i64 q)) (hd:Nat.blt d n=true)
  (hb: -9223372036854775808<=p*q/\p*q<=9223372036854775807) (k:Rg P r n ops rest ((d,.int .i64 (p*q))::L) ds w K):
  Rg P r n ops ({dst:=some d,op:= .binOp .mul t x y t',type:=ty,pos,after:=af,guard:=none}::rest) L ds w K:=
 .bin hx hy hd ao9 k
theorem Rg.qP {t t':TypeId} {κ:IntKind} {p q:Int} (hx:ev L x=some (.int κ p)) (hy:ev L y=some (.int κ q)) (hd:Nat.blt d n=true)
  (k:Rg P r n ops rest ((d,.int κ (κ.wrap (p+q)))::L) ds w K):
  Rg P r n ops ({dst:=some d,op:= .binOp .add t x y t',type:=ty,pos,after:=af,guard:=none}::rest) L ds w K:= .bin hx hy hd (by simp[binOp,Op.intArith]) k
theorem Rg.X1 {t t':TypeId} {κ:IntKind} {p q:Int} (hx:ev L x=some (.int κ p)) (hy:ev L y=some (.int κ q)) (hd:Nat.blt d n=true)
  (k:Rg P r n ops rest ((d,.int κ (κ.wrap (p-q)))::L) ds w K):
  Rg P r n ops ({dst:=some d,op:= .binOp .sub t x y t',type:=ty,pos,after:=af,guard:=none}::rest) L ds w K:= .bin hx hy hd (by simp[binOp,Op.intArith]) k
theorem Rg.ajq {t t':TypeId} {κ:IntKind} {p q:Int} (hx:ev L x=some (.int κ p)) (hy:ev L y=some (.int κ q)) (hd:Nat.blt d n=true)
  (k:Rg P r n ops rest ((d,.int κ (κ.wrap (p*q)))::L) ds w K):
  Rg P r n ops ({dst:=some d,op:= .binOp .mul t x y t',type:=ty,pos,after:=af,guard:=none}::rest) L ds w K:= .bin hx hy hd (by simp[binOp,Op.intArith]) k
theorem Rg.zA {t t':TypeId} {p q:Int} (hx:ev L x=some (.int .i64 p)) (hy:ev L y=some (.int .i64 q)) (hd:Nat.blt d n=true)
  (hb:0<=p/\p<=9223372036854775807/\1<=q) (k:Rg P r n ops rest ((d,.int .i64 (p/q))::L) ds w K):
  Rg P r n ops ({dst:=some d,op:= .binOp .quo t x y t',type:=ty,pos,after:=af,guard:=none}::rest) L ds w K:=
 .bin hx hy hd (by simp[binOp,Op.intDiv,show q≠0 from by omega,IntWalk.i64_quo p q hb]) k
theorem Rg.zB {t t':TypeId} {κ:IntKind} {p q:Int} (hx:ev L x=some (.int κ p)) (hy:ev L y=some (.int κ q)) (hd:Nat.blt d n=true)
  (hb:0<=p/\1<=q) (k:Rg P r n ops rest ((d,.int κ (p%q))::L) ds w K):
  Rg P r n ops ({dst:=some d,op:= .binOp .rem t x y t',type:=ty,pos,after:=af,guard:=none}::rest) L ds w K:=
 .bin hx hy hd (by simp[binOp,Op.intDiv,show q≠0 from by omega,IntWalk.rem_in p q hb.1]) k
theorem Rg.shr {t t':TypeId} {κ κ':IntKind} {p q:Int} (hx:ev L x=some (.int κ p)) (hy:ev L y=some (.int κ' q)) (hd:Nat.blt d n=true) (hq:0<=q)
  (k:Rg P r n ops rest ((d,.int κ (p.fdiv (2^min q.toNat κ.bits)))::L) ds w K):
  Rg P r n ops ({dst:=some d,op:= .binOp .shr t x y t',type:=ty,pos,after:=af,guard:=none}::rest) L ds w K:=
 .op a06 rfl rfl hd _ w (λρ h=>by
  simp only[execOp];rw[h x _ hx,h y _ hy];simp[eqGuard,binOp,Op.shift,show¬q<0 from by omega]) k
theorem Rg.shl {t t':TypeId} {κ κ':IntKind} {p q:Int} (hx:ev L x=some (.int κ p)) (hy:ev L y=some (.int κ' q)) (hd:Nat.blt d n=true) (hq:0<=q)
  (k:Rg P r n ops rest ((d,.int κ (κ.wrap (p*2^min q.toNat κ.bits)))::L) ds w K):
  Rg P r n ops ({dst:=some d,op:= .binOp .shl t x y t',type:=ty,pos,after:=af,guard:=none}::rest) L ds w K:=
 .op a06 rfl rfl hd _ w (λρ h=>by
  simp only[execOp];rw[h x _ hx,h y _ hy];simp[eqGuard,binOp,Op.shift,show¬q<0 from by omega]) k
theorem Rg.and {t t':TypeId} {κ:IntKind} {p q:Int} (hx:ev L x=some (.int κ p)) (hy:ev L y=some (.int κ q)) (hd:Nat.blt d n=true)
  (k:Rg P r n ops rest ((d,.int κ (κ.wrap (BitVec.ofInt κ.bits p&&&BitVec.ofInt κ.bits q).toNat))::L) ds w K):
  Rg P r n ops ({dst:=some d,op:= .binOp .and t x y t',type:=ty,pos,after:=af,guard:=none}::rest) L ds w K:= .bin hx hy hd (by simp[binOp,Op.intBits]) k
theorem Rg.or {t t':TypeId} {κ:IntKind} {p q:Int} (hx:ev L x=some (.int κ p)) (hy:ev L y=some (.int κ q)) (hd:Nat.blt d n=true)
  (k:Rg P r n ops rest ((d,.int κ (κ.wrap (BitVec.ofInt κ.bits p|||BitVec.ofInt κ.bits q).toNat))::L) ds w K):
  Rg P r n ops ({dst:=some d,op:= .binOp .or t x y t',type:=ty,pos,after:=af,guard:=none}::rest) L ds w K:= .bin hx hy hd (by simp[binOp,Op.intBits]) k
theorem Rg.xor {t t':TypeId} {κ:IntKind} {p q:Int} (hx:ev L x=some (.int κ p)) (hy:ev L y=some (.int κ q)) (hd:Nat.blt d n=true)
  (k:Rg P r n ops rest ((d,.int κ (κ.wrap (BitVec.ofInt κ.bits p^^^BitVec.ofInt κ.bits q).toNat))::L) ds w K):
  Rg P r n ops ({dst:=some d,op:= .binOp .xor t x y t',type:=ty,pos,after:=af,guard:=none}::rest) L ds w K:= .bin hx hy hd (by simp[binOp,Op.intBits]) k
theorem Rg.andNot {t t':TypeId} {κ:IntKind} {p q:Int} (hx:ev L x=some (.int κ p)) (hy:ev L y=some (.int κ q)) (hd:Nat.blt d n=true)
  (k:Rg P r n ops rest ((d,.int κ (κ.wrap (BitVec.ofInt κ.bits p&&& ~~~ BitVec.ofInt κ.bits q).toNat))::L) ds w K):
  Rg P r n ops ({dst:=some d,op:= .binOp .andNot t x y t',type:=ty,pos,after:=af,guard:=none}::rest) L ds w K:= .bin hx hy hd (by simp[binOp,Op.intBits]) k
theorem Rg.qI {t t':TypeId} {κ:IntKind} {p q:Int} (hx:ev L x=some (.int κ p)) (hy:ev L y=some (.int κ q)) (hd:Nat.blt d n=true)
  (k:Rg P r n ops rest ((d,.bool (decide (p=q)))::L) ds w K):
  Rg P r n ops ({dst:=some d,op:= .binOp .eql t x y t',type:=ty,pos,after:=af,guard:=none}::rest) L ds w K:=
 .bin hx hy hd (by simp[binOp,Op.intCmp];rfl) k
theorem Rg.lN {t t':TypeId} {κ:IntKind} {p q:Int} (hx:ev L x=some (.int κ p)) (hy:ev L y=some (.int κ q)) (hd:Nat.blt d n=true)
  (k:Rg P r n ops rest ((d,.bool (decide (p≠q)))::L) ds w K):
  Rg P r n ops ({dst:=some d,op:= .binOp .neq t x y t',type:=ty,pos,after:=af,guard:=none}::rest) L ds w K:=
 .bin hx hy hd (by simp[binOp,Op.intCmp];by_cases h:p=q<;>simp[h]) k
theorem Rg.fQ {t t':TypeId} {κ:IntKind} {p q:Int} (hx:ev L x=some (.int κ p)) (hy:ev L y=some (.int κ q)) (hd:Nat.blt d n=true)
  (k:Rg P r n ops rest ((d,.bool (decide (p<q)))::L) ds w K):
  Rg P r n ops ({dst:=some d,op:= .binOp .lss t x y t',type:=ty,pos,after:=af,guard:=none}::rest) L ds w K:= .bin hx hy hd (by simp[binOp,Op.intCmp]) k
theorem Rg.ql {t t':TypeId} {κ:IntKind} {p q:Int} (hx:ev L x=some (.int κ p)) (hy:ev L y=some (.int κ q)) (hd:Nat.blt d n=true)
  (k:Rg P r n ops rest ((d,.bool (decide (p<=q)))::L) ds w K):
  Rg P r n ops ({dst:=some d,op:= .binOp .leq t x y t',type:=ty,pos,after:=af,guard:=none}::rest) L ds w K:= .bin hx hy hd (by simp[binOp,Op.intCmp]) k
theorem Rg.rM {t t':TypeId} {κ:IntKind} {p q:Int} (hx:ev L x=some (.int κ p)) (hy:ev L y=some (.int κ q)) (hd:Nat.blt d n=true)
  (k:Rg P r n ops rest ((d,.bool (decide (q<p)))::L) ds w K):
  Rg P r n ops ({dst:=some d,op:= .binOp .gtr t x y t',type:=ty,pos,after:=af,guard:=none}::rest) L ds w K:= .bin hx hy hd (by simp[binOp,Op.intCmp]) k
theorem Rg.kB {t t':TypeId} {κ:IntKind} {p q:Int} (hx:ev L x=some (.int κ p)) (hy:ev L y=some (.int κ q)) (hd:Nat.blt d n=true)
  (k:Rg P r n ops rest ((d,.bool (decide (q<=p)))::L) ds w K):
  Rg P r n ops ({dst:=some d,op:= .binOp .geq t x y t',type:=ty,pos,after:=af,guard:=none}::rest) L ds w K:= .bin hx hy hd (by simp[binOp,Op.intCmp]) k
theorem Rg.bne {t t':TypeId} {p q:Bool} (ht:P.underlying t=some .bool) (hx:ev L x=some (.bool p)) (hy:ev L y=some (.bool q)) (hd:Nat.blt d n=true)
  (k:Rg P r n ops rest ((d,.bool (decide (p≠q)))::L) ds w K):
  Rg P r n ops ({dst:=some d,op:= .binOp .neq t x y t',type:=ty,pos,after:=af,guard:=none}::rest) L ds w K:=
 .op a06 rfl rfl hd _ w (λρ h=>by
  have h1:=run_neq_bool (P:=P) w t p q ht;have h2:(!(p==q))=decide (p≠q):=by cases p<;>cases q<;>rfl
  rw[h2]at h1;simp only[execOp];rw[h x _ hx,h y _ hy,Sem.run_bind,Sem.run_bind];simp[eqGuard,h1]) k
theorem Rg.conv {s t:TypeId} {κ κ':IntKind} {p:Int} {u:TypeDesc} (hs:P.underlying s=some u) (ht:P.underlying t=some (.int κ')) (hx:ev L x=some (.int κ p)) (hd:Nat.blt d n=true)
  (k:Rg P r n ops rest ((d,.int κ' (κ'.wrap p))::L) ds w K):
  Rg P r n ops ({dst:=some d,op:= .convert s t x,type:=ty,pos,after:=af,guard:=none}::rest) L ds w K:=
 .op a06 rfl rfl hd _ w (λρ h=>by
  simp only[execOp];rw[h x _ hx];simp[convert,run_underlying hs,run_underlying ht,Conv.intToInt]) k
theorem Rg.tF {s t:TypeId} {κ:IntKind} {p:Int} {u:TypeDesc} (hs:P.underlying s=some u) (ht:P.underlying t=some (.int .i64)) (hx:ev L x=some (.int κ p)) (hd:Nat.blt d n=true)
  (hb: -9223372036854775808<=p/\p<=9223372036854775807) (k:Rg P r n ops rest ((d,.int .i64 p)::L) ds w K):
  Rg P r n ops ({dst:=some d,op:= .convert s t x,type:=ty,pos,after:=af,guard:=none}::rest) L ds w K:=
 .conv hs ht hx hd (by rw[IntWalk.i64_in _ hb];exact k)
theorem Rg.min2 {LS:Array TypeId} {κ κ':IntKind} {p q:Int} (hx:ev L x=some (.int κ p)) (hy:ev L y=some (.int κ' q)) (hd:Nat.blt d n=true)
  (k:Rg P r n ops rest ((d,.int κ (min p q))::L) ds w K):
  Rg P r n ops ({dst:=some d,op:= .call {callee:= .builtin .min,args:= #[x,y],argTypes:=LS},type:=ty,pos,after:=af,guard:=none}::rest) L ds w K:=
 .op a06 rfl rfl hd _ w (λρ h=>by
  simp only[execOp,resolve,List.map_toArray,List.map_cons,List.map_nil,h x _ hx,h y _ hy];simp[invoke,builtin,Builtin.min_,Builtin.min2];rw[Int.min_def];split<;>split<;>omega) k
theorem Rg.max2 {LS:Array TypeId} {κ κ':IntKind} {p q:Int} (hx:ev L x=some (.int κ p)) (hy:ev L y=some (.int κ' q)) (hd:Nat.blt d n=true)
  (k:Rg P r n ops rest ((d,.int κ (max p q))::L) ds w K):
  Rg P r n ops ({dst:=some d,op:= .call {callee:= .builtin .max,args:= #[x,y],argTypes:=LS},type:=ty,pos,after:=af,guard:=none}::rest) L ds w K:=
 .op a06 rfl rfl hd _ w (λρ h=>by
  simp only[execOp,resolve,List.map_toArray,List.map_cons,List.map_nil,h x _ hx,h y _ hy];simp[invoke,builtin,Builtin.max_,Builtin.max2];rw[Int.max_def];split<;>split<;>omega) k
theorem Rg.extract {vs:Array Value} {i:Nat} {v:Value} (hx:ev L x=some (.tuple vs)) (hv:vs[i]? =some v) (hd:Nat.blt d n=true) (k:Rg P r n ops rest ((d,v)::L) ds w K):
  Rg P r n ops ({dst:=some d,op:= .extract x i,type:=ty,pos,after:=af,guard:=none}::rest) L ds w K:=
 .op a06 rfl rfl hd v w (λρ h=>by simp only[execOp];rw[h x _ hx];simp[Instr.extract,hv]) k
theorem Rg.cA {t e:TypeId} {α:Type} {A:RT α} {hn:0<A.n} {M:aE} {w1:World} {xs:List α} {v:Value} (ht:P.underlying t=some (.slice e)) (hx:ev L x=some v) (hv:(A.sl hn).V M w1 xs v) (hd:Nat.blt d n=true)
  (k:Rg P r n ops rest ((d,.int .i64 xs.length)::L) ds w K):
  Rg P r n ops ({dst:=some d,op:= .call {callee:= .builtin .len,args:= #[x],argTypes:= #[t]},type:=ty,pos,after:=af,guard:=none}::rest) L ds w K:=by
 obtain⟨a,cap,rfl,_⟩:=iX.1 hv
 exact .op a06 G G hd _ w (λρ h=>by
  simp only[execOp,resolve,List.map_toArray,List.map_cons,List.map_nil,h x _ hx];simp[invoke,builtin,Builtin.len_,run_underlying ht,goInt]) k
theorem Rg.jz {t e e':TypeId} {α:Type} {A:RT α} {M:aE} {w1:World} {base:Nat} {xs:List α} {v:Value} (ht:P.underlying t=some (.slice e)) (hx:ev L x=some v) (hv:Own A e' M w1 base v xs) (hd:Nat.blt d n=true)
  (k:Rg P r n ops rest ((d,.int .i64 xs.length)::L) ds w K):
  Rg P r n ops ({dst:=some d,op:= .call {callee:= .builtin .len,args:= #[x],argTypes:= #[t]},type:=ty,pos,after:=af,guard:=none}::rest) L ds w K:=by
 obtain⟨a,cap,rfl,_⟩:=hv.isSlice
 exact .op a06 G G hd _ w (λρ h=>by
  simp only[execOp,resolve,List.map_toArray,List.map_cons,List.map_nil,h x _ hx];simp[invoke,builtin,Builtin.len_,run_underlying ht,goInt]) k
theorem Rg.mq {t:TypeId} {s:ByteArray} (ht:P.underlying t=some .string) (hx:ev L x=some (.string s)) (hd:Nat.blt d n=true)
  (k:Rg P r n ops rest ((d,.int .i64 s.size)::L) ds w K):
  Rg P r n ops ({dst:=some d,op:= .call {callee:= .builtin .len,args:= #[x],argTypes:= #[t]},type:=ty,pos,after:=af,guard:=none}::rest) L ds w K:=
 .op a06 rfl rfl hd _ w (λρ h=>by
  simp only[execOp,resolve,List.map_toArray,List.map_cons,List.map_nil,h x _ hx];simp[invoke,builtin,Builtin.len_,run_underlying ht,goInt]) k
theorem kC (l:List UInt8):(⟨l.toArray⟩:ByteArray).toList=l:=by
 have key:∀(k i:Nat) (acc:List UInt8),i<=l.length->l.length-i=k->ByteArray.toList.loop ⟨l.toArray⟩ i acc=acc.reverse++l.drop i:=by
  intro k
  induction k with
  |zero=>
   intro i acc hi hk;unfold ByteArray.toList.loop;rw[if_neg (by simp[ByteArray.size];omega),List.drop_eq_nil_of_le q0];simp
  |succ k ih=>
   intro i acc hi hk;unfold ByteArray.toList.loop;rw[if_pos (by simp[ByteArray.size];omega),ih (i+1) _ q0 q0];have eZ:i<l.length:=by omega
   rw[List.drop_eq_getElem_cons eZ];simp[ByteArray.get!,getElem!_pos,eZ]
 have:=key l.length 0 [] (Nat.zero_le _) q0;simpa[ByteArray.toList]using this
theorem Rg.cat {t t':TypeId} {p q:List UInt8} (hx:ev L x=some (.string ⟨p.toArray⟩)) (hy:ev L y=some (.string ⟨q.toArray⟩)) (hd:Nat.blt d n=true) (hb:p.length+q.length<=9223372036854775807)
  (k:Rg P r n ops rest ((d,.string ⟨(p++q).toArray⟩)::L) ds w K):
  Rg P r n ops ({dst:=some d,op:= .binOp .add t x y t',type:=ty,pos,after:=af,guard:=none}::rest) L ds w K:=by
 have e:(⟨p.toArray⟩:ByteArray)++⟨q.toArray⟩=⟨(p++q).toArray⟩:=by apply ByteArray.ext;simp
 refine .op a06 G G hd _ w (λρ h=>?_) k;simp only[execOp];rw[h x _ hx,h y _ hy];have: ¬(IntKind.max .i64<((ByteArray.size ⟨p.toArray⟩+ByteArray.size ⟨q.toArray⟩:Nat):Int)):=by simp[ByteArray.size,IntKind.max,IntKind.signed,IntKind.bits];omega
 simp[eqGuard,binOp,Op.stringOp,this,e];simp[ByteArray.size];omega
theorem Rg.zC {t t':TypeId} {p q:List UInt8} (hx:ev L x=some (.string ⟨p.toArray⟩)) (hy:ev L y=some (.string ⟨q.toArray⟩)) (hd:Nat.blt d n=true)
  (k:Rg P r n ops rest ((d,.bool (decide (p=q)))::L) ds w K):
  Rg P r n ops ({dst:=some d,op:= .binOp .eql t x y t',type:=ty,pos,after:=af,guard:=none}::rest) L ds w K:=
 .op a06 rfl rfl hd _ w (λρ h=>by
  simp only[execOp];rw[h x _ hx,h y _ hy];simp[eqGuard,binOp,Op.stringOp,kC];by_cases h:p=q<;>simp[h]) k
theorem Rg.OC {t t':TypeId} {p q:List UInt8} (hx:ev L x=some (.string ⟨p.toArray⟩)) (hy:ev L y=some (.string ⟨q.toArray⟩)) (hd:Nat.blt d n=true)
  (k:Rg P r n ops rest ((d,.bool (decide (p≠q)))::L) ds w K):
  Rg P r n ops ({dst:=some d,op:= .binOp .neq t x y t',type:=ty,pos,after:=af,guard:=none}::rest) L ds w K:=
 .op a06 rfl rfl hd _ w (λρ h=>by
  simp only[execOp];rw[h x _ hx,h y _ hy];simp[eqGuard,binOp,Op.stringOp,kC];by_cases h:p=q<;>simp[h]) k
def T8 (L:Sl):List Operand->Option (List Value)
 |[]=>some []
 |x::xs=>match ev L x,T8 L xs with
  |some v,some vs=>some (v::vs)
  |_,_=>none
theorem rN {L:Sl} {ρ:Operand->Value} (h:∀x u,ev L x=some u->ρ x=u):∀{xs:List Operand} {vs:List Value},T8 L xs=some vs->xs.map ρ=vs
 |[],vs,he=>by simp only[T8]at he;cases he;rfl
 |x::xs,vs,he=>by
  simp only[T8]at he
  split at he
  ·rename_i v us h1 h2
   cases he;simp[h x v h1,rN h h2]
  ·cases he
def Enters (P:Program) (f:FuncId):Prop:=∀args w,(callFunc f args).run P w= .ok (.enter f args) w
theorem enters {f:FuncId} {fn:Func} (hf:P.funcs[f]? =some fn) (hb:fn.body.isNone=false) (hn:(fn.name== "runtime.NumGoroutine")=false):Enters P f:=λargs w=>by
 unfold callFunc;simp only[Sem.run_bind,program,Sem.run,Result.andThen,hf,hn];simp[hb]
theorem Rg.call {f:FuncId} {xs:List Operand} {vs:List Value} {LS:Array TypeId} {Q:Value->World->Prop} (oe:T8 L xs=some vs) (hd:Nat.blt d n=true) (he:Enters P f)
  (hs:Spec P f vs.toArray w Q) (k:∀v w',Q v w'→Rg P r n ops rest ((d,v)::L) ds w' K):
  Rg P r n ops ({dst:=some d,op:= .call {callee:= .value (.func f),args:=xs.toArray,argTypes:=LS},type:=ty,pos,after:=af,guard:=none}::rest) L ds w K:=
 .OA (w1:=w) a06 rfl rfl hd (λρ h=>by
  have h1:=rN h oe;have h2:ρ (.func f)= .func (.func f) #[] #[]:=h _ _ rfl;simp only[execOp,resolve,List.map_toArray,h1,h2];simpa[Deferred.ofValue,invoke]using he _ _) hs k
theorem Rg.lO {f:FuncId} {first captured:List Value} {xs:List Operand} {vs:List Value} {LS:Array TypeId} {Q:Value->World->Prop} (hx:ev L x=some (.func (.func f) first.toArray captured.toArray))
  (oe:T8 L xs=some vs) (hd:Nat.blt d n=true) (he:Enters P f)
  (hs:Spec P f (first++vs++captured).toArray w Q) (k:∀v w',Q v w'→Rg P r n ops rest ((d,v)::L) ds w' K):
  Rg P r n ops ({dst:=some d,op:= .call {callee:= .value x,args:=xs.toArray,argTypes:=LS},type:=ty,pos,after:=af,guard:=none}::rest) L ds w K:=
 .OA (w1:=w) a06 rfl rfl hd (λρ h=>by
  have h1:=rN h oe;simp only[execOp,resolve,List.map_toArray,h1,h x _ hx];simpa[Deferred.ofValue,invoke]using he _ _) hs k
theorem Rg.makeFunc {f:FuncId} {xs ys:List Operand} {vs us:List Value} (oe:T8 L xs=some vs) (EW:T8 L ys=some us) (hd:Nat.blt d n=true)
  (k:Rg P r n ops rest ((d,.func (.func f) vs.toArray us.toArray)::L) ds w K):
  Rg P r n ops ({dst:=some d,op:= .makeFunc (.func f) xs.toArray ys.toArray,type:=ty,pos,after:=af,guard:=none}::rest) L ds w K:=
 .op a06 rfl rfl hd _ w (λρ h=>by
  simp only[execOp,List.map_toArray,rN h oe,rN h EW];simp[Instr.makeFunc]) k
end
theorem Rg.aZ {P:Program} {r:Option Nat} {n:Nat} {L:Sl} {ds:List Deferred} {w:World} {K:Kt} {ops:Array Oper} {d:Nat} {x:Operand} {ty:TypeId} {pos:String} {af:Array Edge} {v:Value} (hx:ev L x=some v) (hd:Nat.blt d n=true) (h:K .normal ((d,v)::L) ds w):Rg P r n ops [{dst:=some d,op:= .assign x,type:=ty,pos,after:=af,guard:=none}] L ds w K:=Rg.assign hx hd (Rg.nil h)
def cG {α:Type} (A:RT α) (M:aE) (w:World) (v:Value) (x:α):Prop:=∃b o vs,v= .pointer (some ⟨b,o,none⟩)/\¬M b/\A.R M w x vs/\w.rangeAt b o vs
theorem cG.le {α:Type} {A:RT α} (hn:0<A.n) {M M':aE} {w w':World} {v:Value} {x:α} (hl:Le M w M' w') (h:cG A M w v x):cG A M' w' v x:=by
 obtain⟨b,o,vs,h1,h2,h3,h4⟩:=h;have hp:0<vs.length:=by rw[A.len h3];exact hn
 have hc:=h4 0 (vs[0]'hp) (List.getElem?_eq_getElem hp);exact⟨b,o,vs,h1,(hl b (World.block_lt_of_cell? w _ hc) h2).1,A.le hl h3,tD hl h2 h4⟩
structure Part {α β:Type} (A:RT α) (B:RT β) (f:α->β) (off:Nat):Prop where
 get:∀{M w x vs},A.R M w x vs->∃a b c,vs=a++b++c/\a.length=off/\B.R M w (f x) b
theorem Part.fst {α β:Type} (A:RT α) (B:RT β):Part (A.pair B) A Prod.fst 0:=⟨λ{_ _ _ _} ⟨va,vb,h0,h1,_⟩=>⟨[],va,vb,by simpa using h0,rfl,h1⟩⟩
theorem Part.snd {α β:Type} (A:RT α) (B:RT β):Part (A.pair B) B Prod.snd A.n:=⟨λ{_ _ _ _} ⟨va,vb,h0,h1,h2⟩=>⟨va,vb,[],by simpa using h0,A.len h1,h2⟩⟩
theorem Part.trans {α β γ:Type} {A:RT α} {B:RT β} {C:RT γ} {f:α->β} {g:β->γ} {i j:Nat} (h:Part A B f i) (h':Part B C g j):Part A C (g∘f) (i+j):=
 ⟨λ{_ _ _ _} hx=>by
  obtain⟨a,b,c,h1,h2,h3⟩:=h.get hx;obtain⟨a',b',c',h4,h5,h6⟩:=h'.get h3;exact⟨a++a',b',c'++c,by rw[h1,h4];simp,by rw[List.length_append,h2,h5],h6⟩⟩
theorem Part.XX {α β γ:Type} {A:RT α} {B:RT γ} {f:α->γ} {i:Nat} (g:β->α) (h:Part A B f i):Part (A.XX g) B (f∘g) i:=⟨λ{_ _ _ _} hx=>h.get hx⟩
theorem cG.part {α β:Type} {A:RT α} {B:RT β} {f:α->β} {off:Nat} (hp:Part A B f off) {M:aE} {w:World} {b o:Nat} {x:α} {vs:List Value} (hm: ¬M b) (hx:A.R M w x vs) (hr:w.rangeAt b o vs):
  cG B M w (.pointer (some ⟨b,o+off,none⟩)) (f x):=by
 obtain⟨a,c,e,h1,h2,h3⟩:=hp.get hx;refine ⟨b,o+off,c,G,hm,h3,λj v hv=> ?_⟩;have hj:j<c.length:=(List.getElem?_eq_some_iff.1 hv).1
 have:=hr (off+j) v (by
  rw[h1,List.append_assoc,List.getElem?_append_right q0,h2,List.getElem?_append_left q0];rw[show off+j-off=j from by omega];exact hv)
 rwa [show o+(off+j)=o+off+j from by omega]at this
def flat:TypeDesc->Bool
 |.struct _| .array _ _=>false
 |_=>true
theorem uO {P:Program} {w:World} {t:TypeId} {u:TypeDesc} (hu:P.underlying t=some u) (hf:flat u=true) {b o:Nat} {v:Value} (hc:w.cell? ⟨b,o,none⟩=some v):
  (Instr.loadAt t (.pointer (some ⟨b,o,none⟩))).run P w= .ok v w:=by
 have OD:(isAgg t).run P w= .ok false w:=by
  unfold isAgg;rw[Sem.run_bind,run_underlying hu w]
  cases u<;>simp_all [flat,Result.andThen]
 simp[Instr.loadAt,Instr.sureAddr,loadVar,OD,load,Sem.run,hc]
theorem BQ {P:Program} {w:World} {t:TypeId} {z:Value} {bytes:Nat} (ht:TI P t z 1 bytes) {b o:Nat} {v:Value} (h1:v.oneCell'=true) (hc:(w.cell? ⟨b,o,none⟩).isSome=true) (hf:w.frozen? ⟨b,o,none⟩=false):
  (Instr.storeAt t (.pointer (some ⟨b,o,none⟩)) v).run P w= .ok () (w.setCell ⟨b,o,none⟩ v):=by
 obtain⟨u,hu⟩:=Option.isSome_iff_exists.1 hc;have hv:v.cells= #[v]:=by cases v<;>simp_all [Value.oneCell',Value.cells]
 simp only[Instr.storeAt,Instr.sureAddr,storeVar,Sem.run_bind,Sem.run_pure,Result.andThen_ok,ht.sizeOf,hv];simp only[List.size_toArray,List.length_cons,List.length_nil,ne_eq,not_true_eq_false,if_false,storeCells,Addr.add_mid]
 cases v<;>simp_all [store,Sem.run,Value.oneCell']
section
variable {P:Program} {r:Option Nat} {n:Nat} {L:Sl} {ds:List Deferred} {w:World} {K:Kt} {ops:Array Oper} {rest:List Oper}
variable {d:Nat} {ty:TypeId} {pos:String} {af:Array Edge} {x y z:Operand} {α:Type} {A:RT α}
theorem Rg.idx {t e:TypeId} {i:Operand} {κ:IntKind} {j:Int} {hn:0<A.n} {M M1:aE} {w1:World} {xs:List α} {v zv:Value} {bytes:Nat} (ht:P.underlying t=some (.slice e)) (hi:TI P e zv A.n bytes)
  (hx:ev L x=some v) (LU:ev L i=some (.int κ j)) (hd:Nat.blt d n=true) (hv:(A.sl hn).V M1 w1 xs v) (hle:Le M1 w1 M w) (hj:0<=j/\j<xs.length)
  (k:∀u a,xs[j.toNat]? =some a->cG A M w u a->Rg P r n ops rest ((d,u)::L) ds w K):
  Rg P r n ops ({dst:=some d,op:= .indexAddr t x i,type:=ty,pos,after:=af,guard:=none}::rest) L ds w K:=by
 obtain⟨a,cap,rfl,hc,hl,hs⟩:=iX.1 (hv.le hle);have eZ:j.toNat<xs.length:=by omega
 rcases hs with rfl|⟨b,o,rfl,hm,zD⟩
 ·simp at eZ
 ·obtain⟨vs,h1,h2⟩:=zD _ _ (List.getElem?_eq_getElem eZ);refine .op a06 G G hd (.pointer (some ⟨b,o+j.toNat*A.n,none⟩)) w (λρ h=>?_) (k _ xs[j.toNat] (List.getElem?_eq_getElem eZ) ⟨b,_,vs,G,hm,h1,h2⟩);simp only[execOp,h x _ hx,h i _ LU];simp[Instr.indexAt,run_underlying ht,asIntOf,hj,hi.sizeOf,Addr.add_mid]
theorem Rg.load {t:TypeId} {u:TypeDesc} {M M1:aE} {w1:World} {p:Value} {a:α} (hu:P.underlying t=some u) (hf:flat u=true) (hA:A.n=1) (hg:A.agg=false)
  (hx:ev L x=some p) (hd:Nat.blt d n=true) (hp:cG A M1 w1 p a) (hle:Le M1 w1 M w) (k:∀v,A.V M w a v->Rg P r n ops rest ((d,v)::L) ds w K):
  Rg P r n ops ({dst:=some d,op:= .load t x,type:=ty,pos,after:=af,guard:=none}::rest) L ds w K:=by
 obtain⟨b,o,vs,rfl,hm,h1,h2⟩:=hp.le q0 hle;have hl:=A.len h1
 match vs,hl with
 |[v],_=>
  refine .op a06 G G hd v w (λρ h=>?_) (k v ⟨[v],h1,by simp[RT.val,hg]⟩);simp only[execOp,h x _ hx];have:=uO (P:=P) hu hf (h2 0 v rfl);simp only[Nat.add_zero]at this;rw[Sem.run_bind,this];simp
 |[],hl=>simp at hl;omega
 |_::_::_,hl=>simp at hl;omega
theorem Rg.T9 {t:TypeId} {κ:IntKind} {M1:aE} {w1:World} {p:Value} {a:Int} (hu:P.underlying t=some (.int κ)) (hx:ev L x=some p) (hd:Nat.blt d n=true) {M:aE} (hp:cG (RT.int κ) M1 w1 p a)
  (hle:Le M1 w1 M w) (k:κ.min<=a->a<=κ.max->Rg P r n ops rest ((d,.int κ a)::L) ds w K):
  Rg P r n ops ({dst:=some d,op:= .load t x,type:=ty,pos,after:=af,guard:=none}::rest) L ds w K:=
 .load hu rfl rfl rfl hx hd hp hle λv hv=>by obtain⟨rfl,h1,h2⟩:=E9.1 hv;exact k h1 h2
theorem iF {hn:0<A.n} {M:aE} {w:World} {xs:List α} {v:Value} (h:(A.sl hn).V M w xs v):v.cells= #[v]:=by
 obtain⟨a,cap,rfl,_⟩:=iX.1 h;rfl
theorem iG {M:aE} {w:World} {x:Int} (h: -9223372036854775808<=x/\x<=9223372036854775807):(RT.int .i64).V M w x (.int .i64 x):=E9.2 ⟨rfl,h.1,h.2⟩
theorem Rg.cC {t:TypeId} {M1:aE} {w1:World} {p:Value} {a:Int} (hu:P.underlying t=some (.int .i64)) (hx:ev L x=some p) (hd:Nat.blt d n=true) {M:aE} (hp:cG (RT.int .i64) M1 w1 p a)
  (hle:Le M1 w1 M w) (k: -9223372036854775808<=a/\a<=9223372036854775807->Rg P r n ops rest ((d,.int .i64 a)::L) ds w K):
  Rg P r n ops ({dst:=some d,op:= .load t x,type:=ty,pos,after:=af,guard:=none}::rest) L ds w K:=
 .T9 hu hx hd hp hle λh1 h2=>k ⟨h1,h2⟩
theorem OE {hn:0<(RT.int .i64).n} {M:aE} {w:World} {xs:List Int} {v:Value} (h:((RT.int .i64).sl hn).V M w xs v) {i:Nat} {x:Int} (hx:xs[i]? =some x): -9223372036854775808<=x/\x<=9223372036854775807:=by
 obtain⟨a,cap,_,_,_,hs⟩:=iX.1 h;rcases hs with rfl|⟨b,o,_,_,zD⟩
 ·simp at hx
 ·obtain⟨vs,h1,_⟩:=zD i x hx;exact⟨h1.2.1,h1.2.2⟩
theorem Rg.X2 {t:TypeId} {M1:aE} {w1:World} {p:Value} {a:UInt8} (hu:P.underlying t=some (.int .u8)) (hx:ev L x=some p) (hd:Nat.blt d n=true) {M:aE} (hp:cG RT.u8 M1 w1 p a)
  (hle:Le M1 w1 M w) (k:Rg P r n ops rest ((d,.int .u8 a.toNat)::L) ds w K):
  Rg P r n ops ({dst:=some d,op:= .load t x,type:=ty,pos,after:=af,guard:=none}::rest) L ds w K:=
 .load hu rfl rfl rfl hx hd hp hle λv hv=>by rw[XY.1 hv];exact k
theorem Rg.cK {t:TypeId} {fs:TypeDesc} {zv:Value} {bytes:Nat} {M M1:aE} {w1:World} {p:Value} {a:α} (hu:P.underlying t=some fs) (hf:fs.isRow=true) (hi:TI P t zv A.n bytes) (hA:0<A.n) (hg:A.agg=true)
  (hx:ev L x=some p) (hd:Nat.blt d n=true) (hp:cG A M1 w1 p a) (hle:Le M1 w1 M w) (k:∀v,A.V M w a v->Rg P r n ops rest ((d,v)::L) ds w K):
  Rg P r n ops ({dst:=some d,op:= .load t x,type:=ty,pos,after:=af,guard:=none}::rest) L ds w K:=by
 obtain⟨b,o,vs,rfl,hm,h1,h2⟩:=hp.le hA hle;refine .op a06 G G hd (.agg vs.toArray) w (λρ h=>?_) (k _ ⟨vs,h1,by simp[RT.val,hg]⟩);simp only[execOp,h x _ hx];obtain⟨i,BH,_,EX,_⟩:=hi.get;have:=run_loadAt_mid (P:=P) w b o t vs fs h2 hu hf (by simp[BH,EX,A.len h1]);simp[this]
theorem Rg.fieldAddr {β:Type} {B:RT β} {f:α->β} {off:Nat} {s:TypeId} {fs:Array Field} {fd:Field} {j:Nat} {zv:Value} {bytes:Nat} {M M1:aE} {w1:World} {p:Value} {a:α}
  (hu:P.underlying s=some (.struct fs)) (hfd:fs[j]? =some fd) (ho:fd.offset=off) (hi:TI P fd.type zv B.n bytes) (hB:0<B.n) (hp:Part A B f off)
  (hx:ev L x=some p) (hd:Nat.blt d n=true) (hA:0<A.n) (hpt:cG A M1 w1 p a) (hle:Le M1 w1 M w) (k:∀u,cG B M w u (f a)->Rg P r n ops rest ((d,u)::L) ds w K):
  Rg P r n ops ({dst:=some d,op:= .fieldAddr s x j,type:=ty,pos,after:=af,guard:=none}::rest) L ds w K:=by
 obtain⟨b,o,vs,rfl,hm,h1,h2⟩:=hpt.le hA hle;refine .op a06 G G hd _ w (λρ h=>?_) (k _ (cG.part hp hm h1 h2));simp only[execOp,h x _ hx];simp[Instr.fieldAt,run_underlying hu,hfd,Instr.sureAddr,fieldPlace,hi.sizeOf,show B.n≠0 from by omega,ho,Addr.add_mid]
theorem xc.slice {M:aE} {w:World} {a:Option Addr} {xs:List α} (lo hi cap m:Nat) (h1:lo<=hi) (h2:hi<=xs.length) (hm:hi<=m) (hs:xc A M w a xs):
  xc A M w (if m=lo then a else a.map (·.add (lo*A.n))) ((xs.take hi).drop lo):=by
 by_cases yM:m=lo
 ·left;apply List.drop_eq_nil_of_le;rw[List.length_take];omega
 ·rw[if_neg yM];rcases hs with rfl|⟨b,o,rfl,h3,h4⟩
  ·left;simp
  ·right;refine ⟨b,o+lo*A.n,by simp[Addr.add_mid],h3,λi x hx=> ?_⟩;rw[List.getElem?_drop,List.getElem?_take]at hx
   split at hx
   ·obtain⟨vs,h5,h6⟩:=h4 _ _ hx;refine ⟨vs,h5,?_⟩;rw[show o+lo*A.n+i*A.n=o+(lo+i)*A.n from by rw[Nat.add_mul];omega];exact h6
   ·cases hx
theorem jn {t e:TypeId} (ht:P.underlying t=some (.slice e)):P.underlying t=some (.slice (P.elem t)):=by simp[Program.elem,ht]
theorem o9 {t e:TypeId} (ht:P.underlying t=some (.slice e)):P.elem t=e:=by simp[Program.elem,ht]
theorem Rg.OF {t e:TypeId} {l h:Operand} {κ κ':IntKind} {lo hi:Int} {hn:0<A.n} {M:aE} {w1:World} {xs:List α} {v zv:Value} {bytes:Nat} (ht:P.underlying t=some (.slice e)) (LV:TI P e zv A.n bytes)
  (hx:ev L x=some v) (hl:ev L l=some (.int κ lo)) (hh:ev L h=some (.int κ' hi)) (hd:Nat.blt d n=true) (hv:(A.sl hn).V M w1 xs v) (hb:0<=lo/\lo<=hi/\hi<=xs.length)
  (k:∀u,(A.sl hn).V M w1 ((xs.take hi.toNat).drop lo.toNat) u->Rg P r n ops rest ((d,u)::L) ds w K):
  Rg P r n ops ({dst:=some d,op:= .slice t x (some l) (some h) none,type:=ty,pos,after:=af,guard:=none}::rest) L ds w K:=by
 obtain⟨a,cap,rfl,hc,hlen,hs⟩:=iX.1 hv;have zE:((xs.take hi.toNat).drop lo.toNat).length=hi.toNat-lo.toNat:=by rw[List.length_drop,List.length_take];omega
 refine .op a06 G G hd (sliced a lo.toNat hi.toNat cap A.n) w (λρ hρ=>?_) (k _ (iX.2 ⟨_,cap-lo.toNat,?_,by omega,by omega,hs.slice lo.toNat hi.toNat cap cap q0 q0 q0⟩))
 ·simp only[execOp,hρ x _ hx,Option.map_some,Option.map_none,hρ l _ hl,hρ h _ hh];rw[Sem.run_bind,run_sliceAt_slice _ _ _ _ _ _ (jn ht),run_slice_lh _ _ _ _ _ (jn ht) _ _ _ _ hb.1 hb.2.1 q0,o9 ht,LV.sizeOf];simp
 ·rw[zE];rfl
theorem Rg.Dy {t e:TypeId} {h:Operand} {κ':IntKind} {hi:Int} {hn:0<A.n} {M:aE} {w1:World} {xs:List α} {v zv:Value} {bytes:Nat} (ht:P.underlying t=some (.slice e)) (LV:TI P e zv A.n bytes)
  (hx:ev L x=some v) (hh:ev L h=some (.int κ' hi)) (hd:Nat.blt d n=true) (hv:(A.sl hn).V M w1 xs v) (hb:0<=hi/\hi<=xs.length)
  (k:∀u,(A.sl hn).V M w1 (xs.take hi.toNat) u->Rg P r n ops rest ((d,u)::L) ds w K):
  Rg P r n ops ({dst:=some d,op:= .slice t x none (some h) none,type:=ty,pos,after:=af,guard:=none}::rest) L ds w K:=by
 obtain⟨a,cap,rfl,hc,hlen,hs⟩:=iX.1 hv;have zE:(xs.take hi.toNat).length=hi.toNat:=by rw[List.length_take];omega
 have pZ:=hs.slice (A:=A) 0 hi.toNat cap cap q0 q0 q0;rw[List.drop_zero]at pZ;refine .op a06 G G hd (sliced a 0 hi.toNat cap A.n) w (λρ hρ=>?_) (k _ (iX.2 ⟨_,cap,?_,by omega,by omega,pZ⟩))
 ·simp only[execOp,hρ x _ hx,Option.map_some,Option.map_none,hρ h _ hh];rw[Sem.run_bind,run_sliceAt_slice _ _ _ _ _ _ (jn ht),run_slice_h _ _ _ _ _ (jn ht) _ _ hb.1 q0,o9 ht,LV.sizeOf];simp
 ·rw[zE];simp[sliced]
theorem Rg.pb {t e:TypeId} {l:Operand} {κ:IntKind} {lo:Int} {hn:0<A.n} {M:aE} {w1:World} {xs:List α} {v zv:Value} {bytes:Nat} (ht:P.underlying t=some (.slice e)) (LV:TI P e zv A.n bytes)
  (hx:ev L x=some v) (hl:ev L l=some (.int κ lo)) (hd:Nat.blt d n=true) (hv:(A.sl hn).V M w1 xs v) (hb:0<=lo/\lo<=xs.length)
  (k:∀u,(A.sl hn).V M w1 (xs.drop lo.toNat) u->Rg P r n ops rest ((d,u)::L) ds w K):
  Rg P r n ops ({dst:=some d,op:= .slice t x (some l) none none,type:=ty,pos,after:=af,guard:=none}::rest) L ds w K:=by
 obtain⟨a,cap,rfl,hc,hlen,hs⟩:=iX.1 hv;have zE:(xs.drop lo.toNat).length=xs.length-lo.toNat:=by rw[List.length_drop]
 have pZ:=hs.slice (A:=A) lo.toNat xs.length cap cap q0 q0 q0;rw[List.take_length]at pZ;refine .op a06 G G hd (sliced a lo.toNat xs.length cap A.n) w (λρ hρ=>?_) (k _ (iX.2 ⟨_,cap-lo.toNat,?_,by omega,by omega,pZ⟩))
 ·simp only[execOp,hρ x _ hx,Option.map_some,Option.map_none,hρ l _ hl];rw[Sem.run_bind,run_sliceAt_slice _ _ _ _ _ _ (jn ht),run_slice_l _ _ _ _ _ (jn ht) _ _ hb.1 q0,o9 ht,LV.sizeOf];simp
 ·rw[zE];rfl
theorem Rg.Ii {t e:TypeId} {h m:Operand} {κ κ':IntKind} {hi mx:Int} {hn:0<A.n} {M:aE} {w1:World} {xs:List α} {v zv:Value} {bytes:Nat} (ht:P.underlying t=some (.slice e)) (LV:TI P e zv A.n bytes)
  (hx:ev L x=some v) (hh:ev L h=some (.int κ hi)) (hm:ev L m=some (.int κ' mx)) (hd:Nat.blt d n=true) (hv:(A.sl hn).V M w1 xs v) (hb:hi=xs.length/\mx=xs.length)
  (k:∀a,(A.sl hn).V M w1 xs (.slice a xs.length xs.length)->(a=none->xs=[])->Rg P r n ops rest ((d,.slice a xs.length xs.length)::L) ds w K):
  Rg P r n ops ({dst:=some d,op:= .slice t x none (some h) (some m),type:=ty,pos,after:=af,guard:=none}::rest) L ds w K:=by
 obtain⟨a,cap,rfl,hc,hlen,hs⟩:=iX.1 hv;obtain⟨rfl,rfl⟩:=hb;refine .op a06 G G hd (.slice a xs.length xs.length) w (λρ hρ=>?_) (k a (iX.2 ⟨_,xs.length,G,Nat.le_refl _,hlen,hs⟩) ?_)
 ·simp only[execOp,hρ x _ hx,Option.map_some,Option.map_none,hρ h _ hh,hρ m _ hm];rw[Sem.run_bind,run_sliceAt_slice _ _ _ _ _ _ (jn ht),run_slice_hm _ _ _ _ _ (jn ht) _ _ _ _ q0 q0 q0,o9 ht,LV.sizeOf];simp only[Result.andThen_ok,sliced,Int.toNat_natCast,Nat.zero_mul,Nat.sub_zero,Sem.run_pure];by_cases h0:xs.length=0
  ·simp[h0]
  ·rw[if_neg h0];rcases hs with rfl|⟨b,o,rfl,_⟩
   ·simp at h0
   ·simp[Addr.add_mid]
 ·rintro rfl;rcases hs with h|⟨b,o,h,_⟩
  ·exact h
  ·cases h
theorem cY (w:World) (o:Obj):(w.alloc o).heap[w.heap.size]? =some o:=heap_alloc_new w o
theorem Rg.box {e:TypeId} {v:Value} (M:aE) (hx:ev L x=some v) (hd:Nat.blt d n=true)
  (k:∀b w',w.heap.size<=b->b<w'.heap.size->w'.heap[b]? =some (.cells v.cells e (0,0))->Step M w (ins M b) w' ar->Rg P r n ops rest ((d,.pointer (some ⟨b,0,none⟩))::L) ds w' K):
  Rg P r n ops ({dst:=some d,op:= .box e x,type:=ty,pos,after:=af,guard:=none}::rest) L ds w K:=by
 refine .op a06 G G hd _ (w.alloc (.cells v.cells e)) (λρ hρ=>?_) (k w.heap.size _ (Nat.le_refl _) (by simp) (cY w _) ((dL M w _).own (Nat.le_refl _) (by simp)));simp only[execOp,hρ x _ hx];simp[Instr.box,newVar,newRow,newObj,Sem.run]
theorem Rg.alloc {e:TypeId} {zv:Value} {size bytes:Nat} (M:aE) (hi:TI P e zv size bytes) (hd:Nat.blt d n=true)
  (k:∀b w',w.heap.size<=b->b<w'.heap.size->w'.heap[b]? =some (.cells zv.cells e (0,0))->Step M w (ins M b) w' ar->Rg P r n ops rest ((d,.pointer (some ⟨b,0,none⟩))::L) ds w' K):
  Rg P r n ops ({dst:=some d,op:= .alloc e,type:=ty,pos,after:=af,guard:=none}::rest) L ds w K:=by
 obtain⟨i,h1,h2,h3,h4⟩:=hi.get;refine .op a06 G G hd _ (w.alloc (.cells zv.cells e)) (λρ hρ=>?_) (k w.heap.size _ (Nat.le_refl _) (by simp) (cY w _) ((dL M w _).own (Nat.le_refl _) (by simp)));simp only[execOp];simp[Instr.alloc,zeroValue,typeInfo,h1,h2,newVar,newRow,newObj,Sem.run]
theorem im {b o:Nat} {cs:Array Value} {e:TypeId} {fr:Nat×Nat} {v:Value} (hb:w.heap[b]? =some (.cells cs e fr)) (hv:cs[o]? =some v):w.cell? ⟨b,o,none⟩=some v:=by
 simp[World.cell?,hb,hv]
theorem Rg.bA {t:TypeId} {u:TypeDesc} {b o:Nat} {cs:Array Value} {e:TypeId} {fr:Nat×Nat} {v:Value} (hu:P.underlying t=some u) (hf:flat u=true) (hx:ev L x=some (.pointer (some ⟨b,o,none⟩))) (hd:Nat.blt d n=true)
  (hb:w.heap[b]? =some (.cells cs e fr)) (hv:cs[o]? =some v) (k:Rg P r n ops rest ((d,v)::L) ds w K):
  Rg P r n ops ({dst:=some d,op:= .load t x,type:=ty,pos,after:=af,guard:=none}::rest) L ds w K:=
 .op a06 rfl rfl hd v w (λρ hρ=>by
  simp only[execOp,hρ x _ hx];rw[Sem.run_bind,uO (P:=P) hu hf (im hb hv)];simp) k
theorem zF {b o:Nat} {cs:Array Value} {e:TypeId} {fr:Nat×Nat} {v:Value} (hb:w.heap[b]? =some (.cells cs e fr)):(w.setCell ⟨b,o,none⟩ v).heap[b]? =some (.cells (cs.setIfInBounds o v) e fr):=by
 simp[World.setCell,Array.getElem?_modify,hb]
theorem uP (M:aE) {b o:Nat} {v:Value} (hm:M b):Step M w M (w.setCell ⟨b,o,none⟩ v) (λk=>k=b):=
 ⟨λh b hb=>by simpa[World.setCell]using h b hb,rfl,rfl,rfl,by simp[World.setCell],λ_ _=>Iff.rfl,λk _ hn=>Go.RowKit.Below.heap_setCell w _ v k hn,λk hk=>by subst hk;exact hm⟩
theorem Rg.cV {t:TypeId} {zv:Value} {bytes:Nat} {b o:Nat} {cs:Array Value} {e:TypeId} {u v:Value} {M:aE} (hi:TI P t zv 1 bytes) (hx:ev L x=some (.pointer (some ⟨b,o,none⟩))) (hy:ev L y=some v)
  (hb:w.heap[b]? =some (.cells cs e (0,0))) (hv:cs[o]? =some u) (h1:v.oneCell'=true) (hm:M b)
  (k:∀w',w'.heap[b]? =some (.cells (cs.setIfInBounds o v) e (0,0))->Step M w M w' (λk=>k=b)->Rg P r n ops rest L ds w' K):
  Rg P r n ops ({dst:=none,op:= .store t x y,type:=ty,pos,after:=af,guard:=none}::rest) L ds w K:=by
 refine .Wn a06 G G (w.setCell ⟨b,o,none⟩ v) (λρ hρ=>?_) (k _ (zF hb) (uP M hm));simp only[execOp,hρ x _ hx,hρ y _ hy];have:=BQ (P:=P) hi (w:=w) (b:=b) (o:=o) h1 (by rw[im hb hv];rfl) (by simp[World.frozen?,hb]);simp[this]
theorem OG (size:Nat) (zs vs:Array Value) (v:Value) (hz:zs.size=size) (hv:v.cells=vs) (hs:vs.size=size):Instr.fill (λi=>some (i*size,size)) zs [(0,v)]=some vs:=by
 simp only[Instr.fill,hv,hs,Nat.zero_mul,Nat.zero_add,hz];simp only[ne_eq,not_true_eq_false,decide_false,Bool.false_or,Nat.lt_irrefl,decide_false,gt_iff_lt,if_false,Bool.false_eq_true];congr 1
 have key:∀(l:List Value) (k:Nat) (cs:Array Value),k+l.length=cs.size->∀j:Nat,((l.zipIdx k).foldl (fun(cs:Array Value) (x:Value×Nat)=>cs.setIfInBounds x.2 x.1) cs)[j]? =if j<k then cs[j]? else l[j-k]? :=by
  intro l
  induction l with
  |nil=>
   intro k cs hk j;simp at hk ⊢;intro h;omega
  |cons a l ih=>
   intro k cs hk j;simp only[List.zipIdx_cons,List.foldl_cons];rw[ih (k+1) _ (by simp at hk ⊢;omega) j];rw[Array.getElem?_setIfInBounds];simp at hk;by_cases h1:j<k
   ·rw[if_pos q0,if_pos h1,if_neg q0]
   ·by_cases h2:j=k
    ·subst h2;rw[if_pos q0,if_pos rfl,if_neg h1];simp;omega
    ·rw[if_neg q0,if_neg h1,show j-k=(j-(k+1))+1 from by omega];simp
 apply Array.ext_getElem?;intro j;have:=key vs.toList 0 zs (by simp[hs,hz]) j;simp only[Nat.not_lt_zero,if_false,Nat.sub_zero,Array.getElem?_toList]at this;rw[<-this];rw[<-Array.foldl_toList];simp[Array.toList_zipIdx]
theorem Rg.np {t e:TypeId} {zv v:Value} {bytes:Nat} {hn:0<A.n} {M:aE} {a:α} (ht:P.underlying t=some (.slice e)) (hi:TI P e zv A.n bytes) (Dz:A.n<=1000) (hx:ev L x=some v) (hd:Nat.blt d n=true) (hm:Lt M w)
  (hv:A.V M w a v) (EY:A.agg=true\/A.n=1/\A.agg=false) (k:∀u w',(A.sl hn).V M w' [a] u->Step M w M w' ar->Rg P r n ops rest ((d,u)::L) ds w' K):
  Rg P r n ops ({dst:=some d,op:= .buildSlice t 1 #[(0,x)],type:=ty,pos,after:=af,guard:=none}::rest) L ds w K:=by
 obtain⟨vs,h1,h2⟩:=hv;have hl:=A.len h1;have tG:=A.one h1
 have hc:v.cells=vs.toArray:=by
  subst h2;rcases EY with hg|⟨h3,hg⟩
  ·simp[RT.val,hg,Value.cells]
  ·match vs,hl,h3 with
   |[u],_,_=>
    have:=tG u (by simp);simp only[RT.val,hg,List.headD_cons]
    cases u<;>simp_all [Value.cells,Value.oneCell']
   |[],hl,h3=>simp at hl;omega
   |_::_::_,hl,h3=>simp at hl;omega
 obtain⟨i,BH,EX,hi3,hi4⟩:=hi.get;have hs:=dL M w (.cells vs.toArray e)
 refine .op a06 G G hd (.slice (some ⟨w.heap.size,0,none⟩) 1 1) (w.alloc (.cells vs.toArray e)) (λρ hρ=>?_)
  (k _ _ (iX.2 ⟨_,1,rfl,Nat.le_refl _,by simp,.inr ⟨w.heap.size,0,rfl,λh=>by have:=hm _ h;omega,λi x hx=>?_⟩⟩) hs)
 ·simp only[execOp,List.map_toArray,List.map_cons,List.map_nil,hρ x _ hx];simp only[Instr.buildSlice,Sem.run_bind,run_underlying ht,Result.andThen_ok,hi.sizeOf,Nat.one_mul];rw[if_neg q0,if_neg q0];simp only[Sem.run_bind,zeroValue,typeInfo,program,Sem.run,BH,EX,Result.andThen_ok,Sem.run_pure];rw[OG A.n _ vs.toArray v (by simp) hc (by simpa using hl)];simp[newRow,newObj,Sem.run]
 ·cases i with
  |zero=>
   simp at hx;subst hx;refine ⟨vs,A.le hs.le h1,λj u hu=> ?_⟩;exact im (cY w _) (by simpa using hu)
  |succ i=>simp at hx
theorem Ct (size:Nat) (zs:Array Value) (i:Nat) (v:Value) (vs:List Value) (rest:List (Nat×Value)) (hv:v.cells=vs.toArray) (hs:vs.length=size) (hz:i*size+size<=zs.size):
  ∃Ua,Instr.fill (λi=>some (i*size,size)) zs ((i,v)::rest)=Instr.fill (λi=>some (i*size,size)) Ua rest/\Ua.size=zs.size/\
   ∀j,Ua[j]? =if i*size<=j/\j<i*size+size then vs[j-i*size]? else zs[j]? :=by
 have key:∀(l:List Value) (k o:Nat) (cs:Array Value),o+k+l.length<=cs.size->((l.zipIdx k).foldl (fun(cs:Array Value) (x:Value×Nat)=>cs.setIfInBounds (o+x.2) x.1) cs).size=cs.size/\
   ∀j:Nat,((l.zipIdx k).foldl (fun(cs:Array Value) (x:Value×Nat)=>cs.setIfInBounds (o+x.2) x.1) cs)[j]? =if o+k<=j/\j<o+k+l.length then l[j-(o+k)]? else cs[j]? :=by
  intro l
  induction l with
  |nil=>
   intro k o cs hk;refine ⟨G,λj=> ?_⟩;simp;intro h1 h2;omega
  |cons a l ih=>
   intro k o cs hk;simp only[List.zipIdx_cons,List.foldl_cons];simp only[List.length_cons]at hk;obtain⟨h1,h2⟩:=ih (k+1) o (cs.setIfInBounds (o+k) a) a13;refine ⟨by rw[h1];simp,λj=> ?_⟩;rw[h2 j,Array.getElem?_setIfInBounds,List.length_cons];by_cases h3:o+(k+1)<=j/\j<o+(k+1)+l.length
   ·rw[if_pos h3,if_pos q0,show j-(o+k)=(j-(o+(k+1)))+1 from by omega];simp
   ·rw[if_neg h3];by_cases h4:o+k=j
    ·subst h4;rw[if_pos rfl,if_pos q0,if_pos q0];simp
    ·rw[if_neg h4,if_neg q0]
 obtain⟨k1,k2⟩:=key vs 0 (i*size) zs q0;refine⟨_,?_,k1,λj=>?_⟩
 ·conv=>lhs;rw[Instr.fill]
  simp only[hv,hs];simp[hs,show¬(zs.size<i*size+size) by omega]
 ·rw[k2 j,Nat.add_zero,hs]
def X3 {α:Type} (A:RT α) (M:aE) (w:World) (L:List (Nat×Value)):Nat->List (Nat×Operand)->List α->Prop
 |_,[],xs=>xs=[]
 |i,p::ps,xs=>∃a aa v,xs=a::aa/\p.1=i/\ev L p.2=some v/\A.V M w a v/\X3 A M w L (i+1) ps aa
theorem OH {α:Type} {A:RT α} {M:aE} {w:World} {a:α} {vs:List Value} (h1:A.R M w a vs) (EY:A.agg=true\/A.n=1/\A.agg=false):(A.val vs).cells=vs.toArray:=by
 have hl:=A.len h1;have tG:=A.one h1;rcases EY with hg|⟨h3,hg⟩
 ·simp[RT.val,hg,Value.cells]
 ·match vs,hl,h3 with
  |[u],_,_=>
   have:=tG u (by simp);simp only[RT.val,hg,List.headD_cons]
   cases u<;>simp_all [Value.cells,Value.oneCell']
  |[],hl,h3=>simp at hl;omega
  |_::_::_,hl,h3=>simp at hl;omega
theorem Fa {α:Type} {A:RT α} {M:aE} {w:World} {L:List (Nat×Value)} (EY:A.agg=true\/A.n=1/\A.agg=false):∀(ps:List (Nat×Operand)) (i:Nat) (xs:List α) (zs:Array Value),
  X3 A M w L i ps xs->zs.size=(i+xs.length)*A.n->
  ∃(ia:List (Nat×Value)) (C:List Value) (Ua:Array Value),(∀ρ:Operand->Value,(∀x v,ev L x=some v->ρ x=v)->ps.map (λp=>(p.1,ρ p.2))=ia)/\fY A M w xs C/\Instr.fill (λi=>some (i*A.n,A.n)) zs ia=some Ua/\Ua.size=zs.size/\
   ∀j,Ua[j]? =if i*A.n<=j then C[j-i*A.n]? else zs[j]?
 |[],i,xs,zs,hp,hz=>by
  cases hp;refine ⟨[],[],zs,λρ _=>G,G,G,G,λj=> ?_⟩
  split
  ·simp at hz ⊢;omega
  ·rfl
 |p::ps,i,xs,zs,hp,hz=>by
  obtain⟨a,aa,v,rfl,hpi,Od,hv,hr⟩:=hp;obtain⟨vs,h1,h2⟩:=hv;have hc:=OH h1 EY;rw[<-h2]at hc;have hl:=A.len h1;have hmul:(i+(a::aa).length)*A.n=i*A.n+A.n+aa.length*A.n:=by rw[List.length_cons,Nat.add_mul,Nat.add_mul];omega
  obtain⟨z1,e1,e2,e3⟩:=Ct A.n zs i v vs (ps.map λ_=>(0,undef)) hc hl (by rw[hz,hmul];omega);obtain⟨ia,C,z2,f1,f2,f3,f4,f5⟩:=Fa EY ps (i+1) aa z1 hr (by rw[e2,hz,List.length_cons,show i+1+aa.length=i+(aa.length+1)from by omega]);obtain⟨z1',e1',e2',e3'⟩:=Ct A.n zs i v vs ia hc hl (by rw[hz,hmul];omega);have hzz:z1=z1':=Array.ext_getElem? λj=>by rw[e3 j,e3' j]
  subst hzz;refine ⟨(i,v)::ia,vs++C,z2,λρ hρ=>by rw[List.map_cons,f1 ρ hρ,hpi,hρ _ _ Od],⟨vs,C,rfl,h1,f2⟩,by rw[e1',f3],by rw[f4,e2],λj=> ?_⟩;rw[f5 j,e3 j,Nat.add_mul,Nat.one_mul];by_cases h3:i*A.n+A.n<=j
  ·rw[if_pos h3,if_pos q0,List.getElem?_append_right q0,hl,show j-i*A.n-A.n=j-(i*A.n+A.n)from by omega]
  ·rw[if_neg h3];by_cases h4:i*A.n<=j
   ·rw[if_pos q0,if_pos h4,List.getElem?_append_left q0]
   ·rw[if_neg q0,if_neg h4]
theorem Rg.Ub {t e:TypeId} {zv:Value} {bytes nn:Nat} {ps:Array (Nat×Operand)} {hn:0<A.n} {M:aE} {xs:List α} (ht:P.underlying t=some (.slice e)) (hi:TI P e zv A.n bytes) (hz:zv.cells.size=A.n) (Dz:nn*A.n<=16777216) (Wo:nn=xs.length) (qm:X3 A M w L 0 ps.toList xs) (hd:Nat.blt d n=true) (hm:Lt M w)
  (EY:A.agg=true\/A.n=1/\A.agg=false) (hnz:0<nn) (k:∀u w',(A.sl hn).V M w' xs u->Step M w M w' ar->Rg P r n ops rest ((d,u)::L) ds w' K):
  Rg P r n ops ({dst:=some d,op:= .buildSlice t nn ps,type:=ty,pos,after:=af,guard:=none}::rest) L ds w K:=by
 subst Wo;obtain⟨i,BH,EX,hi3,hi4⟩:=hi.get;obtain⟨ia,C,Ua,f1,f2,f3,f4,f5⟩:=Fa EY ps.toList 0 xs (Array.map (λx=>zv.cells[x%zv.cells.size]!) (Array.range (xs.length*A.n))) qm (by simp);have hzC:Ua=C.toArray:=Array.ext_getElem? λj=>by rw[f5 j,Nat.zero_mul,if_pos (Nat.zero_le _),Nat.sub_zero];simp
 subst hzC;have hs:=dL M w (.cells C.toArray e);have Dx:0<xs.length*A.n:=Nat.mul_pos hnz hn;have hlen:xs.length<=16777216:=Nat.le_trans (by have:=Nat.mul_le_mul_left xs.length hn;omega) Dz
 refine .op a06 G G hd (.slice (some ⟨w.heap.size,0,none⟩) xs.length xs.length) (w.alloc (.cells C.toArray e)) (λρ hρ=>?_)
  (k _ _ (iX.2 ⟨_,_,rfl,Nat.le_refl _,by omega,.inr ⟨w.heap.size,0,rfl,λh=>by have:=hm _ h;omega,λi x hx=>?_⟩⟩) hs)
 ·have hmp:(ps.map fun(i,x)=>(i,ρ x)).toList=ia:=by rw[Array.toList_map];exact f1 ρ hρ
  simp only[execOp];simp only[Instr.buildSlice,Sem.run_bind,run_underlying ht,Result.andThen_ok,hi.sizeOf];rw[if_neg q0,if_neg q0];simp only[Sem.run_bind,zeroValue,typeInfo,program,Sem.run,BH,EX,Result.andThen_ok,Sem.run_pure];rw[hmp,f3];simp[newRow,newObj,Sem.run]
 ·obtain⟨us,h1,h2⟩:=(f2.le hs.le).at_ i x hx;exact⟨us,h1,λj u hu=>by rw[Nat.zero_add];exact im (cY w _) (by simpa using h2 j u hu)⟩
def mu (M:aE) (v:Value):aE:=λk=>v.ownBlock=some k\/M k
def lW (v:Value):aE:=λk=>v.ownBlock=some k
theorem zh {M:aE} {w':World} {v':Value} (hs:w.heap.size<=w'.heap.size) (hv:∀b,v'.ownBlock=some b->b<w'.heap.size) (h:Lt M w):Lt (mu M v') w':=λb hb=>by
 rcases hb with hb|hb
 ·exact hv b hb
 ·exact Nat.lt_of_lt_of_le (h b hb) hs
theorem Ij {M:aE} {w':World} {v v':Value} (hg:w.grownBy w' v.ownBlock) (hm:∀b,v.ownBlock=some b->M b) (hv:∀b,v'.ownBlock=some b->w.heap.size<=b\/v.ownBlock=some b) (eZ:∀b,v'.ownBlock=some b->b<w'.heap.size):
  Step M w (mu M v') w' (lW v):=
 ⟨zh hg.size eZ,hg.os,hg.tape,hg.output,hg.size,λb hb=>⟨λh=>by
  rcases h with h|h
  ·rcases hv b h with h2|h2
   ·omega
   ·exact hm b h2
  ·exact h,λh=> .inr h⟩,λb hb hn=>hg.block b hb (λh=>hn h.symm),λb hb=>hm b hb⟩
theorem p6 {t ty e:TypeId} {zv:Value} {size bytes:Nat} (ht:P.underlying t=some (.slice e)) (hi:TI P e zv size bytes) (a:Option Addr) (l cap c:Nat) (b:Option Addr) (hl:l<=cap):
  (Builtin.append_ #[t,t] ty #[.slice a l cap,.slice b 0 c]).run P w= .ok (.slice a l cap) w:=by
 obtain⟨i,h1,h2,h3,h4⟩:=hi.get
 cases a<;>cases b<;>simp[Builtin.append_,run_underlying ht,sizeOf,typeInfo,h1,Builtin.lenOf,hl,Builtin.firstCells,loadCells,loadCellsFrom,storeCells]
theorem Own.nw {t ty e:TypeId} {zv:Value} {bytes:Nat} {hn:0<A.n} {M M2:aE} {base:Nat} {v u:Value} {xs ys:List α} (ht:P.underlying t=some (.slice e)) (hi:TI P e zv A.n bytes) (hz:zv.cells.size=A.n)
  (h:Own A e M w base v xs) (hle:Le M2 w M w) (hu:(A.sl hn).V M2 w ys u) (hlen:xs.length+ys.length<=140737488355328) (hb:(xs.length+ys.length)*bytes<=140737488355328) (lr:base<=w.heap.size):
  ∃v' w',(Builtin.append_ #[t,t] ty #[v,u]).run P w= .ok v' w'∧Own A e (mu M v') w' base v' (xs++ys)/\Step M w (mu M v') w' (lW v)/\(∀b,v'.ownBlock=some b->w.heap.size<=b\/v.ownBlock=some b):=by
 obtain⟨a,c,rfl,hc,hl,hs⟩:=iX.1 hu;obtain⟨i,h1,h2,h3,h4⟩:=hi.get;have OI:xs.length+ys.length<=maxLen:=by unfold maxLen;omega
 rcases hs with rfl|⟨b,o,rfl,hmb,zD⟩
 ·obtain⟨a',cap,rfl,X4⟩:=h.isSlice;refine⟨_,w,p6 ht hi a' xs.length cap c a X4,?_,?_,λb hb=> .inr hb⟩
  ·rw[List.append_nil];obtain⟨⟨C,hr,ha⟩,hm⟩:=h;have hs:Step M w (mu M (.slice a' xs.length cap)) w ar:=⟨zh (Nat.le_refl _) (λb hb=>(hr.lt b hb).2),rfl,rfl,rfl,Nat.le_refl _,λb _=>⟨λh=>h.elim (hm b) id,λh=> .inr h⟩,λ_ _ _=>rfl,λ_ h=>h.elim⟩;exact⟨⟨C,hr,ha.le hs.le⟩,λb hb=> .inl hb⟩
  ·exact⟨zh (Nat.le_refl _) (λb hb=>(h.base b hb).2),G,G,G,Nat.le_refl _,λb _=>⟨λh'=>h'.elim (h.mut_ b) id,λh=> .inr h⟩,λ_ _ _=>G,λb hb=>h.mut_ b hb⟩
 ·obtain⟨D,hD,hDr⟩:=xc.all zD;have LW:=hD.length;have Cv:∀j u,D[j]? =some u->w.cell? ((⟨b,o,none⟩:Addr).add j)=some u:=λj u hj=>by rw[Addr.add_mid];exact hDr j u hj
  have hD1:=hD.one;obtain⟨⟨C,hr,ha⟩,hm⟩:=h;have hr':=hr;obtain⟨hCl,BI⟩:=hr'
  have fin:∀v' w',w'.ownsRow base e A.n v' (xs.length+ys.length) (C++D)->w.grownBy w' v.ownBlock->(∀b,v'.ownBlock=some b->w.heap.size<=b\/v.ownBlock=some b)->
    Own A e (mu M v') w' base v' (xs++ys)/\Step M w (mu M v') w' (lW v):=by
   intro v' w' ho hg sM;have jV:=Ij (M:=M) hg hm sM (λb hb=>(ho.lt b hb).2);refine⟨⟨⟨C++D,by rw[List.length_append];exact ho,?_⟩,λb hb=> .inl hb⟩,jV⟩;exact fY.append (hD.le (hle.trans jV.le)) (ha.le jV.le)
  rcases BI with⟨rfl,uQ⟩|⟨g,cap,cur,rfl,hbg,hg,hnc,hcm,Wp,acX⟩
  ·have hx:xs=[]:=List.eq_nil_of_length_eq_zero uQ;subst hx;have hC:C=[]:=List.eq_nil_of_length_eq_zero (by simpa using hCl);subst hC
   obtain⟨v',w',gO,ho,zG,_⟩:=run_append_own (P:=P) w w.heap.size t ty e i zv A.n bytes ht h1 h2 h3 h4 hz hn (.slice none 0 0) 0 [] (World.ownsRow_nil w _ e A.n) ⟨b,o,none⟩ ys.length c D LW Cv hD1
    (by simpa using OI) (by simpa using hb) (Nat.le_refl _)
   obtain⟨q1,q2⟩:=fin v' w' (by
    obtain⟨p1,p2⟩:=ho;refine ⟨by simpa using p1,p2.imp (λh=>by simpa using h) ?_⟩;rintro⟨g,cap,cur,p3,p4,p5⟩;exact⟨g,cap,cur,by simpa using p3,Nat.le_trans lr p4,by simpa using p5⟩) zG (λk hk=> .inl (ho.lt k hk).1)
   exact⟨v',w',gO,q1,q2,λk hk=> .inl (ho.lt k hk).1⟩
  ·by_cases OJ:xs.length+ys.length<=cap
   ·have Uc:xs.length*A.n+D.length<=cur.size:=by rw[LW,Wp,<-Nat.add_mul];exact Nat.mul_le_mul_right _ OJ
    have gO:=run_append_room (P:=P) w t ty e i ht h1 g xs.length cap cur hg ⟨b,o,none⟩ ys.length c D (by rw[LW,<-h3]) Cv hD1 OJ (by rw[h3];exact Uc);rw[h3]at gO;have hCD:(C++D).length=(xs.length+ys.length)*A.n:=by rw[List.length_append,hCl,LW,Nat.add_mul]
    obtain⟨Ud,X5⟩:∃c,c=(cur.toList.take (xs.length*A.n)++D++cur.toList.drop (xs.length*A.n+D.length)).toArray:=⟨_,rfl⟩;rw[<-X5]at gO
    have e1:Ud.size=cap*A.n:=by
     rw[X5];simp only[List.size_toArray,List.length_append,List.length_take,List.length_drop,Array.length_toList];omega
    have e2:Ud.toList.take ((xs.length+ys.length)*A.n)=C++D:=by
     rw[X5];simp only[acX];rw[<-hCD];exact List.take_left
    obtain⟨q1,q2⟩:=fin (.slice (some ⟨g,0,none⟩) (xs.length+ys.length) cap) (w.setRow g Ud)
     ⟨hCD,.inr ⟨g,cap,Ud,rfl,hbg,setRow_heap w g cur _ e _ hg,OJ,hcm,e1,e2⟩⟩
     ⟨rfl,rfl,rfl,by simp,λk _ hk=>setRow_other w g k _ (λe=>hk (by simp[Value.ownBlock,e]))⟩ (λk hk=> .inr hk)
    exact⟨_,_,gO,q1,q2,λk hk=> .inr hk⟩
   ·have holds:∀j u,C[j]? =some u->w.cell? ((⟨g,0,none⟩:Addr).add j)=some u:=hr.cells (g:=g) rfl;obtain⟨v',w',gO,ho,zG⟩:=run_append_arg_grows (P:=P) w t ty e i zv A.n bytes ht h1 h2 h3 h4 hz hn ⟨g,0,none⟩ xs.length cap C hCl holds ⟨b,o,none⟩ ys.length c D LW Cv q0 OI hb
    obtain⟨q1,q2⟩:=fin v' w' ⟨ho.1,ho.2.imp id (fun⟨g',acY,acZ,p3,p4,p5⟩=>⟨g',acY,acZ,p3,Nat.le_trans lr p4,p5⟩)⟩
     ⟨zG.os,zG.tape,zG.output,zG.size,λk hk _=>zG.block k hk (by simp)⟩ (λk hk=> .inl (ho.lt k hk).1)
    exact⟨v',w',gO,q1,q2,λk hk=> .inl (ho.lt k hk).1⟩
theorem Own.append {t ty e:TypeId} {zv:Value} {bytes:Nat} {hn:0<A.n} {M M2:aE} {base:Nat} {v u:Value} {xs ys:List α} (ht:P.underlying t=some (.slice e)) (hi:TI P e zv A.n bytes) (hz:zv.cells.size=A.n)
  (h:Own A e M w base v xs) (hle:Le M2 w M w) (hu:(A.sl hn).V M2 w ys u) (hlen:xs.length+ys.length<=140737488355328) (hb:(xs.length+ys.length)*bytes<=140737488355328) (lr:base<=w.heap.size):
  ∃v' w',(Builtin.append_ #[t,t] ty #[v,u]).run P w= .ok v' w'∧Own A e (mu M v') w' base v' (xs++ys)/\Step M w (mu M v') w' (lW v):=by
 obtain⟨v',w',h1,h2,h3,_⟩:=Own.nw (ty:=ty) ht hi hz h hle hu hlen hb lr;exact⟨v',w',h1,h2,h3⟩
theorem Rg.nw {t e:TypeId} {zv:Value} {bytes:Nat} {hn:0<A.n} {M M2:aE} {w2:World} {base:Nat} {v u:Value} {xs ys:List α} (ht:P.underlying t=some (.slice e)) (hi:TI P e zv A.n bytes) (hz:zv.cells.size=A.n)
  (hx:ev L x=some v) (hy:ev L y=some u) (hd:Nat.blt d n=true) (h:Own A e M w base v xs) (hu:(A.sl hn).V M2 w2 ys u) (hle:Le M2 w2 M w) (hlen:xs.length+ys.length<=140737488355328)
  (hb:(xs.length+ys.length)*bytes<=140737488355328) (lr:base<=w.heap.size)
  (k:∀v' w',Own A e (mu M v') w' base v' (xs++ys)->Step M w (mu M v') w' (lW v)->(∀b,v'.ownBlock=some b->w.heap.size<=b\/v.ownBlock=some b)->Rg P r n ops rest ((d,v')::L) ds w' K):
  Rg P r n ops ({dst:=some d,op:= .call {callee:= .builtin .append,args:= #[x,y],argTypes:= #[t,t]},type:=ty,pos,after:=af,guard:=none}::rest) L ds w K:=by
 obtain⟨v',w',gO,h1,h2,h3⟩:=Own.nw (ty:=ty) ht hi hz h (Le.refl M w) (hu.le hle) hlen hb lr;refine .op a06 G G hd v' w' (λρ hρ=>?_) (k v' w' h1 h2 h3);simp only[execOp,resolve,List.map_toArray,List.map_cons,List.map_nil,hρ x _ hx,hρ y _ hy];simp[invoke,builtin,gO]
def kR (v u:Value):Prop:=∀b,v.ownBlock=some b->u.ownBlock≠some b
theorem kR.symm {v u:Value} (h:kR v u):kR u v:=λb h1 h2=>h b h2 h1
theorem kR.nil (v:Value):kR v (.slice none 0 0):=λb _ h=>by cases h
theorem kR.grown {v v' u:Value} (h:kR v u) (hF:∀b,v'.ownBlock=some b->w.heap.size<=b\/v.ownBlock=some b) (hu:∀b,u.ownBlock=some b->b<w.heap.size):kR v' u:=λb h1 h2=>by
 rcases hF b h1 with h3|h3
 ·have:=hu b h2;omega
 ·exact h b h3 h2
theorem Rg.append {t e:TypeId} {zv:Value} {bytes:Nat} {hn:0<A.n} {M M2:aE} {w2:World} {base:Nat} {v u:Value} {xs ys:List α} (ht:P.underlying t=some (.slice e)) (hi:TI P e zv A.n bytes) (hz:zv.cells.size=A.n)
  (hx:ev L x=some v) (hy:ev L y=some u) (hd:Nat.blt d n=true) (h:Own A e M w base v xs) (hu:(A.sl hn).V M2 w2 ys u) (hle:Le M2 w2 M w) (hlen:xs.length+ys.length<=140737488355328)
  (hb:(xs.length+ys.length)*bytes<=140737488355328) (lr:base<=w.heap.size)
  (k:∀v' M' w',Own A e M' w' base v' (xs++ys)->Step M w M' w' (lW v)->Rg P r n ops rest ((d,v')::L) ds w' K):
  Rg P r n ops ({dst:=some d,op:= .call {callee:= .builtin .append,args:= #[x,y],argTypes:= #[t,t]},type:=ty,pos,after:=af,guard:=none}::rest) L ds w K:=by
 obtain⟨v',w',gO,h1,h2⟩:=Own.append (ty:=ty) ht hi hz h (Le.refl M w) (hu.le hle) hlen hb lr;refine .op a06 G G hd v' w' (λρ hρ=>?_) (k v' _ w' h1 h2);simp only[execOp,resolve,List.map_toArray,List.map_cons,List.map_nil,hρ x _ hx,hρ y _ hy];simp[invoke,builtin,gO]
theorem Rg.zH {t e:TypeId} {zv:Value} {bytes:Nat} {hn:0<A.n} {M M2:aE} {w2:World} {a:Option Addr} {u:Value} {xs ys:List α} (ht:P.underlying t=some (.slice e)) (hi:TI P e zv A.n bytes) (hz:zv.cells.size=A.n)
  (hx:ev L x=some (.slice a xs.length xs.length)) (hy:ev L y=some u) (hd:Nat.blt d n=true) (h:(A.sl hn).V M w xs (.slice a xs.length xs.length)) (p8:a=none->xs=[]) (hu:(A.sl hn).V M2 w2 ys u) (hle:Le M2 w2 M w)
  (fw:0<ys.length) (hlen:xs.length+ys.length<=140737488355328) (hb:(xs.length+ys.length)*bytes<=140737488355328)
  (k:∀v' M' w',Own A e M' w' w.heap.size v' (xs++ys)->Step M w M' w' ar->Rg P r n ops rest ((d,v')::L) ds w' K):
  Rg P r n ops ({dst:=some d,op:= .call {callee:= .builtin .append,args:= #[x,y],argTypes:= #[t,t]},type:=ty,pos,after:=af,guard:=none}::rest) L ds w K:=by
 obtain⟨a2,c,rfl,hc,hl,hs⟩:=iX.1 (hu.le hle);obtain⟨i,h1,h2,h3,h4⟩:=hi.get;have OI:xs.length+ys.length<=maxLen:=by unfold maxLen;omega
 rcases hs with rfl|⟨b,o,rfl,hmb,zD⟩
 ·simp at fw
 obtain⟨D,hD,hDr⟩:=xc.all zD;have LW:=hD.length;have Cv:∀j u,D[j]? =some u->w.cell? ((⟨b,o,none⟩:Addr).add j)=some u:=λj u hj=>by rw[Addr.add_mid];exact hDr j u hj
 have hD1:=hD.one
 have hold:∃C,fY A M w xs C/\∃v' w',(Builtin.append_ #[t,t] ty #[.slice a xs.length xs.length,.slice (some ⟨b,o,none⟩) ys.length c]).run P w= .ok v' w'∧w'.ownsRow w.heap.size e A.n v' (xs.length+ys.length) (C++D)/\w.grownBy w' none:=by
  cases a with
  |none=>
   have:=p8 rfl;subst this
   obtain⟨v',w',gO,ho,zG,_⟩:=run_append_own (P:=P) w w.heap.size t ty e i zv A.n bytes ht h1 h2 h3 h4 hz hn (.slice none 0 0) 0 [] (World.ownsRow_nil w _ e A.n) ⟨b,o,none⟩ ys.length c D LW Cv hD1
    (by simpa using OI) (by simpa using hb) (Nat.le_refl _)
   exact⟨[],rfl,v',w',gO,by simpa using ho,⟨zG.os,zG.tape,zG.output,zG.size,λk hk _=>zG.block k hk (by simp[Value.ownBlock])⟩⟩
  |some p=>
   obtain⟨_,_,he,_,_,yN⟩:=iX.1 h
   cases he
   have hC:∃C,fY A M w xs C/\∀j u,C[j]? =some u->w.cell? (p.add j)=some u:=by
    rcases yN with rfl|⟨b1,o1,h5,hm1,ajy⟩
    ·exact⟨[],rfl,λj u hj=>by simp at hj⟩
    ·cases h5;obtain⟨C,hC,hCr⟩:=xc.all ajy;exact⟨C,hC,λj u hj=>by rw[Addr.add_mid];exact hCr j u hj⟩
   obtain⟨C,hC,hCr⟩:=hC;obtain⟨v',w',gO,ho,zG⟩:=run_append_arg_grows (P:=P) w t ty e i zv A.n bytes ht h1 h2 h3 h4 hz hn p xs.length xs.length C hC.length hCr ⟨b,o,none⟩ ys.length c D LW Cv q0 OI hb;exact⟨C,hC,v',w',gO,ho,zG⟩
 obtain⟨C,hC,v',w',gO,ho,zG⟩:=hold
 have jV:Step M w (mu M v') w' ar:=⟨zh zG.size (λb hb=>(ho.lt b hb).2),zG.os,zG.tape,zG.output,zG.size,λk hk=>⟨λh=>by
   rcases h with h|h
   ·have:=(ho.lt k h).1;omega
   ·exact h,λh=> .inr h⟩,λk hk _=>zG.block k hk (by simp),λ_ h=>h.elim⟩
 refine .op a06 G G hd v' w' (λρ hρ=>?_) (k v' _ w' ⟨⟨C++D,by rw[List.length_append];exact ho,fY.append (hD.le jV.le) (hC.le jV.le)⟩,λb hb=> .inl hb⟩ jV);simp only[execOp,resolve,List.map_toArray,List.map_cons,List.map_nil,hρ x _ hx,hρ y _ hy];simp[invoke,builtin,gO]
def lX (M:aE) (base:Nat):aE:=λk=>base<=k/\M k
theorem Step.mv {M0 M M' N:aE} {w0 w w':World} {base:Nat} (h:Step M0 w0 M w N) (h':Step M w M' w' (lX M base)) (hb:w0.heap.size<=base):Step M0 w0 M' w' N:=
 h.trans h' λb h1 h2=>absurd h2.1 q0
theorem Step.eg {e:TypeId} {M0 M M1 M' N:aE} {w0 w w1 w':World} {base:Nat} {v:Value} {xs:List α} (h:Step M0 w0 M w N) (h':Step M w M' w' (lW v)) (ho:Own A e M1 w1 base v xs) (hb:w0.heap.size<=base):Step M0 w0 M' w' N:=
 h.trans h' λb h1 h2=>absurd (ho.base b h2).1 q0
theorem Step.cq {M0 M M' N N':aE} {w0 w w':World} (h:Step M0 w0 M w N) (h':Step M w M' w' N') (hb:∀b,N' b->w0.heap.size<=b):Step M0 w0 M' w' N:=
 h.trans h' λb h1 h2=>absurd (hb b h2) q0
def Grow {α:Type} (A:RT α) (hn:0<A.n) (e:TypeId) (M:aE) (w:World) (base:Nat) (v:Value) (xs:List α):Prop:=
 Own A e M w base v xs\/∃a,v= .slice a xs.length xs.length/\(a=none->xs=[])/\(A.sl hn).V M w xs v
theorem Grow.le {hn:0<A.n} {e:TypeId} {M M':aE} {w':World} {base:Nat} {v:Value} {xs:List α} (h:Grow A hn e M w base v xs) (s:Step M w M' w' ar):Grow A hn e M' w' base v xs:=
 h.imp (·.bD s) fun⟨a,h1,h2,h3⟩=>⟨a,h1,h2,h3.le s.le⟩
theorem Rg.KA {t e:TypeId} {zv:Value} {bytes:Nat} {hn:0<A.n} {M M2:aE} {w2:World} {base:Nat} {v u:Value} {xs ys:List α} (ht:P.underlying t=some (.slice e)) (hi:TI P e zv A.n bytes) (hz:zv.cells.size=A.n)
  (hx:ev L x=some v) (hy:ev L y=some u) (hd:Nat.blt d n=true) (h:Grow A hn e M w base v xs) (hu:(A.sl hn).V M2 w2 ys u) (hle:Le M2 w2 M w) (fw:0<ys.length) (hlen:xs.length+ys.length<=140737488355328)
  (hb:(xs.length+ys.length)*bytes<=140737488355328) (lr:base<=w.heap.size)
  (k:∀v' M' w',Own A e M' w' base v' (xs++ys)->Step M w M' w' (lX M base)->Rg P r n ops rest ((d,v')::L) ds w' K):
  Rg P r n ops ({dst:=some d,op:= .call {callee:= .builtin .append,args:= #[x,y],argTypes:= #[t,t]},type:=ty,pos,after:=af,guard:=none}::rest) L ds w K:=by
 rcases h with h|⟨a,rfl,p8,h⟩
 ·exact .append ht hi hz hx hy hd h hu hle hlen hb lr λv' M' w' h1 h2=>k v' M' w' h1 (h2.dF (λb hb=>⟨(h.base b hb).1,h.mut_ b hb⟩) λb hb=>hb.2)
 ·refine .zH ht hi hz hx hy hd h p8 hu hle fw hlen hb λv' M' w' h1 h2=>k v' M' w' ?_ (h2.dF (λb hb=>hb.elim) λb hb=>hb.2)
  obtain⟨⟨C,hr,ha⟩,hm⟩:=h1;exact⟨⟨C,⟨hr.1,hr.2.imp id fun⟨g,cap,cur,p3,p4,p5⟩=>⟨g,cap,cur,p3,Nat.le_trans lr p4,p5⟩⟩,ha⟩,hm⟩
def rm (M:aE) (v:Value):aE:=λk=>M k/\v.ownBlock≠some k
theorem uR (M:aE) (v:Value) (w:World):Le M w (rm M v) w:=λ_ _ h=>⟨λh2=>h h2.1,rfl⟩
theorem Own.view {hn:0<A.n} {e:TypeId} {M:aE} {base:Nat} {v:Value} {xs:List α} (h:Own A e M w base v xs) (hlen:xs.length<=140737488355328):(A.sl hn).V (rm M v) w xs v:=
 h.sl (uR M v w) (λ_ hb h2=>h2.2 hb) hlen
theorem Lt.rm {M:aE} {w:World} (h:Lt M w) (v:Value):Lt (rm M v) w:=λb hb=>h b hb.1
theorem Step.freeze {M0 M N:aE} {w0 w:World} (h:Step M0 w0 M w N) {v:Value} (hv:∀b,v.ownBlock=some b->w0.heap.size<=b):Step M0 w0 (rm M v) w N:=
 ⟨λh0=>(h.lt h0).rm v,h.os,h.tape,h.output,h.size,λb hb=>⟨λh1=>(h.mem b hb).1 h1.1,λh1=>⟨(h.mem b hb).2 h1,λh2=>by have:=hv b h2;omega⟩⟩,h.same,h.sub⟩
theorem Own.kD {e:TypeId} {M:aE} {base base':Nat} {v:Value} {xs:List α} (h:Own A e M w base v xs) (hb:base'≤base):Own A e M w base' v xs:=by
 obtain⟨⟨C,hr,ha⟩,hm⟩:=h;exact⟨⟨C,⟨hr.1,hr.2.imp id fun⟨g,cap,cur,p3,p4,p5⟩=>⟨g,cap,cur,p3,Nat.le_trans hb p4,p5⟩⟩,ha⟩,hm⟩
theorem Cw {M:aE} {w:World}:∀{xs:List UInt8} {C:List Value},fY RT.u8 M w xs C->C=xs.map λb=> .int .u8 (b.toNat:Int)
 |[],_,h=>h
 |x::xs,_,⟨vs,rest,h1,h2,h3⟩=>by
  have H0:vs=[.int .u8 x.toNat]:=h2;subst h1;rw[H0,Cw h3];rfl
theorem Rg.b2s {s t e:TypeId} {hn:0<RT.u8.n} {M:aE} {xs:List UInt8} {v:Value} (hs:P.underlying s=some (.slice e)) (he:P.underlying e=some (.int .u8)) (ht:P.underlying t=some .string) (hx:ev L x=some v) (hd:Nat.blt d n=true)
  {M1:aE} {w1:World} (hv:(RT.u8.sl hn).V M1 w1 xs v) (hle:Le M1 w1 M w) (k:Rg P r n ops rest ((d,.string ⟨xs.toArray⟩)::L) ds w K):
  Rg P r n ops ({dst:=some d,op:= .convert s t x,type:=ty,pos,after:=af,guard:=none}::rest) L ds w K:=by
 obtain⟨a,cap,rfl,hc,hl,tH⟩:=iX.1 (hv.le hle);refine .op a06 G G hd _ w (λρ hρ=>?_) k;simp only[execOp,hρ x _ hx];rw[Sem.run_bind,run_convert_bytes_string (P:=P) w s t e a xs.length cap hs he ht]
 cases a with
 |none=>
  rcases tH with rfl|⟨b,o,h,_⟩
  ·simp[Conv.bytesToString];rfl
  ·cases h
 |some p=>
  have ac1:(loadCells p xs.length).run P w= .ok ((xs.map λb=>(b.toNat:Int)).map (Value.int .u8)).toArray w:=by
   rcases tH with rfl|⟨b,o,h,hm,zD⟩
   ·simp[loadCells,loadCellsFrom]
   ·cases h;obtain⟨C,hC,hCr⟩:=xc.all zD;have hCe:=Cw hC;have:=run_loadCells_list (P:=P) w ⟨b,o,none⟩ C (λj u hj=>by rw[Addr.add_mid];exact hCr j u hj);rw[hC.length,show xs.length*RT.u8.n=xs.length from Nat.mul_one _]at this;rw[this,hCe];simp
  rw[run_bytesToString (P:=P) w p xs.length cap _ ac1]
  have key:∀(l:List UInt8) (acc:ByteArray),(l.map λb=>(b.toNat:Int)).foldl (λr n=>r.push (UInt8.ofNat n.toNat)) acc=⟨acc.data++l.toArray⟩:=by
   intro l
   induction l with
   |nil=>intro acc;simp
   |cons b l ih=>
    intro acc;simp only[List.map_cons,List.foldl_cons,ih];congr 1;simp[ByteArray.push]
  simp[key]
end
end Go.K
namespace Go.K
open Go.ChangeShapes Go.WideShapes Go.ChangeAt Go.RowKit
def iE {α:Type} (P:Program) (t:TypeId) (A:RT α):Prop:=
 ∀{H:Type} {enc:TypeId×Value->H} {w:World} {base fuel:Nat} {spare:Nat->Bool} {cs:List Value} {d:DataW H} {ps:List MemPlace},
  DataW.trod enc P w base spare true fuel t cs=some (d,ps)->(∀n∈DataW.weights P t d,n<=reachBytes)->∃x,A.R ar w x cs
theorem iE.int {P:Program} {t:TypeId} {k:IntKind} (ht:P.underlying t=some (.int k)):iE P t (RT.int k):=by
 intro H enc w base fuel spare cs d ps h hw
 cases fuel with
 |zero=>simp[DataW.trod]at h
 |succ n=>
  unfold DataW.trod at h;rw[ht]at h
  split at h<;>simp_all
  obtain⟨⟨h1,h2⟩,_⟩:=h;simp only[Lit.wf,Bool.and_eq_true,decide_eq_true_eq]at h2;exact⟨_,G,h2.1,h2.2⟩
theorem iE.str {P:Program} {t:TypeId} (ht:P.underlying t=some .string):iE P t RT.str:=by
 intro H enc w base fuel spare cs d ps h hw
 cases fuel with
 |zero=>simp[DataW.trod]at h
 |succ n=>
  unfold DataW.trod at h;rw[ht]at h
  split at h<;>simp_all
  rename_i s
  obtain⟨h1,h2,h3⟩:=h;subst h2;have:=hw s.data.toList.length (by simp[DataW.weights]);have hr:reachBytes<=140737488355328:=by decide
  refine⟨s.data.toList,?_,Nat.le_trans this hr⟩;simp
theorem X6 (a:Addr) (i:Nat) (h:a.spot=none):a.add i=⟨a.block,a.off+i,none⟩:=by
 unfold Addr.add
 split
 ·next h0=>subst h0;cases a;simp_all
 ·rfl
theorem iE.sl {P:Program} {t e:TypeId} {α:Type} {A:RT α} {hn:0<A.n} (ht:P.underlying t=some (.slice e)) {nb:Nat} (hc:P.cellsOf e=A.n) (hbn:P.bytesOf e=nb) (TM:nb≠0) (hA:iE P e A):iE P t (A.sl hn):=by
 have X7:P.bytesOf e≠0:=by rw[hbn];exact TM
 intro H enc w base fuel spare cs d ps h hw;rcases DataW.trod_slice ht h with⟨h1,h2⟩|⟨a,len,cap,elems,rest,n,_,rfl,hx,hb,hl,hm,hlen,zD,hsp,hns⟩
 ·exact⟨[],none,0,by rw[h1];rfl,Nat.le_refl _,Nat.zero_le _,.inl rfl⟩
 ·injection hx with hd qm
  have Fb:DataW.weights P t d=(elems.length+rest.length)*P.bytesOf e::(DataW.weightsAll P e (elems.map (·.1))++DataW.weightsAll P e (rest.map (·.1))):=by
   rw[hd];simp[DataW.weights,ht]
  have h1:(elems.length+rest.length)*P.bytesOf e<=reachBytes:=hw _ (by rw[Fb];exact List.mem_cons_self ..)
  have h2:elems.length<=140737488355328:=by
   have hr:reachBytes<=140737488355328:=by decide
   have:=Nat.le_mul_of_pos_right (elems.length+rest.length) (Nat.pos_of_ne_zero X7);omega
  have jA:∀y∈elems,∀n∈DataW.weights P e y.1,n<=reachBytes:=λy hy n hn=>by
   refine hw n ?_;rw[Fb];refine List.mem_cons_of_mem _ (List.mem_append_left _ ?_);clear Fb hw h1 h2 hsp hns zD hlen hd h qm
   induction elems with
   |nil=>cases hy
   |cons z zs ih=>
    simp only[List.map_cons,DataW.weightsAll,List.mem_append];rcases List.mem_cons.1 hy with rfl|hy
    ·exact .inl hn
    ·exact .inr (ih hy)
  have hex:∀i,i<len->∃x vs,A.R ar w x vs/\∀j:Nat,j<A.n->w.cell? (a.add (i*A.n+j))=vs[j]? :=λi hi=>by
   have h3:=zD i hi;rw[List.getElem?_eq_getElem q0,Option.bind_eq_some_iff]at h3;obtain⟨vs,h4,h5⟩:=h3;obtain⟨x,h6⟩:=hA (d:=elems[i].1) (ps:=elems[i].2) h5 (jA _ (List.getElem_mem ..));obtain⟨_,h7,h8⟩:=World.cells?_some h4;rw[hc]at h8 h7;refine ⟨x,vs,h6,λj hj=> ?_⟩;rw[<-h8 j hj];unfold Addr.add;by_cases hj0:j=0
   ·subst hj0;simp
   ·by_cases Wq:i*A.n=0
    ·simp[Wq,hj0]
    ·rw[if_neg q0,if_neg Wq,if_neg hj0];simp[Nat.add_assoc]
  rcases Nat.eq_zero_or_pos len with h0|Dx
  ·subst h0;exact⟨[],some a,cap,G,Nat.zero_le _,Nat.zero_le _,.inl G⟩
  ·obtain⟨x0,v0,uQ,hc0⟩:=hex 0 Dx;have wO:0<v0.length:=by rw[A.len uQ];exact hn
   have hs:=hc0 0 hn;rw[List.getElem?_eq_getElem wO,Nat.zero_mul,Nat.zero_add]at hs
   have ac3:a.spot=none:=by
    unfold Addr.add at hs;rw[if_pos rfl]at hs;unfold World.cell? at hs
    cases hh:a.spot with
    |none=>rfl
    |some s=>rw[hh]at hs;split at hs<;>simp_all
   let f:Nat->α:=λi=>if h:i<len then(hex i h).choose else x0
   have hf:∀i,i<len->∃vs,A.R ar w (f i) vs/\∀j:Nat,j<A.n->w.cell? (a.add (i*A.n+j))=vs[j]? :=λi hi=>by
    have:f i=(hex i hi).choose:=dif_pos hi;rw[this];exact(hex i hi).choose_spec
   refine⟨(List.range len).map f,some a,cap,by simp,by simpa using hl,by simp;omega,.inr ⟨a.block,a.off,by cases a;simp_all,λh=>h.elim,λi x LU=>?_⟩⟩;have hi:i<len:=by have:=(List.getElem?_eq_some_iff.1 LU).1;simpa using this
   obtain⟨vs,h3,h4⟩:=hf i hi;have hxe:x=f i:=by simp[hi]at LU;exact LU.symm
   subst hxe;refine ⟨vs,h3,λj v hj=> ?_⟩;have qn:j<A.n:=by rw[<-A.len h3];exact(List.getElem?_eq_some_iff.1 hj).1
   rw[<-hj,<-h4 j qn,X6 _ _ ac3,Nat.add_assoc]
theorem iE.pair {P:Program} {t:TypeId} {fs:Array Field} {f0 f1:Field} {α β:Type} {A:RT α} {B:RT β} (ht:P.underlying t=some (.struct fs)) (hf0:fs[0]? =some f0) (hf1:fs[1]? =some f1) (hfs:fs.size=2) (h0:f0.offset=0) (h1:f1.offset=A.n)
  (c0:P.cellsOf f0.type=A.n) (c1:P.cellsOf f1.type=B.n) (ct:P.cellsOf t=A.n+B.n) (hA:iE P f0.type A) (hB:iE P f1.type B):iE P t (A.pair B):=by
 intro H enc w base fuel spare cs d ps h hw;obtain⟨xs,n,_,hx,hl,hlen,hf⟩:=DataW.trod_struct ht h;injection hx with hd qm
 have BR:xs.length=2:=by omega
 match xs,BR with
 |[y0,y1],_=>
  have g0:=hf 0 f0 hf0;have g1:=hf 1 f1 hf1;rw[h0,c0]at g0;rw[h1,c1]at g1
  have hty:fs.toList.map (λx=>x.type)=[f0.type,f1.type]:=by
   have Oe:fs.toList.length=2:=by simpa using hfs
   match Ik:fs.toList,Oe with
   |[a,b],_=>
    have e0:fs.toList[0]? =some f0:=by simpa using hf0
    have e1:fs.toList[1]? =some f1:=by simpa using hf1
    rw[Ik]at e0 e1;simp at e0 e1;simp[e0,e1]
  have Fb:DataW.weights P t d=DataW.weightsEach P [f0.type,f1.type] [y0.1,y1.1]:=by
   rw[hd];simp[DataW.weights,ht,hty]
  obtain⟨x0,e0⟩:=hA (d:=y0.1) (ps:=y0.2) g0 (λm hm=>hw m (by rw[Fb];exact DataW.weights_mem_each (j:=0) G G m hm));obtain⟨x1,e1⟩:=hB (d:=y1.1) (ps:=y1.2) g1 (λm hm=>hw m (by rw[Fb];exact DataW.weights_mem_each (j:=1) G G m hm));refine⟨(x0,x1),_,_,?_,e0,e1⟩;rw[List.drop_zero,List.take_of_length_le (l:=cs.drop A.n) (by rw[List.length_drop,hl,ct];omega),List.take_append_drop]
theorem iE.arg {P:Program} {α:Type} {A:RT α} {t:TypeId} {H:Type} {enc:TypeId×Value->H} {w:World} {base:Nat} {spare:Nat->Bool} {v:Value} {d:DataW H} {ps:List MemPlace} (hA:iE P t A)
  (h:DataW.Trod enc P w base spare true t v d ps) (hv:∀vs,vs.length=A.n->v.cells.toList=vs->(∀u∈vs,u.oneCell'=true)->v=A.val vs) (hw:∀n∈DataW.weights P t d,n<=reachBytes):∃x,A.V ar w x v:=by
 obtain⟨fuel,hf⟩:=h;obtain⟨x,hx⟩:=hA hf hw;exact⟨x,_,hx,hv _ (A.len hx) G (A.one hx)⟩
theorem OK {P:Program} {f:FuncId} {args:Array Value} {w:World} (h:Spec P f args w (λv' w'=>v'= .bool true/\Step ar w ar w' ar)):Calls P f args w λe w'=>e= .returned (.bool true)/\Below w.heap.size w w':=
 Calls.mono h λ_ _ ⟨_,he,hv,s⟩=>⟨by rw[he,hv],s.below⟩
theorem wf_i64 {x:Int} (h:(Lit.int .i64 x).wf=true): -9223372036854775808<=x/\x<=9223372036854775807:=by
 simp only[Lit.wf,Bool.and_eq_true,decide_eq_true_eq]at h;exact h
end Go.K
namespace Go.K
theorem Fc {P:Program} {w:World} {nm:String} {g:Nat} {cs:Array Value} (hg:P.globalNamed nm=some g) (h:w.var? P nm=some cs):∃e fr,w.heap[g]? =some (.cells cs e fr):=by
 simp only[World.var?,hg,Option.bind_some]at h
 split at h
 ·rename_i c e fr hh
  obtain rfl:=Option.some.inj h;exact⟨e,fr,hh⟩
 ·cases h
theorem Il {H:Type} {enc:TypeId×Value->H} {P:Program} {w:World} {base fuel:Nat} {spare:Nat->Bool} {held:Bool} {t e:TypeId} {n:Nat} {cs:Array Value} {l:List Nat} {p:List MemPlace} {d:DataW H}
  (ht:P.underlying t=some (.array n e)) (he:P.underlying e=some (.int .u8)) (hc:P.cellsOf e=1) (hct:P.cellsOf t=n)
  (h:DataW.trod enc P w base spare held fuel t cs.toList=some (d,p)) (hd:d= .agg (l.map fun(k:Nat)=> .lit (.int .u8 (k:Int))):=by rfl):(l.map fun(k:Nat)=>Value.int .u8 (k:Int)).toArray=cs:=by
 subst hd;obtain⟨xs,m,rfl,hx,hl,hn,zD⟩:=DataW.trod_array ht h;rw[hc]at zD;simp only[Prod.mk.injEq,DataW.agg.injEq]at hx
 have TN:l.length=n:=by
  have:=congrArg List.length hx.1;rw[List.length_map,List.length_map,hn]at this;exact this
 suffices hs:l.map (fun(k:Nat)=>Value.int .u8 (k:Int))=cs.toList by rw[hs]
 refine List.ext_getElem? λi=>?_
 rcases Nat.lt_or_ge i n with hi|hi
 ·have hE:=zD i hi;obtain⟨x,TO⟩:∃x,xs[i]? =some x:=⟨_,List.getElem?_eq_getElem q0⟩;obtain⟨k,hk⟩:∃k,l[i]? =some k:=⟨_,List.getElem?_eq_getElem q0⟩;rw[TO,Nat.mul_one]at hE;obtain⟨z,e1,e2,_⟩:=DataW.trod_int he hE;have h1:(l.map fun(k:Nat)=>(DataW.lit (.int .u8 (k:Int)):DataW H))[i]? =some (.lit (.int .u8 (k:Int))):=by rw[List.getElem?_map,hk];rfl
  rw[hx.1,List.getElem?_map,TO,e2]at h1;have hz:z=(k:Int):=by simpa using h1
  have h2:((cs.toList.drop i).take 1)[0]? =cs.toList[i]? :=by rw[List.getElem?_take,if_pos XT,List.getElem?_drop,Nat.add_zero]
  rw[e1]at h2;rw[<-h2,List.getElem?_map,hk,hz];rfl
 ·rw[List.getElem?_eq_none (by rw[List.length_map];omega),List.getElem?_eq_none (by rw[hl,hct];omega)]
structure cw (M:aE) where
 p:Value->World->Prop
 U:aE
 mono:∀{v w w' N},p v w->Step M w M w' N->(∀b,N b->U b)->p v w'
def LX:aE:=λ_=>True
def cw.eq {M:aE} (c:Value):cw M:=⟨λv _=>v=c,LX,λh _ _=>h⟩
def cw.V {M:aE} {α:Type} (A:RT α) (x:α):cw M:=⟨λv w=>A.V M w x v,LX,λh s _=>h.le s.le⟩
def cw.ptr {M:aE} {α:Type} (A:RT α) (x:α) (hn:0<A.n:=by decide):cw M:=⟨λv w=>cG A M w v x,LX,λh s _=>h.le hn s.le⟩
def cw.pure {M:aE} (q:Value->Prop):cw M:=⟨λv _=>q v,LX,λh _ _=>h⟩
def cw.mk' {M:aE} (p:Value->World->Prop) (mono:∀{v w w'},p v w->Step M w M w' ar->p v w'):cw M:=⟨p,ar,λh s hN=>mono h (s.dF hN λ_ hb=>hb.elim)⟩
def jO:List aE->aE
 |[]=>ar
 |[N]=>N
 |N::Ns=>λb=>N b\/jO Ns b
theorem fZ:∀{Ns:List aE} {b:Nat},jO Ns b↔∃N∈Ns,N b
 |[],b=>by simp[jO,ar]
 |[N],b=>by simp[jO]
 |N::N'::Ns,b=>by
  have:=fZ (Ns:=N'::Ns) (b:=b);simp only[jO];rw[this];simp
def dm (o:Oper):List Nat:=(o.after.toList.filter (Region.binds .any)).map (·.on)
def lu (l:List Oper) (j t:Nat):Bool:=l.all λo=> !(o.dst==some t)||(dm o).contains j
def kE (l:List Oper) (j:Nat) (L:Sl):Sl:=L.filter λp=>lu l j p.1
def LY (d:Option Nat) (v:Value) (L:Sl):Sl:=match d with|some d=>(d,v)::L|none=>L
def fu:List Oper->Nat->Bool
 |[],_=>true
 |o::l,k=>(dm o).all (Nat.blt · k)&&(match o.dst with|some d=>l.all (λo'=> !(o'.dst==some d))|none=>true)&&fu l (k+1)
def Ue (E:List (Nat×aE)) (j:Nat):aE:=jO ((E.filter λp=>p.1==j).map (·.2))
def ac5 (l:List Oper) (E:List (Nat×aE)) (j:Nat):aE:=jO ((E.filter λp=> !(p.1==j)&& !((l[p.1]?.map dm).getD []).contains j).map (·.2))
def si {M:aE} (E:List (Nat×aE)):List Oper->List (cw M)->Nat->Prop
 |o::os,s::ss,i=>(∀p∈E.filter (λp=> !(p.1==i)&& !(dm o).contains p.1),∀b,p.2 b->s.U b)/\si E os ss (i+1)
 |_,_,_=>True
theorem si.get {M:aE} {E:List (Nat×aE)}:∀{os:List Oper} {ss:List (cw M)} {k:Nat},si E os ss k->∀i o s,os[i]? =some o->ss[i]? =some s->∀p∈E,p.1≠k+i->¬p.1∈dm o->∀b,p.2 b->s.U b
 |[],_,_,_,i,_,_,h,_,_,_,_,_,_,_=>by simp at h
 |_::_,[],_,_,i,_,_,_,h,_,_,_,_,_,_=>by simp at h
 |x::os,y::ss,k,h,0,o,s,ho,hs,p,hp,h1,h2,b,hb=>by
  simp at ho hs;subst ho;subst hs;exact h.1 p (List.mem_filter.2 ⟨hp,by simp;exact⟨h1,h2⟩⟩) b hb
 |x::os,y::ss,k,h,i+1,o,s,ho,hs,p,hp,h1,h2,b,hb=>si.get h.2 i o s (by simpa using ho) (by simpa using hs) p hp q0 h2 b hb
def Fe {M:aE} (F:List (Nat×aE)) (l:List Oper) (S:List (cw M)):Prop:=
 ∀i o s j oj sj,l[i]? =some o->S[i]? =some s->l[j]? =some oj->S[j]? =some sj->j≠i->¬j∈dm o->∀v vj w w',s.p v w->Step M w M w' (Ue F j)->sj.p vj w'→s.p v w'
theorem OL {F:List (Nat×aE)} {j b:Nat} (hb:Ue F j b):∃p∈F,p.1=j/\p.2 b:=by
 obtain⟨N,hN,EZ⟩:=fZ.1 hb;obtain⟨p,hp,rfl⟩:=List.mem_map.1 hN;obtain⟨h1,h2⟩:=List.mem_filter.1 hp;exact⟨p,h1,by simpa using h2,EZ⟩
theorem si.st {M:aE} {F:List (Nat×aE)} {l:List Oper} {S:List (cw M)} (h:si F l S 0):Fe F l S:=λi o s j oj sj ho hs _ _ fw hnp v vj w w' hp st _=>
 s.mono hp st λb hb=>by
  obtain⟨p,h1,h6,h7⟩:=OL hb;exact h.get i o s ho hs p h1 q0 (by rw[h6];exact hnp) b h7
def ac6 {M:aE} (E:List (Nat×aE)) (j:Nat) (d:Option Nat) (s:cw M) (w0:World) (L:Sl) (ds:List Deferred):Kt:=λe L' nj w'=>e= .normal/\nj=ds/\∃v,L'=LY d v L/\s.p v w'∧Step M w0 M w' (Ue E j)
def my {M:aE} (l:List Oper) (S:List (cw M)) (w:World) (k:Sl->Prop):List Nat->Sl->Prop
 |[],acc=>k acc
 |i::is,acc=>match l[i]?,S[i]? with
  |some o,some s=>match o.dst with
   |some d=>∀v,s.p v w->my l S w k is ((d,v)::acc)
   |none=>∀v,s.p v w->my l S w k is acc
  |_,_=>my l S w k is acc
def iA {M:aE} (w:World) (k:Sl->Prop):List Oper->List (cw M)->Sl->Prop
 |o::os,s::ss,acc=>match o.dst with
  |some d=>∀v,s.p v w->iA w k os ss ((d,v)::acc)
  |none=>∀v,s.p v w->iA w k os ss acc
 |_,_,acc=>k acc
def Obl (P:Program) (r:Option Nat) (n:Nat) {M:aE} (F:List (Nat×aE)) (w:World) (l:List Oper) (S:List (cw M)) (ds:List Deferred) (L:Sl) (j:Nat) (o:Oper) (s:cw M):Prop:=
 ∀w' E,Step M w M w' (ac5 l F j)->my l S w' (λacc=>Rg P r n l.toArray [o] (acc++(kE l j L++E)) ds w' (ac6 F j o.dst s w' (acc++(kE l j L++E)) ds)) (dm o) []
def cr (P:Program) (r:Option Nat) (n:Nat) {M:aE} (F:List (Nat×aE)) (w:World) (l:List Oper) (S:List (cw M)) (ds:List Deferred) (L:Sl):List Oper->List (cw M)->Nat->Prop
 |o::os,s::ss,j=>Obl P r n F w l S ds L j o s/\cr P r n F w l S ds L os ss (j+1)
 |[],_,_=>True
 |_::_,[],_=>False
theorem cr.cons {P:Program} {r:Option Nat} {n:Nat} {M:aE} {F:List (Nat×aE)} {w:World} {l:List Oper} {S:List (cw M)} {ds:List Deferred} {L:Sl} {o:Oper} {os:List Oper} {s:cw M} {ss:List (cw M)} {j:Nat}
  (h:Obl P r n F w l S ds L j o s) (h':cr P r n F w l S ds L os ss (j+1)):cr P r n F w l S ds L (o::os) (s::ss) j:=⟨h,h'⟩
theorem cr.nil {P:Program} {r:Option Nat} {n:Nat} {M:aE} {F:List (Nat×aE)} {w:World} {l:List Oper} {S:List (cw M)} {ds:List Deferred} {L:Sl} {ss:List (cw M)} {j:Nat}:cr P r n F w l S ds L [] ss j:=by
 unfold cr;trivial
section
variable {P:Program} {r:Option Nat} {n:Nat} {L:Sl} {ds:List Deferred} {w:World} {K:Kt} {M:aE} {F:List (Nat×aE)}
theorem l3 {A B:Sl} {t:Nat} {v:Value} (h:lk (A++B) t=some v):lk A t=some v\/lk B t=some v:=by
 induction A with
 |nil=>exact .inr h
 |cons p A ih=>
  obtain⟨k,u⟩:=p;simp only[List.cons_append,lk]at h ⊢
  cases hb:Nat.beq k t with
  |true=>rw[hb]at h;exact .inl h
  |false=>rw[hb]at h;exact ih h
theorem qQ {A B:Sl} {t:Nat} (h:∃v,lk B t=some v):∃v,lk (A++B) t=some v:=by
 induction A with
 |nil=>exact h
 |cons p A ih=>
  obtain⟨k,u⟩:=p;simp only[List.cons_append,lk]
  cases hb:Nat.beq k t with
  |true=>exact⟨u,rfl⟩
  |false=>exact ih
theorem ke {f:Nat->Bool} {A:Sl} {t:Nat} {v:Value} (h:lk (A.filter λp=>f p.1) t=some v):f t=true/\lk A t=some v:=by
 induction A with
 |nil=>simp[lk]at h
 |cons p A ih=>
  obtain⟨k,u⟩:=p;rw[List.filter_cons]at h
  split at h
  ·rename_i hf
   simp only[lk]at h ⊢
   cases hb:Nat.beq k t with
   |true=>
    rw[hb]at h;rw[<-Nat.eq_of_beq_eq_true hb];exact⟨hf,h⟩
   |false=>rw[hb]at h;exact ih h
  ·rename_i hf
   obtain⟨h1,h2⟩:=ih h;refine ⟨h1,?_⟩;simp only[lk]
   cases hb:Nat.beq k t with
   |true=>rw[Nat.eq_of_beq_eq_true hb]at hf;exact absurd h1 hf
   |false=>exact h2
def LZ (a:Act):Sl:=(List.range a.tmps.size).map λt=>(t,a.tmps.getD t undef)
theorem yj (f:Nat->Value):∀(m s t:Nat) (v:Value),lk ((List.range' s m).map λt=>(t,f t)) t=some v->s<=t/\t<s+m/\v=f t
 |0,s,t,v,h=>by simp[lk]at h
 |m+1,s,t,v,h=>by
  simp only[List.range'_succ,List.map_cons,lk]at h
  cases hb:Nat.beq s t with
  |true=>rw[hb]at h;cases h;have:=Nat.eq_of_beq_eq_true hb;subst this;exact⟨Nat.le_refl _,by omega,rfl⟩
  |false=>
   rw[hb]at h;obtain⟨h1,h2,h3⟩:=yj f m (s+1) t v h;exact⟨by omega,by omega,h3⟩
theorem uT (f:Nat->Value):∀(m s t:Nat),s<=t->t<s+m->∃v,lk ((List.range' s m).map λt=>(t,f t)) t=some v
 |0,s,t,h1,h2=>by omega
 |m+1,s,t,h1,h2=>by
  simp only[List.range'_succ,List.map_cons,lk]
  cases hb:Nat.beq s t with
  |true=>exact⟨_,rfl⟩
  |false=>
   have:s≠t:=λe=>by subst e;simp[Nat.beq_refl]at hb
   exact uT f m (s+1) t q0 q0
def Wr (F:List (Nat×aE)) (D:Nat->Prop):aE:=λb=>∃p∈F,D p.1/\p.2 b
structure Inv (F:List (Nat×aE)) (S:List (cw M)) (l:List Oper) (w0:World) (L:Sl) (ds:List Deferred) (n:Nat) (D:Nat->Prop) (a:Act) (w:World):Prop where
 step:Step M w0 M w (Wr F D)
 fin:∀i o s,l[i]? =some o->S[i]? =some s->D i->o.dst=none->∃v,s.p v w
 size:n<=a.tmps.size
 defers:a.defers=ds
 done:∀i o s d,l[i]? =some o->S[i]? =some s->D i->o.dst=some d->∃v,a.tmps[d]? =some v/\s.p v w
 base:∀t v,lk L t=some v->(∀i o,l[i]? =some o->D i->o.dst≠some t)->a.tmps[t]? =some v
 closed:∀i o,l[i]? =some o->D i->∀k∈dm o,D k
theorem dH:∀{l:List Oper} {k:Nat},fu l k=true->∀i o,l[i]? =some o->∀j∈dm o,j<k+i
 |[],_,_,i,o,h,_,_=>by simp at h
 |x::l,k,hl,0,o,h,j,hj=>by
  simp at h;subst h;simp only[fu,Bool.and_eq_true,List.all_eq_true]at hl;have:=hl.1.1 j hj;simpa[Nat.blt_eq]using this
 |x::l,k,hl,i+1,o,h,j,hj=>by
  simp only[fu,Bool.and_eq_true]at hl;have:=dH hl.2 i o a68 j hj;omega
theorem xd:∀{l:List Oper} {k:Nat},fu l k=true->∀(i j:Nat) (o o':Oper) (d:Nat),l[i]? =some o->l[j]? =some o'→i≠j->o.dst=some d->o'.dst≠some d
 |[],_,_,i,_,_,_,_,h,_,_,_=>by simp at h
 |x::l,k,hl,0,0,_,_,_,_,_,fw,_=>absurd rfl fw
 |x::l,k,hl,0,j+1,o,o',d,hi,hj,_,hd=>by
  simp at hi;subst hi;simp only[fu,Bool.and_eq_true,hd,List.all_eq_true]at hl;have hm:o'∈l:=List.mem_of_getElem? a98;have:=hl.1.2 o' hm;simpa using this
 |x::l,k,hl,i+1,0,o,o',d,hi,hj,_,hd=>by
  simp at hj;subst hj;intro KB;simp only[fu,Bool.and_eq_true,KB,List.all_eq_true]at hl;have hm:o∈l:=List.mem_of_getElem? ai7;have:=hl.1.2 o hm;simp[hd]at this
 |x::l,k,hl,i+1,j+1,o,o',d,hi,hj,fw,hd=>by
  simp only[fu,Bool.and_eq_true]at hl;exact xd hl.2 i j o o' d ai7 a98 q0 hd
theorem cr.get {w:World} {l:List Oper} {S:List (cw M)} {ds:List Deferred} {L:Sl}:∀{os:List Oper} {ss:List (cw M)} {k:Nat},cr P r n F w l S ds L os ss k->∀i o,os[i]? =some o->∃s,ss[i]? =some s/\Obl P r n F w l S ds L (k+i) o s
 |[],_,_,_,i,o,h=>by simp at h
 |x::os,[],_,h,_,_,_=>by simp[cr]at h
 |x::os,s::ss,k,h,0,o,hi=>by simp at hi;subst hi;exact⟨s,G,h.1⟩
 |x::os,s::ss,k,h,i+1,o,hi=>by
  obtain⟨s',h1,h2⟩:=cr.get h.2 i o ai7;exact⟨s',by simpa using h1,by rwa [show k+(i+1)=k+1+i from by omega]⟩
theorem my.use {l:List Oper} {S:List (cw M)} {w:World} {k:Sl->Prop} {a:Act} {js:List Nat} (hf:∀(i:Nat) (o:Oper) (s:cw M),l[i]? =some o->S[i]? =some s->o.dst=none->i∈js->∃v,s.p v w) (hd:∀(i:Nat) (o:Oper) (s:cw M) (d:Nat),l[i]? =some o->S[i]? =some s->o.dst=some d->i∈js->∃v,a.tmps[d]? =some v/\s.p v w):
  ∀(is:List Nat) (acc:Sl),(∀i∈is,i∈js)->(∀t v,lk acc t=some v->a.tmps[t]? =some v)->my l S w k is acc->∃OM,k OM/\∀t v,lk OM t=some v->a.tmps[t]? =some v
 |[],acc,_,ha,h=>⟨acc,h,ha⟩
 |i::is,acc,hm,ha,h=>by
  have zz:∀i∈is,i∈js:=λx hx=>hm x (List.mem_cons_of_mem _ hx)
  simp only[my]at h
  split at h
  ·rename_i o s ho hs
   split at h
   ·rename_i d DA
    obtain⟨v,h1,h2⟩:=hd i o s d ho hs DA (hm i (List.mem_cons_self ..));refine my.use hf hd is _ zz ?_ (h v h2);intro t u hu;simp only[lk]at hu
    cases hb:Nat.beq d t with
    |true=>rw[hb]at hu;cases hu;rw[<-Nat.eq_of_beq_eq_true hb];exact h1
    |false=>rw[hb]at hu;exact ha t u hu
   ·rename_i DA
    obtain⟨v,h2⟩:=hf i o s ho hs DA (hm i (List.mem_cons_self ..));exact my.use hf hd is _ zz ha (h v h2)
  ·exact my.use hf hd is _ zz ha h
theorem iA.use {w:World} {k:Sl->Prop} {a:Act}:∀(os:List Oper) (ss:List (cw M)) (acc:Sl),(∀(i:Nat) (o:Oper) (s:cw M),os[i]? =some o->ss[i]? =some s->o.dst=none->∃v,s.p v w)->(∀(i:Nat) (o:Oper) (s:cw M) (d:Nat),os[i]? =some o->ss[i]? =some s->o.dst=some d->∃v,a.tmps[d]? =some v/\s.p v w)->
  (∀t v,lk acc t=some v->a.tmps[t]? =some v)->iA w k os ss acc->∃OM,k OM/\∀t v,lk OM t=some v->a.tmps[t]? =some v
 |[],_,acc,_,_,ha,h=>⟨acc,by simpa[iA]using h,ha⟩
 |_::_,[],acc,_,_,ha,h=>⟨acc,by simpa[iA]using h,ha⟩
 |o::os,s::ss,acc,hf,hd,ha,h=>by
  have hf':∀(i:Nat) (o:Oper) (s:cw M),os[i]? =some o->ss[i]? =some s->o.dst=none->∃v,s.p v w:=λi o s h1 h2=>hf (i+1) o s (by simpa using h1) (by simpa using h2)
  have KB:∀(i:Nat) (o:Oper) (s:cw M) (d:Nat),os[i]? =some o->ss[i]? =some s->o.dst=some d->∃v,a.tmps[d]? =some v/\s.p v w:=λi o s d h1 h2=>hd (i+1) o s d (by simpa using h1) (by simpa using h2)
  simp only[iA]at h
  split at h
  ·rename_i d DA
   obtain⟨v,h1,h2⟩:=hd 0 o s d rfl rfl DA;refine iA.use os ss _ hf' KB ?_ (h v h2);intro t u hu;simp only[lk]at hu
   cases hb:Nat.beq d t with
   |true=>rw[hb]at hu;cases hu;rw[<-Nat.eq_of_beq_eq_true hb];exact h1
   |false=>rw[hb]at hu;exact ha t u hu
  ·rename_i DA
   obtain⟨v,h2⟩:=hf 0 o s rfl rfl DA;exact iA.use os ss _ hf' KB ha (h v h2)
theorem ny {F:Fence} {m:Nat} {ops:Array Oper} {Q:Exit->Act->World->Prop} {i:Nat} {rest:List Nat} {o:Oper} {a:Act} {w:World} (ho:ops[i]? =some o)
  (h:wpListIn F m P ops (λe a' w'=>e= .normal/\wpOpsIn F m P ops Q rest a' w') [o] a w):wpOpsIn F m P ops Q (i::rest) a w:=by
 simp only[wpOpsIn,ho];simp only[wpListIn]at h
 split
 ·rename_i hw
  rw[if_pos hw]at h;obtain⟨h1,h2⟩:=h;refine ⟨h1,?_⟩;generalize (o.semAt F.round a.eval).run P w=res at h2 ⊢
  have ac7:∀{f args w'},CallsIn F (m-1) P f args w' (fun
    |.returned v,zI=>(True/\wpOpsIn F m P ops Q rest (a.put o.dst v) zI)
    |.panicked chain,zI=>(Exit.panic chain= .normal/\wpOpsIn F m P ops Q rest a zI)
    |.outgrown,_=>LetsOut (λe a' w'=>e= .normal/\wpOpsIn F m P ops Q rest a' w'))->CallsIn F (m-1) P f args w' (fun
    |.returned v,zI=>wpOpsIn F m P ops Q rest (a.put o.dst v) zI
    |.panicked chain,zI=>Q (.panic chain) a zI
    |.outgrown,_=>LetsOut Q):=λh=>h.mono λe zI he=>by
   cases e with
   |returned v=>exact he.2
   |panicked c=>exact absurd he.1 (by simp)
   |outgrown=>obtain⟨a,w,h,_⟩:=he;exact absurd h (by simp)
  cases res with
  |ok nx w'=>
   cases nx with
   |value v=>exact h2.2
   |skip=>exact h2.2
   |defer d=>exact h2.2
   |enter f args=>exact⟨h2.1,ac7 h2.2⟩
   |row row args=>exact⟨h2.1,h2.2.mono λ_ _ he=>he.2⟩
   |round l f tmps tI body=>exact⟨h2.1,h2.2.mono λe zI he=>by
     cases e with
     |returned v=>exact he.2
     |panicked c=>exact absurd he.1 (by simp)
     |outgrown=>obtain⟨a,w,h,_⟩:=he;exact absurd h (by simp)⟩
   |_=>exact h2.elim
  |halt x w'=>
   cases x with
   |panic v=>exact absurd h2.1 (by simp)
   |_=>exact h2.elim
 ·rename_i hw
  rw[if_neg hw]at h;exact⟨h.1,h.2.2⟩
theorem zJ {F:Fence} {m:Nat} {ops:Array Oper} {Q Q':Exit->Act->World->Prop} {o:Oper} {a:Act} {w:World} (h:wpListIn F m P ops Q [o] a w) (hq:∀e a w,Q e a w->Q' e a w):wpListIn F m P ops Q' [o] a w:=by
 simp only[wpListIn]at h ⊢
 split
 ·rename_i hw
  rw[if_pos hw]at h;obtain⟨h1,h2⟩:=h;refine ⟨h1,?_⟩;generalize (o.semAt F.round a.eval).run P w=res at h2 ⊢
  cases res with
  |ok nx w'=>
   cases nx with
   |value v=>exact hq _ _ _ h2
   |skip=>exact hq _ _ _ h2
   |defer d=>exact hq _ _ _ h2
   |enter f args=>exact⟨h2.1,h2.2.mono λe zI he=>by
     cases e with
     |returned v=>exact hq _ _ _ he
     |panicked c=>exact hq _ _ _ he
     |outgrown=>obtain⟨a,w,h⟩:=he;exact⟨a,w,hq _ _ _ h⟩⟩
   |row row args=>exact⟨h2.1,h2.2.mono λ_ _ he=>hq _ _ _ he⟩
   |round l f tmps tI body=>exact⟨h2.1,h2.2.mono λe zI he=>by
     cases e with
     |returned v=>exact hq _ _ _ he
     |panicked c=>exact hq _ _ _ he
     |outgrown=>obtain⟨a,w,h⟩:=he;exact⟨a,w,hq _ _ _ h⟩⟩
   |_=>exact h2.elim
  |halt x w'=>
   cases x with
   |panic v=>exact hq _ _ _ h2
   |_=>exact h2.elim
 ·rename_i hw
  rw[if_neg hw]at h;exact⟨h.1,hq _ _ _ h.2⟩
theorem Inv.next {w0:World} {l:List Oper} {S:List (cw M)} {D:Nat->Prop} {a:Act} {w:World} (hi:Inv F S l w0 L ds n D a w) (dO:fu l 0=true) (ym:Fe F l S) (qR:∀p∈F,∀b,p.2 b->M b)
  {j:Nat} {o:Oper} (iq:∃s,S[j]? =some s/\Obl P r n F w0 l S ds L j o s) (hj:l[j]? =some o) (oB: ¬D j) (hp:∀k∈dm o,D k) {Q:Exit->Act->World->Prop} {rest:List Nat}
  (hk:∀a' w',Inv F S l w0 L ds n (λi=>i=j\/D i) a' w'→wpOpsIn (FW r) 0 P l.toArray Q rest a' w'):wpOpsIn (FW r) 0 P l.toArray Q (j::rest) a w:=by
 obtain⟨s,hs,ho⟩:=iq
 have L0:Step M w0 M w (ac5 l F j):=hi.step.dF (λb ⟨p,hp,hD,hb⟩=>fZ.2 ⟨p.2,List.mem_map.2 ⟨p,List.mem_filter.2 ⟨hp,by
   simp only[Bool.and_eq_true,Bool.not_eq_true',beq_eq_false_iff_ne,ne_eq];refine ⟨λe=>oB (e▸hD),?_⟩
   cases hl:l[p.1]? with
   |none=>rfl
   |some oi=>
    simp only[Option.map_some,Option.getD_some]
    cases hc:(dm oi).contains j with
    |false=>rfl
    |true=>exact absurd (hi.closed p.1 oi hl hD j (by simpa using hc)) oB⟩,rfl⟩,hb⟩)
  (λb hb=>by
   obtain⟨N,hN,EZ⟩:=fZ.1 hb;obtain⟨p,hp,rfl⟩:=List.mem_map.1 hN;exact qR p (List.mem_filter.1 hp).1 b EZ)
 have tJ:∀b,Ue F j b->∃p∈F,p.1=j/\p.2 b:=λb hb=>by
  obtain⟨N,hN,EZ⟩:=fZ.1 hb;obtain⟨p,hp,rfl⟩:=List.mem_map.1 hN;obtain⟨h1,h2⟩:=List.mem_filter.1 hp;exact⟨p,h1,by simpa using h2,EZ⟩
 have X8:Step M w0 M w (Wr F λi=>i=j\/D i):=hi.step.dF (λb ⟨p,hp,hD,hb⟩=>⟨p,hp,.inr hD,hb⟩) (λb ⟨p,hp,_,hb⟩=>qR p hp b hb);refine ny (o:=o) a98 ?_;obtain⟨acc,BS,X9⟩:=my.use (a:=a) (js:=dm o) (λi o' s' h1 h2 h3 h4=>hi.fin i o' s' h1 h2 (hp i h4) h3) (λi o' s' d h1 h2 h3 h4=>hi.done i o' s' d h1 h2 (hp i h4) h3) (dm o) [] (λ_ h=>h) (λt v h=>by simp[lk]at h) (ho w (LZ a) L0)
 have jA:∀t v,lk (acc++(kE l j L++LZ a)) t=some v->a.tmps[t]? =some v:=by
  intro t v h;rcases l3 h with h|h
  ·exact X9 t v h
  rcases l3 h with h|h
  ·obtain⟨h1,h2⟩:=ke (f:=lu l j) h;refine hi.base t v h2 λi o' kQ hD hd=> ?_
   simp only[lu,List.all_eq_true]at h1;have:=h1 o' (List.mem_of_getElem? kQ);simp only[hd,beq_self_eq_true,Bool.not_true,Bool.false_or,List.contains_iff_mem]at this;exact oB (hi.closed i o' kQ hD j this)
  ·simp only[LZ,List.range_eq_range']at h;obtain⟨_,h2,h3⟩:=yj _ _ _ _ _ h;rw[h3,Array.getD_eq_getD_getElem?,Array.getElem?_eq_getElem q0];rfl
 have Ws:∀t,t<a.tmps.size->∃v,lk (acc++(kE l j L++LZ a)) t=some v:=λt ht=>by
  refine qQ (qQ ?_);simp only[LZ,List.range_eq_range'];exact uT _ _ _ _ (Nat.zero_le _) q0
 have h1:=BS.run a ⟨hi.size,hi.defers,jA⟩
 have key:∀e a' w',up n (ac6 F j o.dst s w (acc++(kE l j L++LZ a)) ds) e a' w'→e= .normal/\wpOpsIn (FW r) 0 P l.toArray Q rest a' w':=by
  rintro e a' w' ⟨L',nj,oz,rfl,rfl,v,rfl,Wt,jV⟩;refine⟨rfl,hk a' w' ⟨X8.trans jV λb _ hb=>by obtain⟨p,h1,h2,h3⟩:=tJ b hb;exact⟨p,h1,.inl h2,h3⟩,?_,oz.size,oz.defers,?_,?_,?_⟩⟩
  ·intro i o' s' h2 h3 h4 h5;by_cases jt:i=j
   ·subst jt;rw[hj]at h2;cases h2;rw[hs]at h3;cases h3;exact⟨v,Wt⟩
   ·have E0:D i:=h4.resolve_left jt;obtain⟨u,j3⟩:=hi.fin i o' s' h2 h3 E0 h5;exact⟨u,ym i o' s' j o s h2 h3 hj hs (λe=>jt e.symm) (λOy=>oB (hi.closed i o' h2 E0 j Oy)) u v w w' j3 jV Wt⟩
  ·intro i o' s' d h2 h3 h4 h5;by_cases jt:i=j
   ·subst jt;rw[hj]at h2;cases h2;rw[hs]at h3;cases h3;exact⟨v,oz.at_ d v (by rw[h5];simp[LY,lk,Nat.beq_refl]),Wt⟩
   ·have E0:D i:=h4.resolve_left jt;obtain⟨u,jP,j3⟩:=hi.done i o' s' d h2 h3 E0 h5;refine⟨u,?_,ym i o' s' j o s h2 h3 hj hs (λe=>jt e.symm) (λOy=>oB (hi.closed i o' h2 E0 j Oy)) u v w w' j3 jV Wt⟩;have Ya:d<a.tmps.size:=(Array.getElem?_eq_some_iff.1 jP).1;obtain⟨u',L3⟩:=Ws d Ya;have e1:=jA d u' L3;rw[jP]at e1;cases e1;refine oz.at_ d u ?_
    cases hod:o.dst with
    |none=>simpa[LY]using L3
    |some d'=>
     have fw:d'≠d:=λe=>xd dO i j o' o d h2 hj jt h5 (by rw[hod,e])
     have hb:Nat.beq d' d=false:=by
      cases hb:Nat.beq d' d with
      |false=>rfl
      |true=>exact absurd (Nat.eq_of_beq_eq_true hb) fw
     simp only[LY,lk,hb];exact L3
  ·intro t u ht Yb;have jj:o.dst≠some t:=Yb j o hj (.inl rfl);have e1:=hi.base t u ht λi o' h2 h3=>Yb i o' h2 (.inr h3)
   have Ya:t<a.tmps.size:=(Array.getElem?_eq_some_iff.1 e1).1;obtain⟨u',L3⟩:=Ws t Ya;have e2:=jA t u' L3;rw[e1]at e2;cases e2;refine oz.at_ t u ?_
   cases hod:o.dst with
   |none=>simpa[LY]using L3
   |some d'=>
    have fw:d'≠t:=λe=>jj (by rw[hod,e])
    have hb:Nat.beq d' t=false:=by
     cases hb:Nat.beq d' t with
     |false=>rfl
     |true=>exact absurd (Nat.eq_of_beq_eq_true hb) fw
    simp only[LY,lk,hb];exact L3
  ·intro i o' h2 h3 k qo;rcases h3 with rfl|h3
   ·rw[hj]at h2;cases h2;exact .inr (hp k qo)
   ·exact .inr (hi.closed i o' h2 h3 k qo)
 clear hk ho ym;simp only[wpListIn]at h1 ⊢
 split
 ·rename_i hw
  rw[if_pos hw]at h1;obtain⟨h3,h4⟩:=h1;refine ⟨h3,?_⟩;generalize (o.semAt (FW r).round a.eval).run P w=res at h4 ⊢
  cases res with
  |ok nx w'=>
   cases nx with
   |value v=>exact⟨trivial,(key _ _ _ h4).2⟩
   |skip=>exact⟨trivial,(key _ _ _ h4).2⟩
   |defer d=>exact⟨trivial,(key _ _ _ h4).2⟩
   |enter f args=>exact⟨h4.1,h4.2.mono λe zI he=>by
     cases e with
     |returned v=>exact⟨trivial,(key _ _ _ he).2⟩
     |panicked c=>exact key _ _ _ he
     |outgrown=>obtain⟨a,w,h⟩:=he;exact⟨a,w,key _ _ _ h⟩⟩
   |row row args=>exact⟨h4.1,h4.2.mono λ_ _ he=>⟨trivial,(key _ _ _ he).2⟩⟩
   |round l f tmps tI body=>exact⟨h4.1,h4.2.mono λe zI he=>by
     cases e with
     |returned v=>exact⟨trivial,(key _ _ _ he).2⟩
     |panicked c=>exact key _ _ _ he
     |outgrown=>obtain⟨a,w,h⟩:=he;exact⟨a,w,key _ _ _ h⟩⟩
   |_=>exact h4.elim
  |halt x w'=>
   cases x with
   |panic v=>exact key _ _ _ h4
   |_=>exact h4.elim
 ·rename_i hw
  rw[if_neg hw]at h1;exact⟨h1.1,trivial,(key _ _ _ h1.2).2⟩
theorem nz:∀{bs:List Bool},bs.countP (!·)=0->∀i,i<bs.length->bs[i]? =some true
 |[],_,i,h=>by simp at h
 |b::bs,h,0,_=>by
  cases b with
  |true=>rfl
  |false=>simp at h
 |b::bs,h,i+1,hi=>by
  cases b with
  |true=>simpa using nz (bs:=bs) a68 i ai7
  |false=>simp at h
theorem pf:∀{bs:List Bool} {i:Nat},bs[i]? =some false->(bs.set i true).countP (!·)+1=bs.countP (!·)
 |[],i,h=>by simp at h
 |b::bs,0,h=>by simp at h;subst h;simp
 |b::bs,i+1,h=>by
  have:=pf (bs:=bs) (i:=i) a68;rw[List.set_cons_succ,List.countP_cons,List.countP_cons];omega
theorem tK {bs:List Bool} (h:0<bs.countP (!·)):∃i:Nat,bs[i]? =some false/\∀k:Nat,k<i->bs[k]? =some true:=by
 induction bs with
 |nil=>simp at h
 |cons b bs ih=>
  cases b with
  |false=>exact⟨0,rfl,λk hk=>by omega⟩
  |true=>
   obtain⟨i,h1,h2⟩:=ih a68
   exact⟨i+1,by simpa using h1,λk hk=>by
    cases k with
    |zero=>rfl
    |succ k=>simpa using h2 k q0⟩
theorem Uf {w0:World} {l:List Oper} {o₁:Oper} {S:List (cw M)} (dO:fu (l++[o₁]) 0=true) (jT:(List.range l.length).all (λi=>(dm o₁).contains i||(dm o₁).any (λk=>(((l++[o₁])[k]?.map dm).getD []).contains i))=true) (Cx:S.length=l.length) (iq:cr P r n F w0 (l++[o₁]) S ds L l S 0) (ym:Fe F (l++[o₁]) S) (qR:∀p∈F,∀b,p.2 b->M b) {Q:Exit->Act->World->Prop}
  (j4:∀a w,Inv F S (l++[o₁]) w0 L ds n (λi=>i<l.length) a w->wpListIn (FW r) 0 P (l++[o₁]).toArray (λe a' w'=>e= .normal/\Q .normal a' w') [o₁] a w):∀(fuel t:Nat) (listed:Array Bool) (a:Act) (w:World),listed.size=(l++[o₁]).length->listed.toList.countP (!·)=fuel->listed[l.length]? =some false->
  Inv F S (l++[o₁]) w0 L ds n (λi=>listed[i]? =some true) a w->wpOpsIn (FW r) 0 P (l++[o₁]).toArray Q (Region.linearise.go .any (l++[o₁]).toArray fuel t listed []) a w:=by
 intro fuel
 induction fuel with
 |zero=>
  intro t listed a w lP hc E1 hi;have:=nz hc l.length (by simp[lP]);have h2:listed.toList[l.length]? =some false:=by simpa using E1
  rw[h2]at this;cases this
 |succ fuel ih=>
  intro t listed a w lP hc E1 hi;have TN:(l++[o₁]).length=l.length+1:=by simp
  have tL:∀j,j∈Region.ready .any (l++[o₁]).toArray listed->∃o,(l++[o₁])[j]? =some o/\listed[j]? =some false/\∀k∈dm o,listed[k]? =some true:=by
   intro j hj;simp only[Region.ready,List.mem_filter,List.mem_range,Bool.and_eq_true]at hj;obtain⟨h1,h2,h3⟩:=hj;have eZ:j<(l++[o₁]).length:=by simpa using h1
   refine⟨(l++[o₁])[j],List.getElem?_eq_getElem eZ,?_,?_⟩
   ·rw[Array.getElem?_eq_getElem q0];simp only[Array.getD_eq_getD_getElem?,Array.getElem?_eq_getElem (show j<listed.size by omega),Option.getD_some,Bool.not_eq_true']at h2;rw[h2]
   ·intro k hk;simp only[dm,List.mem_map,List.mem_filter]at hk;obtain⟨e,⟨Yc,Yd⟩,rfl⟩:=hk;have h4:(l++[o₁]).toArray[j]? =some (l++[o₁])[j]:=by rw[List.getElem?_toArray];exact List.getElem?_eq_getElem eZ
    rw[h4]at h3;simp only[Option.map_some,Option.getD_some,Array.all_eq_true_iff_forall_mem]at h3;have h5:=h3 e (by simpa using Yc);rw[Yd]at h5;simp only[Bool.not_true,Bool.false_or,Array.getD_eq_getD_getElem?]at h5
    cases hx:listed[e.on]? with
    |none=>simp[hx]at h5
    |some b=>simp[hx]at h5;rw[h5]
  have fw:Region.ready .any (l++[o₁]).toArray listed≠[]:=by
   obtain⟨i,h1,h2⟩:=tK (bs:=listed.toList) q0
   have eZ:i<(l++[o₁]).length:=by
    have:=(List.getElem?_eq_some_iff.1 h1).1;simp only[Array.length_toList]at this;omega
   intro tM
   have ir:i∈Region.ready .any (l++[o₁]).toArray listed:=by
    simp only[Region.ready,List.mem_filter,List.mem_range,Bool.and_eq_true];refine⟨by simpa using eZ,?_,?_⟩
    ·have:listed[i]? =some false:=by simpa using h1
     simp[Array.getD_eq_getD_getElem?,this]
    ·have h4:(l++[o₁]).toArray[i]? =some (l++[o₁])[i]:=by rw[List.getElem?_toArray];exact List.getElem?_eq_getElem eZ
     rw[h4];simp only[Option.map_some,Option.getD_some,Array.all_eq_true_iff_forall_mem];intro e he
     cases hb:Region.binds .any e with
     |false=>rfl
     |true=>
      have hk:e.on∈dm (l++[o₁])[i]:=by
       simp only[dm,List.mem_map,List.mem_filter];exact⟨e,⟨by simpa using he,hb⟩,rfl⟩
      have ac8:=dH dO i (l++[o₁])[i] (List.getElem?_eq_getElem eZ) _ hk;have:listed[e.on]? =some true:=by simpa using h2 e.on q0
      simp[Array.getD_eq_getD_getElem?,this]
   rw[tM]at ir;cases ir
  simp only[Region.linearise.go]
  change wpOpsIn (FW r) 0 P (l++[o₁]).toArray Q (match (Region.ready .any (l++[o₁]).toArray listed)[t%(Region.ready .any (l++[o₁]).toArray listed).length]? with
   |some i=>Region.linearise.go .any (l++[o₁]).toArray fuel (t/(Region.ready .any (l++[o₁]).toArray listed).length) (listed.setIfInBounds i true) [i]
   |none=>[].reverse) a w
  have eZ:t%(Region.ready .any (l++[o₁]).toArray listed).length<(Region.ready .any (l++[o₁]).toArray listed).length:=Nat.mod_lt _ (List.length_pos_iff.2 fw);rw[List.getElem?_eq_getElem eZ];have ir:=List.getElem_mem eZ;generalize (Region.ready .any (l++[o₁]).toArray listed)[t%(Region.ready .any (l++[o₁]).toArray listed).length]=j at ir;obtain⟨o,h1,h2,h3⟩:=tL j ir;simp only[];rw[linearise_go_acc,List.reverse_singleton,List.singleton_append];have qn:j<l.length+1:=by have:=(List.getElem?_eq_some_iff.1 h1).1;omega
  have H0:listed.toList[j]? =some false:=by simpa using h2
  have ajC:=pf H0;by_cases H2:j=l.length
  ·subst H2;have ho:o=o₁:=by simpa using h1.symm
   subst ho
   have zK:∀i,i<l.length->listed[i]? =some true:=λi kQ=>by
    have:=List.all_eq_true.1 jT i (List.mem_range.2 kQ);simp only[Bool.or_eq_true,List.contains_iff_mem,List.any_eq_true]at this;rcases this with h|⟨k,qJ,DB⟩
    ·exact h3 i h
    ·cases nq:(l++[o])[k]? with
     |none=>rw[nq]at DB;simp at DB
     |some ok=>rw[nq]at DB;exact hi.closed k ok nq (h3 k qJ) i (by simpa using DB)
   have hf0:fuel=0:=by
    have hz:(listed.toList.set l.length true).countP (!·)=0:=by
     rw[List.countP_eq_zero];intro b hb;obtain⟨i,kQ⟩:=List.mem_iff_getElem?.1 hb;rw[List.getElem?_set]at kQ
     split at kQ
     ·split at kQ
      ·cases kQ;simp
      ·cases kQ
     ·have sk:=(List.getElem?_eq_some_iff.1 kQ).1;simp only[Array.length_toList]at sk;have:=zK i q0;have h9:listed.toList[i]? =some true:=by simpa using this
      rw[kQ]at h9;cases h9;simp
    omega
   subst hf0;simp only[Region.linearise.go,List.reverse_nil];refine ny (o:=o) (by simp) ?_;refine j4 a w ⟨hi.step.dF (λb ⟨p,hp,hD,hb⟩=>⟨p,hp,?_,hb⟩) (λb ⟨p,hp,_,hb⟩=>qR p hp b hb),λi o s h1 h2 h3=>hi.fin i o s h1 h2 (zK i h3),hi.size,hi.defers,λi o s d h1 h2 h3=>hi.done i o s d h1 h2 (zK i h3),λt v h4 h5=>hi.base t v h4 λi o' h6 h7=>h5 i o' h6 ?_,λi o' h4 h5 k hk=>?_⟩
   ·have sk:=(Array.getElem?_eq_some_iff.1 hD).1;rcases Nat.lt_or_ge p.1 l.length with h|h
    ·exact h
    ·have:p.1=l.length:=by omega
     rw[this,E1]at hD;cases hD
   ·rcases Nat.lt_or_ge i l.length with h|h
    ·exact h
    ·have sk:=(List.getElem?_eq_some_iff.1 h6).1;have:i=l.length:=by omega
     rw[this,E1]at h7;cases h7
   ·have:=dH dO i o' h4 k hk;omega
  ·have hlj:l[j]? =some o:=by rwa [List.getElem?_append_left q0]at h1
   refine hi.next dO ym qR (by have:=iq.get j o hlj;rwa [Nat.zero_add]at this) h1 (by rw[h2];simp) h3 λa' w' kQ=> ?_
   refine ih _ _ _ _ (by simpa using lP) ?_ ?_ ?_
   ·simp only[Array.toList_setIfInBounds];omega
   ·rw[Array.getElem?_setIfInBounds,if_neg H2];exact E1
   ·have ON:j<listed.size:=(Array.getElem?_eq_some_iff.1 h2).1
    have sm:∀i,((listed.setIfInBounds j true)[i]? =some true)↔(i=j\/listed[i]? =some true):=by
     intro i;rw[Array.getElem?_setIfInBounds];by_cases jt:j=i
     ·subst jt;simp[ON]
     ·rw[if_neg jt];exact⟨.inr,λh=>h.resolve_left (λe=>jt e.symm)⟩
    exact⟨kQ.step.dF (λb ⟨p,hp,hD,hb⟩=>⟨p,hp,(sm p.1).2 hD,hb⟩) (λb ⟨p,hp,_,hb⟩=>qR p hp b hb),λi o s h1 h2 h3=>kQ.fin i o s h1 h2 ((sm i).1 h3),kQ.size,kQ.defers,λi o s d h1 h2 h3=>kQ.done i o s d h1 h2 ((sm i).1 h3),λt v h1 h2=>kQ.base t v h1 λi o h3 h4=>h2 i o h3 ((sm i).2 h4),λi o h1 h2 k hk=>(sm k).2 (kQ.closed i o h1 ((sm i).1 h2) k hk)⟩
theorem T.OO {id:Nat} {l:List Oper} {o₁:Oper} (hm:P.follows .mixedOrders=true) (F:List (Nat×aE)) (S:List (cw M)) (dO:fu (l++[o₁]) 0=true) (jT:(List.range l.length).all (λi=>(dm o₁).contains i||(dm o₁).any (λk=>(((l++[o₁])[k]?.map dm).getD []).contains i))=true) (Cx:S.length=l.length) (qR:∀p∈F,∀b,p.2 b->M b) (ym:si F (l++[o₁]) S 0) (iq:cr P r n F w (l++[o₁]) S ds L l S 0)
  (j4:∀w',Step M w M w' (jO (F.map (·.2)))->iA w' (λacc=>Rg P r n (l++[o₁]).toArray [o₁] (acc++kE (l++[o₁]) (l.length+1) L) ds w' (λe L ds w=>e= .normal/\K .normal L ds w)) l S []):T P r n (.region id (l++[o₁]).toArray true) L ds w K:=by
 refine ⟨λa ha=>wpIn_region_draw λt=> ?_⟩;simp only[Region.schedule,hm,Bool.true_or,if_true,Region.linearise];have hd:Step M w M {w with drawn:=w.drawn+1} ar:=oA M w;refine Uf (w0:=w) (S:=S) dO jT Cx iq ym.st qR (Q:=up n K) ?_ _ t _ a _ (by simp) a94 (by simp[Array.getElem?_replicate]) ⟨hd.dF a15 (λb ⟨p,hp,_,hb⟩=>qR p hp b hb),?_,ha.size,ha.defers,?_,?_,?_⟩
 ·intro a' w' hi
  have jb:∀{i:Nat} {o:Oper},l[i]? =some o->(l++[o₁])[i]? =some o/\i<l.length:=λ{i o} h=>by
   have h1:=(List.getElem?_eq_some_iff.1 h).1;exact⟨by rw[List.getElem?_append_left h1];exact h,h1⟩
  obtain⟨acc,h1,h2⟩:=iA.use (a:=a') l S [] (λi o s h1 h2 h3=>hi.fin i o s (jb h1).1 h2 (jb h1).2 h3) (λi o s d h1 h2 h3=>hi.done i o s d (jb h1).1 h2 (jb h1).2 h3) (λt v h=>by simp[lk]at h)
   (j4 w' (hi.step.dF (λb ⟨p,hp,_,hb⟩=>fZ.2 ⟨p.2,List.mem_map.2 ⟨p,hp,rfl⟩,hb⟩) (λb hb=>by
    obtain⟨N,hN,EZ⟩:=fZ.1 hb;obtain⟨p,hp,rfl⟩:=List.mem_map.1 hN;exact qR p hp b EZ)))
  have h3:=h1.run a' ⟨hi.size,hi.defers,λt v h=>by
   rcases l3 h with h|h
   ·exact h2 t v h
   ·obtain⟨h3,h4⟩:=ke (f:=lu (l++[o₁]) (l.length+1)) h;refine hi.base t v h4 λi o h5 _ h6=> ?_
    simp only[lu,List.all_eq_true]at h3;have:=h3 o (List.mem_of_getElem? h5);simp only[h6,beq_self_eq_true,Bool.not_true,Bool.false_or,List.contains_iff_mem]at this;have h7:=dH dO i o h5 _ this;have h8:=(List.getElem?_eq_some_iff.1 h5).1;simp at h8;omega⟩
  exact zJ h3 λe a2 w2 ⟨L2,ds2,Wu,he,hk⟩=>⟨he,L2,ds2,Wu,hk⟩
 ·intro i o s h1 h2 h3;simp[Array.getElem?_replicate]at h3
 ·intro i o s d h1 h2 h3;simp[Array.getElem?_replicate]at h3
 ·intro t v h1 _;exact ha.at_ t v h1
 ·intro i o h1 h2;simp[Array.getElem?_replicate]at h2
def kT (l:List Oper) (k:Nat):Bool:=(List.range' k (l.length-k)).all λj=>((l[j]?.map dm).getD []).contains (j-1)
theorem mz {l:List Oper} {k:Nat} (h:kT l k=true) {j:Nat} {o:Oper} (hj:k<=j) (ho:l[j]? =some o):j-1∈dm o:=by
 have eZ:=(List.getElem?_eq_some_iff.1 ho).1;have:=List.all_eq_true.1 h j (List.mem_range'_1.2 ⟨hj,by omega⟩);rw[ho]at this;simpa using this
theorem OP {l:List Oper} (dO:fu l 0=true):∀(fuel k t:Nat) (listed:Array Bool),listed.size=l.length->k+fuel=l.length->kT l (k+1)=true->(∀i,i<k->listed[i]? =some true)->(∀i,k<=i->i<l.length->listed[i]? =some false)->(∀i o,l[i]? =some o->i=k->∀j∈dm o,j<k)->
  Region.linearise.go .any l.toArray fuel t listed []=List.range' k fuel:=by
 intro fuel
 induction fuel with
 |zero=>intro k t listed _ _ _ _ _ _;rfl
 |succ fuel ih=>
  intro k t listed lP hk BT h1 h2 h3
  have tL:Region.ready .any l.toArray listed=[k]:=by
   have ir:∀j,j∈Region.ready .any l.toArray listed↔j=k:=by
    intro j;simp only[Region.ready,List.mem_filter,List.mem_range,Bool.and_eq_true];constructor
    ·rintro⟨g1,g2,g3⟩;have qn:j<l.length:=by simpa using g1
     rcases Nat.lt_trichotomy j k with h|h|h
     ·have:=h1 j h;simp[Array.getD_eq_getD_getElem?,this]at g2
     ·exact h
     ·exfalso;have hp:=mz BT (j:=j) q0 (List.getElem?_eq_getElem qn);simp only[dm,List.mem_map,List.mem_filter]at hp;obtain⟨e,⟨Yc,Yd⟩,he3⟩:=hp;have h4:l.toArray[j]? =some l[j]:=by rw[List.getElem?_toArray];exact List.getElem?_eq_getElem qn
      rw[h4]at g3;simp only[Option.map_some,Option.getD_some,Array.all_eq_true_iff_forall_mem]at g3;have h5:=g3 e (by simpa using Yc);rw[Yd,he3]at h5;have:=h2 (j-1) q0 q0;simp[Array.getD_eq_getD_getElem?,this]at h5
    ·rintro rfl;have qn:j<l.length:=by omega
     refine⟨by simpa using qn,?_,?_⟩
     ·have:=h2 j (Nat.le_refl _) qn;simp[Array.getD_eq_getD_getElem?,this]
     ·have h4:l.toArray[j]? =some l[j]:=by rw[List.getElem?_toArray];exact List.getElem?_eq_getElem qn
      rw[h4];simp only[Option.map_some,Option.getD_some,Array.all_eq_true_iff_forall_mem];intro e he
      cases hb:Region.binds .any e with
      |false=>rfl
      |true=>
       have Ug:e.on∈dm l[j]:=by simp only[dm,List.mem_map,List.mem_filter];exact⟨e,⟨by simpa using he,hb⟩,rfl⟩
       have:=h1 _ (h3 j l[j] (List.getElem?_eq_getElem qn) rfl _ Ug);simp[Array.getD_eq_getD_getElem?,this]
   have lU:(Region.ready .any l.toArray listed).Nodup:=by unfold Region.ready;exact List.Pairwise.filter _ List.nodup_range
   cases hr:Region.ready .any l.toArray listed with
   |nil=>have:=(ir k).2 rfl;rw[hr]at this;cases this
   |cons x xs=>
    have hx:x=k:=(ir x).1 (by rw[hr];exact List.mem_cons_self ..)
    cases xs with
    |nil=>rw[hx]
    |cons y ys=>
     have hy:y=k:=(ir y).1 (by rw[hr];simp);rw[hr]at lU;simp[hx,hy]at lU
  simp only[Region.linearise.go]
  change(match (Region.ready .any l.toArray listed)[t%(Region.ready .any l.toArray listed).length]? with
   |some i=>Region.linearise.go .any l.toArray fuel (t/(Region.ready .any l.toArray listed).length) (listed.setIfInBounds i true) [i]
   |none=>[].reverse)=_
  rw[tL];simp only[List.length_singleton,Nat.mod_one,List.getElem?_cons_zero];rw[linearise_go_acc,List.reverse_singleton,List.singleton_append];have Im:k<listed.size:=by omega
  rw[ih (k+1) _ _ (by simpa using lP) q0 (by
   simp only[kT,List.all_eq_true]at BT ⊢;intro j hj;exact BT j (by rw[List.mem_range'_1]at hj ⊢;omega)) ?_ ?_ ?_]
  ·rfl
  ·intro i hi;rw[Array.getElem?_setIfInBounds];by_cases e:k=i
   ·subst e;simp[Im]
   ·rw[if_neg e];exact h1 i q0
  ·intro i hi sk;rw[Array.getElem?_setIfInBounds,if_neg q0];exact h2 i q0 sk
  ·intro i o ho hi j hj;have:=dH dO i o ho j hj;omega
def lj (l:List Oper):Nat->List Nat->Bool
 |0,_=>true
 |j+1,acc=>acc.contains j&&lj l j (acc++(l[j]?.map dm).getD [])
theorem tN {l:List Oper} {D:Nat->Prop} (ku:∀k o,l[k]? =some o->D k->∀i∈dm o,D i):∀(j:Nat) (acc:List Nat),lj l j acc=true->(∀k∈acc,D k)->∀i,i<j->D i
 |0,_,_,_,i,hi=>by omega
 |j+1,acc,h,ha,i,hi=>by
  simp only[lj,Bool.and_eq_true,List.contains_iff_mem]at h;have hj:=ha j h.1;rcases Nat.lt_or_ge i j with eZ|nk
  ·refine tN ku j _ h.2 (λk hk=>?_) i eZ;rcases List.mem_append.1 hk with hk|hk
   ·exact ha k hk
   ·cases ho:l[j]? with
    |none=>rw[ho]at hk;simp at hk
    |some o=>rw[ho]at hk;exact ku j o ho hj k (by simpa using hk)
  ·rw[show i=j from by omega];exact hj
theorem zL {l:List Oper} {o₁:Oper} {tl:List Oper} {J:(Nat->Prop)->Act->World->Prop} (dO:fu (l++o₁::tl) 0=true) (jT:lj (l++o₁::tl) l.length (dm o₁)=true) (BT:kT (l++o₁::tl) (l.length+1)=true)
  (Ff:∀{D D':Nat->Prop} {a w},J D a w->(∀i,i<(l++o₁::tl).length->(D' i↔D i))->J D' a w) {Q:Exit->Act->World->Prop}
  (OQ:∀{D:Nat->Prop} {a w j o rest},j<l.length->l[j]? =some o->¬D j->(∀k∈dm o,D k)->(∀i o,(l++o₁::tl)[i]? =some o->D i->∀k∈dm o,D k)->J D a w->(∀a' w',J (λi=>i=j\/D i) a' w'→wpOpsIn (FW r) 0 P (l++o₁::tl).toArray Q rest a' w')->wpOpsIn (FW r) 0 P (l++o₁::tl).toArray Q (j::rest) a w)
  (j4:∀a w,J (λi=>i<l.length) a w->wpListIn (FW r) 0 P (l++o₁::tl).toArray Q (o₁::tl) a w):∀(fuel t:Nat) (listed:Array Bool) (a:Act) (w:World),listed.size=(l++o₁::tl).length->listed.toList.countP (!·)=fuel->(∀i,l.length<=i->i<(l++o₁::tl).length->listed[i]? =some false)->
  (∀(i:Nat) (o:Oper),(l++o₁::tl)[i]? =some o->listed[i]? =some true->∀k∈dm o,listed[k]? =some true)->J (λi=>listed[i]? =some true) a w->wpOpsIn (FW r) 0 P (l++o₁::tl).toArray Q (Region.linearise.go .any (l++o₁::tl).toArray fuel t listed []) a w:=by
 intro fuel
 induction fuel with
 |zero=>
  intro t listed a w lP hc E1 ku hi;have:=nz hc l.length (by simp[lP]);have h2:listed.toList[l.length]? =some false:=by simpa using E1 l.length (Nat.le_refl _) (by simp)
  rw[h2]at this;cases this
 |succ fuel ih=>
  intro t listed a w lP hc E1 ku hi;have TN:(l++o₁::tl).length=l.length+1+tl.length:=by simp;omega
  have auw:listed[l.length]? =some false:=E1 l.length (Nat.le_refl _) q0
  have tL:∀j,j∈Region.ready .any (l++o₁::tl).toArray listed->∃o,(l++o₁::tl)[j]? =some o/\listed[j]? =some false/\∀k∈dm o,listed[k]? =some true:=by
   intro j hj;simp only[Region.ready,List.mem_filter,List.mem_range,Bool.and_eq_true]at hj;obtain⟨h1,h2,h3⟩:=hj;have eZ:j<(l++o₁::tl).length:=by simpa using h1
   refine⟨(l++o₁::tl)[j],List.getElem?_eq_getElem eZ,?_,?_⟩
   ·rw[Array.getElem?_eq_getElem q0];simp only[Array.getD_eq_getD_getElem?,Array.getElem?_eq_getElem (show j<listed.size by omega),Option.getD_some,Bool.not_eq_true']at h2;rw[h2]
   ·intro k hk;simp only[dm,List.mem_map,List.mem_filter]at hk;obtain⟨e,⟨Yc,Yd⟩,rfl⟩:=hk;have h4:(l++o₁::tl).toArray[j]? =some (l++o₁::tl)[j]:=by rw[List.getElem?_toArray];exact List.getElem?_eq_getElem eZ
    rw[h4]at h3;simp only[Option.map_some,Option.getD_some,Array.all_eq_true_iff_forall_mem]at h3;have h5:=h3 e (by simpa using Yc);rw[Yd]at h5;simp only[Bool.not_true,Bool.false_or,Array.getD_eq_getD_getElem?]at h5
    cases hx:listed[e.on]? with
    |none=>simp[hx]at h5
    |some b=>simp[hx]at h5;rw[h5]
  have fw:Region.ready .any (l++o₁::tl).toArray listed≠[]:=by
   obtain⟨i,h1,h2⟩:=tK (bs:=listed.toList) q0
   have eZ:i<(l++o₁::tl).length:=by
    have:=(List.getElem?_eq_some_iff.1 h1).1;simp only[Array.length_toList]at this;omega
   intro tM
   have ir:i∈Region.ready .any (l++o₁::tl).toArray listed:=by
    simp only[Region.ready,List.mem_filter,List.mem_range,Bool.and_eq_true];refine⟨by simpa using eZ,?_,?_⟩
    ·have:listed[i]? =some false:=by simpa using h1
     simp[Array.getD_eq_getD_getElem?,this]
    ·have h4:(l++o₁::tl).toArray[i]? =some (l++o₁::tl)[i]:=by rw[List.getElem?_toArray];exact List.getElem?_eq_getElem eZ
     rw[h4];simp only[Option.map_some,Option.getD_some,Array.all_eq_true_iff_forall_mem];intro e he
     cases hb:Region.binds .any e with
     |false=>rfl
     |true=>
      have hk:e.on∈dm (l++o₁::tl)[i]:=by
       simp only[dm,List.mem_map,List.mem_filter];exact⟨e,⟨by simpa using he,hb⟩,rfl⟩
      have ac8:=dH dO i (l++o₁::tl)[i] (List.getElem?_eq_getElem eZ) _ hk;have:listed[e.on]? =some true:=by simpa using h2 e.on q0
      simp[Array.getD_eq_getD_getElem?,this]
   rw[tM]at ir;cases ir
  simp only[Region.linearise.go]
  change wpOpsIn (FW r) 0 P (l++o₁::tl).toArray Q (match (Region.ready .any (l++o₁::tl).toArray listed)[t%(Region.ready .any (l++o₁::tl).toArray listed).length]? with
   |some i=>Region.linearise.go .any (l++o₁::tl).toArray fuel (t/(Region.ready .any (l++o₁::tl).toArray listed).length) (listed.setIfInBounds i true) [i]
   |none=>[].reverse) a w
  have eZ:t%(Region.ready .any (l++o₁::tl).toArray listed).length<(Region.ready .any (l++o₁::tl).toArray listed).length:=Nat.mod_lt _ (List.length_pos_iff.2 fw);rw[List.getElem?_eq_getElem eZ];have ir:=List.getElem_mem eZ;generalize (Region.ready .any (l++o₁::tl).toArray listed)[t%(Region.ready .any (l++o₁::tl).toArray listed).length]=j at ir;obtain⟨o,h1,h2,h3⟩:=tL j ir;simp only[];rw[linearise_go_acc,List.reverse_singleton,List.singleton_append];have qn:j<l.length+1+tl.length:=by have:=(List.getElem?_eq_some_iff.1 h1).1;omega
  have H0:listed.toList[j]? =some false:=by simpa using h2
  have ajC:=pf H0;by_cases H2:j=l.length
  ·subst H2;have ho:o=o₁:=by simpa using h1.symm
   subst ho;have zK:∀i,i<l.length->listed[i]? =some true:=λi kQ=>tN (D:=λi=>listed[i]? =some true) ku l.length (dm o) jT (λk hk=>h3 k hk) i kQ
   have hfu:fuel=tl.length:=by
    have hz:((listed.toList.set l.length true).drop (l.length+1)).countP (!·)=tl.length:=by
     rw[List.drop_set_of_lt q0]
     have jA:∀b∈listed.toList.drop (l.length+1),(!b)=true:=by
      intro b hb;obtain⟨i,kQ⟩:=List.mem_iff_getElem?.1 hb;rw[List.getElem?_drop]at kQ;have sk:=(List.getElem?_eq_some_iff.1 kQ).1;simp only[Array.length_toList]at sk;have:=E1 (l.length+1+i) q0 q0;have h9:listed.toList[l.length+1+i]? =some false:=by simpa using this
      rw[kQ]at h9;cases h9;rfl
     rw[List.countP_eq_length.2 jA,List.length_drop,Array.length_toList];omega
    have hy:((listed.toList.set l.length true).take (l.length+1)).countP (!·)=0:=by
     rw[List.countP_eq_zero];intro b hb;obtain⟨i,kQ⟩:=List.mem_iff_getElem?.1 hb;rw[List.getElem?_take]at kQ
     split at kQ
     ·rw[List.getElem?_set]at kQ
      split at kQ
      ·split at kQ
       ·cases kQ;simp
       ·cases kQ
      ·have:=zK i q0;have h9:listed.toList[i]? =some true:=by simpa using this
       rw[kQ]at h9;cases h9;simp
     ·cases kQ
    have:=List.take_append_drop (l.length+1) (listed.toList.set l.length true)
    have h8:(listed.toList.set l.length true).countP (!·)=0+tl.length:=by
     rw[<-hy,<-hz,<-List.countP_append,this]
    omega
   subst hfu;have yM:l.length<listed.size:=by omega
   rw[OP dO tl.length (l.length+1) _ _ (by simpa using lP) q0 (by
    simp only[kT,List.all_eq_true]at BT ⊢;intro j hj
    exact BT j (by rw[List.mem_range'_1]at hj ⊢;omega)) (λi kQ=>by
     rw[Array.getElem?_setIfInBounds];by_cases e:l.length=i
     ·subst e;simp[yM]
     ·rw[if_neg e];exact zK i q0) (λi h5 h6=>by
     rw[Array.getElem?_setIfInBounds,if_neg q0];exact E1 i q0 h6) (λi o' jk he j hj=>by have:=dH dO i o' jk j hj;omega)]
   have hrg:l.length::List.range' (l.length+1) tl.length=List.range' l.length (o::tl).length:=by simp[List.range'_succ]
   rw[hrg,wpOpsIn_eq_wpListIn (o::tl) l.length (λj=>by rw[List.getElem?_toArray,List.getElem?_append_right q0];congr 1;omega)]
   exact j4 a w (Ff hi λi sk=>⟨λh=>zK i h,λh=>by
    rcases Nat.lt_or_ge i l.length with h5|h5
    ·exact h5
    ·have h6:=E1 i h5 sk;rw[h6]at h;cases h⟩)
  ·have ac9:j<l.length:=by
    rcases Nat.lt_or_ge j l.length with h|h
    ·exact h
    ·exfalso;have hp:=h3 _ (mz BT (j:=j) q0 h1);rw[E1 (j-1) q0 q0]at hp;cases hp
   have hlj:l[j]? =some o:=by rwa [List.getElem?_append_left q0]at h1
   refine OQ ac9 hlj (by rw[h2];simp) h3 ku hi λa' w' kQ=> ?_
   have ON:j<listed.size:=(Array.getElem?_eq_some_iff.1 h2).1
   have sm:∀i,((listed.setIfInBounds j true)[i]? =some true)↔(i=j\/listed[i]? =some true):=by
    intro i;rw[Array.getElem?_setIfInBounds];by_cases jt:j=i
    ·subst jt;simp[ON]
    ·rw[if_neg jt];exact⟨.inr,λh=>h.resolve_left (λe=>jt e.symm)⟩
   refine ih _ _ _ _ (by simpa using lP) ?_ ?_ ?_ (Ff kQ λi _=>sm i)
   ·simp only[Array.toList_setIfInBounds];omega
   ·intro i h5 h6;rw[Array.getElem?_setIfInBounds,if_neg q0];exact E1 i h5 h6
   ·intro i o' h5 h6 k hk;rcases(sm i).1 h6 with e|h7
    ·subst e;have:o'=o:=by rw[h1]at h5;exact(Option.some.inj h5).symm
     subst this;exact(sm k).2 (.inr (h3 k hk))
    ·exact(sm k).2 (.inr (ku i o' h5 h7 k hk))
theorem mA {l:List Oper} {J:(Nat->Prop)->Act->World->Prop} (dO:fu l 0=true)
  (Ff:∀{D D':Nat->Prop} {a w},J D a w->(∀i,i<l.length->(D' i↔D i))->J D' a w) {Q:Exit->Act->World->Prop}
  (OQ:∀{D:Nat->Prop} {a w j o rest},j<l.length->l[j]? =some o->¬D j->(∀k∈dm o,D k)->(∀i o,l[i]? =some o->D i->∀k∈dm o,D k)->J D a w->(∀a' w',J (λi=>i=j\/D i) a' w'→wpOpsIn (FW r) 0 P l.toArray Q rest a' w')->wpOpsIn (FW r) 0 P l.toArray Q (j::rest) a w)
  (j4:∀a w,J (λi=>i<l.length) a w->Q .normal a w):∀(fuel t:Nat) (listed:Array Bool) (a:Act) (w:World),listed.size=l.length->listed.toList.countP (!·)=fuel->
  (∀(i:Nat) (o:Oper),l[i]? =some o->listed[i]? =some true->∀k∈dm o,listed[k]? =some true)->J (λi=>listed[i]? =some true) a w->wpOpsIn (FW r) 0 P l.toArray Q (Region.linearise.go .any l.toArray fuel t listed []) a w:=by
 intro fuel
 induction fuel with
 |zero=>
  intro t listed a w lP hc ku hi;simp only[Region.linearise.go,List.reverse_nil,wpOpsIn];exact j4 a w (Ff hi λi sk=>⟨λh=>by simpa using nz hc i (by simp[lP];exact h),λh=>sk⟩)
 |succ fuel ih=>
  intro t listed a w lP hc ku hi
  have tL:∀j,j∈Region.ready .any l.toArray listed->∃o,l[j]? =some o/\listed[j]? =some false/\∀k∈dm o,listed[k]? =some true:=by
   intro j hj;simp only[Region.ready,List.mem_filter,List.mem_range,Bool.and_eq_true]at hj;obtain⟨h1,h2,h3⟩:=hj;have eZ:j<l.length:=by simpa using h1
   refine⟨l[j],List.getElem?_eq_getElem eZ,?_,?_⟩
   ·rw[Array.getElem?_eq_getElem q0];simp only[Array.getD_eq_getD_getElem?,Array.getElem?_eq_getElem (show j<listed.size by omega),Option.getD_some,Bool.not_eq_true']at h2;rw[h2]
   ·intro k hk;simp only[dm,List.mem_map,List.mem_filter]at hk;obtain⟨e,⟨Yc,Yd⟩,rfl⟩:=hk;have h4:l.toArray[j]? =some l[j]:=by simp[eZ]
    rw[h4]at h3;simp only[Option.map_some,Option.getD_some,Array.all_eq_true_iff_forall_mem]at h3;have h5:=h3 e (by simpa using Yc);rw[Yd]at h5;simp only[Bool.not_true,Bool.false_or,Array.getD_eq_getD_getElem?]at h5
    cases hx:listed[e.on]? with
    |none=>simp[hx]at h5
    |some b=>simp[hx]at h5;rw[h5]
  have fw:Region.ready .any l.toArray listed≠[]:=by
   obtain⟨i,h1,h2⟩:=tK (bs:=listed.toList) q0
   have eZ:i<l.length:=by
    have:=(List.getElem?_eq_some_iff.1 h1).1;simp at this;omega
   intro tM
   have ir:i∈Region.ready .any l.toArray listed:=by
    simp only[Region.ready,List.mem_filter,List.mem_range,Bool.and_eq_true];refine⟨by simpa using eZ,?_,?_⟩
    ·have:listed[i]? =some false:=by simpa using h1
     simp[Array.getD_eq_getD_getElem?,this]
    ·have h4:l.toArray[i]? =some l[i]:=by simp[eZ]
     rw[h4];simp only[Option.map_some,Option.getD_some,Array.all_eq_true_iff_forall_mem];intro e he
     cases hb:Region.binds .any e with
     |false=>rfl
     |true=>
      have hk:e.on∈dm l[i]:=by
       simp only[dm,List.mem_map,List.mem_filter];exact⟨e,⟨by simpa using he,hb⟩,rfl⟩
      have ac8:=dH dO i l[i] (List.getElem?_eq_getElem eZ) _ hk;have:listed[e.on]? =some true:=by simpa using h2 e.on q0
      simp[Array.getD_eq_getD_getElem?,this]
   rw[tM]at ir;cases ir
  simp only[Region.linearise.go]
  change wpOpsIn (FW r) 0 P l.toArray Q (match (Region.ready .any l.toArray listed)[t%(Region.ready .any l.toArray listed).length]? with
   |some i=>Region.linearise.go .any l.toArray fuel (t/(Region.ready .any l.toArray listed).length) (listed.setIfInBounds i true) [i]
   |none=>[].reverse) a w
  have eZ:t%(Region.ready .any l.toArray listed).length<(Region.ready .any l.toArray listed).length:=Nat.mod_lt _ (List.length_pos_iff.2 fw);rw[List.getElem?_eq_getElem eZ];have ir:=List.getElem_mem eZ;generalize (Region.ready .any l.toArray listed)[t%(Region.ready .any l.toArray listed).length]=j at ir;obtain⟨o,h1,h2,h3⟩:=tL j ir;simp only[];rw[linearise_go_acc,List.reverse_singleton,List.singleton_append];have qn:j<l.length:=(List.getElem?_eq_some_iff.1 h1).1;refine OQ qn h1 (by rw[h2];simp) h3 ku hi λa' w' kQ=> ?_
  have H0:listed.toList[j]? =some false:=by simpa using h2
  have ON:j<listed.size:=(Array.getElem?_eq_some_iff.1 h2).1
  have sm:∀i,((listed.setIfInBounds j true)[i]? =some true)↔(i=j\/listed[i]? =some true):=by
   intro i;rw[Array.getElem?_setIfInBounds];by_cases jt:j=i
   ·subst jt;simp[ON]
   ·rw[if_neg jt];exact⟨.inr,λh=>h.resolve_left (λe=>jt e.symm)⟩
  refine ih _ _ _ _ (by simpa using lP) ?_ ?_ (Ff kQ λi _=>sm i)
  ·have:=pf H0;simp only[Array.toList_setIfInBounds];omega
  ·intro i o' h5 h6 k hk;rcases(sm i).1 h6 with e|h7
   ·subst e;have:o'=o:=by rw[h1]at h5;exact(Option.some.inj h5).symm
    subst this;exact(sm k).2 (.inr (h3 k hk))
   ·exact(sm k).2 (.inr (ku i o' h5 h7 k hk))
theorem Inv.iff {w0:World} {l:List Oper} {S:List (cw M)} {D D':Nat->Prop} {a:Act} {w:World} (hi:Inv F S l w0 L ds n D a w) (h:∀i,D i↔D' i):Inv F S l w0 L ds n D' a w:=by
 have e:D=D':=funext λi=>propext (h i)
 exact e▸hi
theorem L4 {w0:World} {l:List Oper} {S:List (cw M)} (dO:fu l 0=true) (iq:cr P r n F w0 l S ds L l S 0) (ym:Fe F l S) (qR:∀p∈F,∀b,p.2 b->M b) {Q:Exit->Act->World->Prop}
  (j4:∀a w,Inv F S l w0 L ds n (λi=>i<l.length) a w->Q .normal a w):∀(fuel t:Nat) (listed:Array Bool) (a:Act) (w:World),listed.size=l.length->listed.toList.countP (!·)=fuel->
  Inv F S l w0 L ds n (λi=>listed[i]? =some true) a w->wpOpsIn (FW r) 0 P l.toArray Q (Region.linearise.go .any l.toArray fuel t listed []) a w:=by
 intro fuel t listed a w lP hc hi;refine mA (J:=λD a w=>Inv F S l w0 L ds n (λi=>D i/\i<l.length) a w) dO (λhj hD=>hj.iff λi=>⟨λh=>⟨(hD i h.2).2 h.1,h.2⟩,λh=>⟨(hD i h.2).1 h.1,h.2⟩⟩) (λ{D a w j o rest} qn ho oB hp ku hi hk=>?_) (λa w h=>j4 a w (h.iff λi=>⟨λh=>h.1,λh=>⟨h,h⟩⟩)) fuel t listed a w lP hc (λi o h1 h2 k hk=>hi.closed i o h1 h2 k hk) (hi.iff λi=>⟨λh=>⟨h,by have:=(Array.getElem?_eq_some_iff.1 h).1;omega⟩,λh=>h.1⟩);exact hi.next dO ym qR (by have:=iq.get j o ho;rwa [Nat.zero_add]at this) ho (λh=>oB h.1) (λk Ug=>⟨hp k Ug,by have:=dH dO j o ho k Ug;omega⟩) λa' w' kQ=>hk a' w' (kQ.iff λi=>⟨λh=>h.elim (λe=>⟨.inl e,by omega⟩) (λh=>⟨.inr h.1,h.2⟩),λh=>h.1.imp id (λh2=>⟨h2,h.2⟩)⟩)
theorem L5 {w0:World} {l:List Oper} {o₁:Oper} {tl:List Oper} {S:List (cw M)} (dO:fu (l++o₁::tl) 0=true) (jT:lj (l++o₁::tl) l.length (dm o₁)=true) (BT:kT (l++o₁::tl) (l.length+1)=true) (Cx:S.length=l.length) (iq:cr P r n F w0 (l++o₁::tl) S ds L l S 0) (ym:Fe F (l++o₁::tl) S) (qR:∀p∈F,∀b,p.2 b->M b) {Q:Exit->Act->World->Prop}
  (j4:∀a w,Inv F S (l++o₁::tl) w0 L ds n (λi=>i<l.length) a w->wpListIn (FW r) 0 P (l++o₁::tl).toArray Q (o₁::tl) a w):∀(fuel t:Nat) (listed:Array Bool) (a:Act) (w:World),listed.size=(l++o₁::tl).length->listed.toList.countP (!·)=fuel->(∀i,l.length<=i->i<(l++o₁::tl).length->listed[i]? =some false)->
  Inv F S (l++o₁::tl) w0 L ds n (λi=>listed[i]? =some true) a w->wpOpsIn (FW r) 0 P (l++o₁::tl).toArray Q (Region.linearise.go .any (l++o₁::tl).toArray fuel t listed []) a w:=by
 intro fuel t listed a w lP hc E1 hi;have TN:l.length<(l++o₁::tl).length:=by rw[List.length_append,List.length_cons];omega
 refine zL (J:=λD a w=>Inv F S (l++o₁::tl) w0 L ds n (λi=>D i/\i<(l++o₁::tl).length) a w) dO jT BT (λhj hD=>hj.iff λi=>⟨λh=>⟨(hD i h.2).2 h.1,h.2⟩,λh=>⟨(hD i h.2).1 h.1,h.2⟩⟩) (λ{D a w j o rest} qn ho oB hp ku hi hk=>?_) (λa w h=>j4 a w (h.iff λi=>⟨λh=>h.1,λh=>⟨h,by omega⟩⟩)) fuel t listed a w lP hc E1 (λi o h1 h2 k hk=>hi.closed i o h1 h2 k hk) (hi.iff λi=>⟨λh=>⟨h,by have:=(Array.getElem?_eq_some_iff.1 h).1;omega⟩,λh=>h.1⟩);have jk:(l++o₁::tl)[j]? =some o:=by rw[List.getElem?_append_left qn];exact ho
 exact hi.next dO ym qR (by have:=iq.get j o ho;rwa [Nat.zero_add]at this) jk (λh=>oB h.1) (λk Ug=>⟨hp k Ug,by have:=dH dO j o jk k Ug;omega⟩) λa' w' kQ=>hk a' w' (kQ.iff λi=>⟨λh=>h.elim (λe=>⟨.inl e,by omega⟩) (λh=>⟨.inr h.1,h.2⟩),λh=>h.1.imp id (λh2=>⟨h2,h.2⟩)⟩)
theorem T.Io {id:Nat} {l:List Oper} {o₁:Oper} {tl:List Oper} (hm:P.follows .mixedOrders=true) (F:List (Nat×aE)) (S:List (cw M)) (dO:fu (l++o₁::tl) 0=true) (jT:lj (l++o₁::tl) l.length (dm o₁)=true) (BT:kT (l++o₁::tl) (l.length+1)=true) (Cx:S.length=l.length) (qR:∀p∈F,∀b,p.2 b->M b) (ym:si F (l++o₁::tl) S 0) (iq:cr P r n F w (l++o₁::tl) S ds L l S 0)
  (j4:∀w',Step M w M w' (jO (F.map (·.2)))->iA w' (λacc=>Rg P r n (l++o₁::tl).toArray (o₁::tl) (acc++kE (l++o₁::tl) (l.length+1+tl.length) L) ds w' K) l S []):T P r n (.region id (l++o₁::tl).toArray true) L ds w K:=by
 refine ⟨λa ha=>wpIn_region_draw λt=> ?_⟩;simp only[Region.schedule,hm,Bool.true_or,if_true,Region.linearise];have hd:Step M w M {w with drawn:=w.drawn+1} ar:=oA M w;refine L5 (w0:=w) (S:=S) dO jT BT Cx iq ym.st qR (Q:=up n K) ?_ _ t _ a _ (by simp) a94 (by intro i _ h;simp[Array.getElem?_replicate];simpa using h) ⟨hd.dF (λ_ h=>h.elim) (λb ⟨p,hp,_,hb⟩=>qR p hp b hb),?_,ha.size,ha.defers,?_,?_,?_⟩
 ·intro a' w' hi
  have jb:∀{i:Nat} {o:Oper},l[i]? =some o->(l++o₁::tl)[i]? =some o/\i<l.length:=λ{i o} h=>by
   have h1:=(List.getElem?_eq_some_iff.1 h).1;exact⟨by rw[List.getElem?_append_left h1];exact h,h1⟩
  obtain⟨acc,h1,h2⟩:=iA.use (a:=a') l S [] (λi o s h1 h2 h3=>hi.fin i o s (jb h1).1 h2 (jb h1).2 h3) (λi o s d h1 h2 h3=>hi.done i o s d (jb h1).1 h2 (jb h1).2 h3) (λt v h=>by simp[lk]at h)
   (j4 w' (hi.step.dF (λb ⟨p,hp,_,hb⟩=>fZ.2 ⟨p.2,List.mem_map.2 ⟨p,hp,rfl⟩,hb⟩) (λb hb=>by
    obtain⟨N,hN,EZ⟩:=fZ.1 hb;obtain⟨p,hp,rfl⟩:=List.mem_map.1 hN;exact qR p hp b EZ)))
  have h3:=h1.run a' ⟨hi.size,hi.defers,λt v h=>by
   rcases l3 h with h|h
   ·exact h2 t v h
   ·obtain⟨h3,h4⟩:=ke (f:=lu (l++o₁::tl) (l.length+1+tl.length)) h;refine hi.base t v h4 λi o h5 _ h6=> ?_
    simp only[lu,List.all_eq_true]at h3;have:=h3 o (List.mem_of_getElem? h5);simp only[h6,beq_self_eq_true,Bool.not_true,Bool.false_or,List.contains_iff_mem]at this;have h7:=dH dO i o h5 _ this;have h8:=(List.getElem?_eq_some_iff.1 h5).1;simp at h8;omega⟩
  exact h3
 ·intro i o s h1 h2 h3;simp[Array.getElem?_replicate]at h3
 ·intro i o s d h1 h2 h3;simp[Array.getElem?_replicate]at h3
 ·intro t v h1 _;exact ha.at_ t v h1
 ·intro i o h1 h2;simp[Array.getElem?_replicate]at h2
theorem T.ada {id:Nat} {l:List Oper} (hm:P.follows .mixedOrders=true) (F:List (Nat×aE)) (S:List (cw M)) (dO:fu l 0=true) (qR:∀p∈F,∀b,p.2 b->M b) (ym:Fe F l S) (iq:cr P r n F w l S ds L l S 0)
  (j4:∀w',Step M w M w' (jO (F.map (·.2)))->iA w' (λacc=>K .normal (acc++kE l l.length L) ds w') l S []):T P r n (.region id l.toArray true) L ds w K:=by
 refine ⟨λa ha=>wpIn_region_draw λt=> ?_⟩;simp only[Region.schedule,hm,Bool.true_or,if_true,Region.linearise];have hd:Step M w M {w with drawn:=w.drawn+1} ar:=oA M w;refine L4 (w0:=w) (S:=S) dO iq ym qR (Q:=up n K) ?_ _ t _ a _ (by simp) a94 ⟨hd.dF a15 (λb ⟨p,hp,_,hb⟩=>qR p hp b hb),?_,ha.size,ha.defers,?_,?_,?_⟩
 ·intro a' w' hi
  obtain⟨acc,h1,h2⟩:=iA.use (a:=a') l S [] (λi o s h1 h2 h3=>hi.fin i o s h1 h2 ((List.getElem?_eq_some_iff.1 h1).1) h3) (λi o s d h1 h2 h3=>hi.done i o s d h1 h2 ((List.getElem?_eq_some_iff.1 h1).1) h3) (λt v h=>by simp[lk]at h)
   (j4 w' (hi.step.dF (λb ⟨p,hp,_,hb⟩=>fZ.2 ⟨p.2,List.mem_map.2 ⟨p,hp,rfl⟩,hb⟩) (λb hb=>by
    obtain⟨N,hN,EZ⟩:=fZ.1 hb;obtain⟨p,hp,rfl⟩:=List.mem_map.1 hN;exact qR p hp b EZ)))
  refine⟨_,_,⟨hi.size,hi.defers,λt v h=>?_⟩,h1⟩;rcases l3 h with h|h
  ·exact h2 t v h
  ·obtain⟨h3,h4⟩:=ke (f:=lu l l.length) h;refine hi.base t v h4 λi o h5 _ h6=> ?_
   simp only[lu,List.all_eq_true]at h3;have:=h3 o (List.mem_of_getElem? h5);simp only[h6,beq_self_eq_true,Bool.not_true,Bool.false_or,List.contains_iff_mem]at this;have h7:=dH dO i o h5 _ this;have h8:=(List.getElem?_eq_some_iff.1 h5).1;omega
 ·intro i o s h1 h2 h3;simp[Array.getElem?_replicate]at h3
 ·intro i o s d h1 h2 h3;simp[Array.getElem?_replicate]at h3
 ·intro t v h1 _;exact ha.at_ t v h1
 ·intro i o h1 h2;simp[Array.getElem?_replicate]at h2
theorem T.Wv {id:Nat} {l:List Oper} (hm:P.follows .mixedOrders=true) (F:List (Nat×aE)) (S:List (cw M)) (dO:fu l 0=true) (qR:∀p∈F,∀b,p.2 b->M b) (ym:si F l S 0) (iq:cr P r n F w l S ds L l S 0)
  (j4:∀w',Step M w M w' (jO (F.map (·.2)))->iA w' (λacc=>K .normal (acc++kE l l.length L) ds w') l S []):T P r n (.region id l.toArray true) L ds w K:= .ada hm F S dO qR ym.st iq j4
theorem si.none:∀{l:List Oper} {S:List (cw M)} {k:Nat},si [] l S k
 |[],_,_=>by simp[si]
 |_::_,[],_=>by simp[si]
 |_::_,_::_,_=>⟨λp hp=>by simp at hp,si.none⟩
theorem T.draw {id:Nat} {l:List Oper} (hm:P.follows .mixedOrders=true) (S:List (cw M)) (dO:fu l 0=true) (iq:cr P r n [] w l S ds L l S 0)
  (j4:∀w',Step M w M w' ar->iA w' (λacc=>K .normal (acc++kE l l.length L) ds w') l S []):T P r n (.region id l.toArray true) L ds w K:=
 .Wv hm [] S dO (λp hp=>by cases hp) si.none iq j4
def bH (P:Program) (r:Option Nat) (n:Nat) {M:aE} (F:List (Nat×aE)) (w:World) (l:List Oper) (S:List (cw M)) (ds:List Deferred) (L:Sl):List Oper->List (cw M)->Nat->Prop
 |o::os,s::ss,j=>Obl P r n F w l S ds L j o s/\bH P r n F w l S ds L os ss (j+1)
 |[],[],_=>True
 |_::_,[],_=>True
 |[],_::_,_=>False
theorem bH.cons {l:List Oper} {S:List (cw M)} {o:Oper} {os:List Oper} {s:cw M} {ss:List (cw M)} {j:Nat}
  (h:Obl P r n F w l S ds L j o s) (h':bH P r n F w l S ds L os ss (j+1)):bH P r n F w l S ds L (o::os) (s::ss) j:=⟨h,h'⟩
theorem bH.nil {l:List Oper} {S:List (cw M)} {o:Oper} {os:List Oper} {j:Nat}:bH P r n F w l S ds L (o::os) [] j:=by unfold bH;trivial
theorem bH.take {l:List Oper} {S:List (cw M)}:∀{os:List Oper} {ss:List (cw M)} {j:Nat},bH P r n F w l S ds L os ss j->cr P r n F w l S ds L (os.take ss.length) ss j
 |[],[],_,_=>by simp[cr]
 |_::_,[],_,_=>by simp[cr]
 |[],_::_,_,h=>by simp[bH]at h
 |_::os,_::ss,_,h=>⟨h.1,bH.take h.2⟩
theorem iA.take {w:World} {k:Sl->Prop}:∀{os:List Oper} {ss:List (cw M)} {acc:Sl},iA w k os ss acc->iA w k (os.take ss.length) ss acc
 |[],[],_,h=>by simpa[iA]using h
 |_::_,[],_,h=>by simpa[iA]using h
 |[],_::_,_,h=>by simpa[iA]using h
 |o::os,s::ss,acc,h=>by
  simp only[List.length_cons,List.take_succ_cons,iA]at h ⊢
  split
  ·rename_i d hd
   rw[hd]at h;exact λv hv=>iA.take (h v hv)
  ·rename_i hd
   rw[hd]at h;exact λv hv=>iA.take (h v hv)
theorem T.KC {id:Nat} {l:List Oper} (o₁:Oper) (hm:P.follows .mixedOrders=true) (F:List (Nat×aE)) (S:List (cw M)) (ho:l[S.length]? =some o₁) (Cx:l.length=S.length+1) (dO:fu l 0=true) (jT:(List.range S.length).all (λi=>(dm o₁).contains i||(dm o₁).any (λk=>((l[k]?.map dm).getD []).contains i))=true) (qR:∀p∈F,∀b,p.2 b->M b) (ym:si F l S 0) (iq:bH P r n F w l S ds L l S 0)
  (j4:∀w',Step M w M w' (jO (F.map (·.2)))->iA w' (λacc=>Rg P r n l.toArray [o₁] (acc++kE l l.length L) ds w' (λe L ds w=>e= .normal/\K .normal L ds w)) l S []):T P r n (.region id l.toArray true) L ds w K:=by
 have hl:l=l.take S.length++[o₁]:=by
  obtain⟨h1,h2⟩:=List.getElem?_eq_some_iff.1 ho;rw[<-h2,<-List.take_succ_eq_append_getElem h1,<-Cx,List.take_length]
 have zz:(l.take S.length).length=S.length:=by simp;omega
 have:=T.OO (id:=id) (l:=l.take S.length) (o₁:=o₁) (w:=w) (K:=K) hm F S (by rw[<-hl];exact dO) (by rw[zz,<-hl];exact jT) zz.symm qR (by rw[<-hl];exact ym) (by rw[<-hl];exact iq.take) (λw' s=>by rw[<-hl,zz,<-Cx];exact(j4 w' s).take)
 rwa [<-hl]at this
theorem T.sN {id:Nat} {l:List Oper} (hm:P.follows .mixedOrders=true) (F:List (Nat×aE)) (S:List (cw M)) (m:Nat) (Ye:S.length=m) (yM:Nat.blt m l.length=true) (dO:fu l 0=true) (jT:lj l m ((l[m]?.map dm).getD [])=true) (BT:kT l (m+1)=true) (qR:∀p∈F,∀b,p.2 b->M b) (ym:si F l S 0) (iq:bH P r n F w l S ds L l S 0)
  (j4:∀w',Step M w M w' (jO (F.map (·.2)))->iA w' (λacc=>Rg P r n l.toArray (l.drop m) (acc++kE l l.length L) ds w' K) l S []):T P r n (.region id l.toArray true) L ds w K:=by
 subst Ye;have Cx:S.length<l.length:=by simpa[Nat.blt_eq]using yM
 have hl:l=l.take S.length++l[S.length]::l.drop (S.length+1):=by
  rw[<-List.drop_eq_getElem_cons Cx,List.take_append_drop]
 have zz:(l.take S.length).length=S.length:=by simp;omega
 have hg:l[S.length]? =some l[S.length]:=List.getElem?_eq_getElem Cx;have hln:S.length+1+(l.drop (S.length+1)).length=l.length:=by rw[List.length_drop];omega
 have:=T.Io (id:=id) (l:=l.take S.length) (o₁:=l[S.length]) (tl:=l.drop (S.length+1)) (w:=w) (K:=K) hm F S (by rw[<-hl];exact dO) (by rw[zz,<-hl];rw[hg]at jT;exact jT) (by rw[zz,<-hl];exact BT) zz.symm qR (by rw[<-hl];exact ym) (by rw[<-hl];exact iq.take) (λw' s=>by rw[<-hl,zz,hln,<-List.drop_eq_getElem_cons Cx];exact(j4 w' s).take)
 rwa [<-hl]at this
end
section
variable {P:Program} {r:Option Nat} {n:Nat} {L:Sl} {ds:List Deferred} {w:World} {K:Kt}
def jW:Op->Bool
 |.move _| .assign _| .pick .. | .load .. | .nilCheck _| .binOp .. | .unOp .. | .convert .. | .makeInterface .. | .makeFunc .. | .slice .. | .fieldAddr .. | .field .. | .indexAddr .. | .index .. | .typeAssert .. | .extract .. | .lookup .. | .build .. =>true
 |.call {callee:= .builtin .len,.. }| .call {callee:= .builtin .cap,.. }| .call {callee:= .builtin .min,.. }| .call {callee:= .builtin .max,.. }=>true
 |_=>false
theorem mB {ρ ρ':Operand->Value} {o:Oper} (hq:jW o.op=true) (h:∀x∈o.op.operands,ρ x=ρ' x):execOp ρ o=execOp ρ' o:=by
 obtain⟨dst,op,type,pos,after,guard⟩:=o;have DC:∀{xs:Array Operand},(∀x∈xs,ρ x=ρ' x)->xs.map ρ=xs.map ρ':=λhx=>Array.map_congr_left hx
 have Fg:∀{x:Option Operand},(∀y,x=some y->ρ y=ρ' y)->x.map ρ=x.map ρ':=λ{x} hx=>by
  cases x with
  |none=>rfl
  |some y=>simp[hx y rfl]
 cases op<;>simp only[jW,Bool.false_eq_true]at hq<;>simp only[Op.operands,List.mem_toArray,List.mem_cons,List.not_mem_nil,or_false,forall_eq_or_imp,forall_eq,Array.mem_append,Option.mem_toArray]at h<;>simp only[execOp]
 case pick=>rw[h.1,h.2.1,h.2.2]
 case build t ps=>
  have:ps.map (λp=>(p.1,ρ p.2))=ps.map (λp=>(p.1,ρ' p.2)):=Array.map_congr_left λp hp=>by
   rw[h p.2 (List.mem_map.2 ⟨p,by simpa using hp,rfl⟩)]
  rw[this]
 case nilCheck=>rw[h]
 case binOp=>rw[h.1,h.2]
 case makeFunc f xs ys=>rw[DC (λx hx=>h x (.inl hx)),DC (λx hx=>h x (.inr hx))]
 case slice t x lo hi mx=>
  rw[h x (by simp),Fg (x:=lo) (λy hy=>h y (by simp[hy])),Fg (x:=hi) (λy hy=>h y (by simp[hy])),Fg (x:=mx) (λy hy=>h y (by simp[hy]))]
 case indexAddr=>rw[h.1,h.2]
 case index=>rw[h.1,h.2]
 case lookup=>rw[h.1,h.2]
 case call c=>
  obtain⟨cal,args,LS⟩:=c
  cases cal with
  |builtin b=>
   simp only[Call.operands,Array.empty_append]at h;simp only[resolve,DC h]
  |_=>cases hq
 all_goals rw[h]
theorem Cy {s:Sem Value} {w w':World} {nx:Next} (h:(do pure (Next.value (<-s)):Sem Next).run P w= .ok nx w'):∃v,nx= .value v:=by
 rw[Sem.run_bind]at h
 cases hs:s.run P w with
 |ok v w1=>rw[hs]at h;simp only[Result.andThen,Sem.run_pure,Result.ok.injEq]at h;exact⟨v,h.1.symm⟩
 |halt x w1=>rw[hs]at h;simp[Result.andThen]at h
theorem Fh {ρ:Operand->Value} {o:Oper} (hq:jW o.op=true) {nx:Next} {w w':World} (h:(execOp ρ o).run P w= .ok nx w'):∃v,nx= .value v:=by
 obtain⟨dst,op,type,pos,after,guard⟩:=o
 cases op<;>simp only[jW,Bool.false_eq_true]at hq<;>simp only[execOp]at h
 case move=>simp only[Sem.run_pure,Result.ok.injEq]at h;exact⟨_,h.1.symm⟩
 case assign=>simp only[Sem.run_pure,Result.ok.injEq]at h;exact⟨_,h.1.symm⟩
 case pick c a b=>
  rw[Sem.run_bind]at h
  cases hs:(asBool (ρ c)).run P w with
  |ok v w1=>rw[hs]at h;simp only[Result.andThen]at h;exact⟨_,(Result.ok.inj h).1.symm⟩
  |halt x w1=>rw[hs]at h;simp[Result.andThen]at h
 case nilCheck x=>
  split at h
  ·simp[runtimePanic,Sem.run]at h
  ·simp[runtimePanic,Sem.run]at h
  ·simp[runtimePanic,Sem.run]at h
  ·split at h
   ·simp[runtimePanic,Sem.run]at h
   ·rename_i t w0 _ _
    simp only[Sem.run_bind]at h
    cases hp:(program).run P w with
    |halt x w1=>rw[hp]at h;simp[Result.andThen]at h
    |ok p w1=>
     rw[hp]at h;simp only[Result.andThen]at h;generalize (nilAhead _ _ _ _).run P _=res at h
     cases res with
     |halt x w2=>cases h
     |ok b w2=>
      simp only at h
      split at h
      ·simp[unsupported,Sem.run,Sem.run_bind,Result.andThen]at h
      ·simp only[Sem.run_pure,Sem.run_bind,Result.andThen,Result.ok.injEq]at h;exact⟨_,h.1.symm⟩
   ·simp only[Sem.run_pure,Result.ok.injEq]at h;exact⟨_,h.1.symm⟩
  ·simp only[Sem.run_pure,Result.ok.injEq]at h;exact⟨_,h.1.symm⟩
 case call c=>
  obtain⟨cal,args,LS⟩:=c
  cases cal with
  |builtin b=>
   cases b<;>first|cases hq|skip
   all_goals
    simp only[resolve]at h;exact Cy h
  |_=>cases hq
 all_goals exact Cy h
def One (P:Program) (r:Option Nat) (ops:Array Oper) (w:World) (o:Oper) (a:Act) (v:Value):Prop:=
 if Region.wanted o (yielded ops a.tmps)then(execOp a.eval o).run P w= .ok (.value v) w else v=undef
def QTr (P:Program) (r:Option Nat) (ops:Array Oper) (w:World):List Oper->Act->Act->List Value->Prop
 |[],a,a',vs=>a=a'∧vs=[]
 |o::os,a,a',vs=>∃v vt,vs=v::vt/\One P r ops w o a v/\QTr P r ops w os (a.put o.dst v) a' vt
def lD (P:Program) (r:Option Nat) (n:Nat) (ops:Array Oper):List Oper->Sl->List Deferred->World->(Sl->Prop)->Prop
 |[],L,ds,w,k=>k L
 |o::rest,L,ds,w,k=>Rg P r n ops [o] L ds w (λe L' nj w'=>e= .normal/\nj=ds/\w'=w/\lD P r n ops rest L' ds w k)
theorem lD.nil {ops:Array Oper} {k:Sl->Prop} (h:k L):lD P r n ops [] L ds w k:=h
theorem mC {o:Oper} (hq:jW o.op=true):∀c,o.op≠ .defer c:=λc h=>by rw[h]at hq;cases hq
theorem lD.trace {ops:Array Oper} {k:Sl->Prop}:∀{l:List Oper} {L:Sl} {a:Act},lD P r n ops l L ds w k->(∀o∈l,jW o.op=true)->iS n a L ds->∃a' L' vs,QTr P r ops w l a a' vs/\iS n a' L' ds/\k L'
 |[],L,a,h,_,ha=>⟨a,L,[],⟨rfl,rfl⟩,ha,h⟩
 |o::os,L,a,h,hq,ha=>by
  have hqo:=hq o (List.mem_cons_self ..);have h1:=Rg.run h a ha;simp only[wpListIn]at h1;by_cases hw:Region.wanted o (yielded ops a.tmps)=true
  ·rw[if_pos hw]at h1;obtain⟨_,h1⟩:=h1;rw[Oper.semAt_eq _ _ _ (mC hqo)]at h1
   cases hr:(execOp a.eval o).run P w with
   |ok nx w'=>
    obtain⟨v,rfl⟩:=Fh hqo hr;rw[hr]at h1;obtain⟨L1,ds1,hA,_,OR,hww,hk⟩:=h1;rw[OR]at hA;rw[hww]at hr;obtain⟨a',L',vs,h2,h3,h4⟩:=lD.trace hk (λo ho=>hq o (List.mem_cons_of_mem _ ho)) hA;exact⟨a',L',v::vs,⟨v,vs,G,by unfold One;rw[if_pos hw];exact hr,h2⟩,h3,h4⟩
   |halt x w'=>
    rw[hr]at h1
    cases x with
    |panic v=>obtain⟨L1,ds1,hA,hn,_⟩:=h1;cases hn
    |_=>exact h1.elim
  ·rw[if_neg hw]at h1;obtain⟨_,L1,ds1,hA,_,OR,_,hk⟩:=h1;rw[OR]at hA;obtain⟨a',L',vs,h2,h3,h4⟩:=lD.trace hk (λo ho=>hq o (List.mem_cons_of_mem _ ho)) hA;exact⟨a',L',undef::vs,⟨undef,vs,G,by unfold One;rw[if_neg hw],h2⟩,h3,h4⟩
def asks (ops:List Oper) (o:Oper):List Nat:=(o.op.operands.toList.filterMap λx=>match x with| .tmp t=>some t|_=>none)++(match o.guard with|some (j,_)=>((ops[j]?).bind (·.dst)).toList|none=>[])
def ll (l:List Oper) (m:Nat):Bool:=(List.range m).all λj=>match l[j]? with
 |some o=>jW o.op&&(asks l o).all λt=>(List.range m).all λi=>match l[i]? with
  |some o'=> !(o'.dst==some t)||(dm o).contains i||Nat.beq i j||(dm o').contains j
  |none=>true
 |none=>false
theorem lv {l:List Oper} {m:Nat} (h:ll l m=true) {j:Nat} {o:Oper} (hj:j<m) (ho:l[j]? =some o):jW o.op=true/\∀t∈asks l o,∀i o',i<m->l[i]? =some o'→o'.dst=some t->i∈dm o\/i=j\/j∈dm o':=by
 have h1:=List.all_eq_true.1 h j (List.mem_range.2 hj);rw[ho]at h1;simp only[Bool.and_eq_true]at h1;refine ⟨h1.1,λt ht i o' hi jk hd=> ?_⟩;have h2:=List.all_eq_true.1 (List.all_eq_true.1 h1.2 t ht) i (List.mem_range.2 hi);rw[jk]at h2;simp only[hd,beq_self_eq_true,Bool.not_true,Bool.false_or,Bool.or_eq_true,List.contains_iff_mem]at h2;rcases h2 with(h2|h2)|h2
 ·exact .inl h2
 ·exact .inr (.inl (Nat.eq_of_beq_eq_true h2))
 ·exact .inr (.inr h2)
theorem QTr.DD {ops:Array Oper}:∀{l:List Oper} {a a':Act} {vs:List Value},QTr P r ops w l a a' vs->∃st:Nat->Act,st 0=a/\st l.length=a'∧∀j o,l[j]? =some o->∃v,vs[j]? =some v/\One P r ops w o (st j) v/\st (j+1)=(st j).put o.dst v
 |[],a,a',vs,h=>⟨λ_=>a,rfl,h.1,λj o ho=>by simp at ho⟩
 |o::os,a,a',vs,⟨v,vt,hv,h1,h2⟩=>by
  obtain⟨st,g0,g1,g2⟩:=QTr.DD h2;refine ⟨λj=>match j with|0=>a|j+1=>st j,rfl,g1,λj o' jk=> ?_⟩;subst hv
  cases j with
  |zero=>simp only[List.getElem?_cons_zero,Option.some.injEq]at jk;subst jk;exact⟨v,G,h1,g0⟩
  |succ j=>exact g2 j o' (by simpa using jk)
theorem iu (a:Act) (d:Option Nat) (v:Value) (t:Nat):(a.put d v).tmps[t]? =if d=some t then(a.tmps.setIfInBounds t v)[t]? else a.tmps[t]? :=by
 cases d with
 |none=>simp[Act.put]
 |some d=>
  simp only[Act.put,Option.some.injEq]
  split
  ·rename_i h;subst h;rfl
  ·rename_i h;rw[Array.getElem?_setIfInBounds,if_neg h]
theorem oC (a:Act) (d:Option Nat) (v:Value):(a.put d v).tmps.size=a.tmps.size:=by cases d<;>simp[Act.put]
theorem put_defers (a:Act) (d:Option Nat) (v:Value):(a.put d v).defers=a.defers:=by cases d<;>rfl
theorem uU {xs ys:Array Value} {t:Nat} {v:Value} (h:xs.size=ys.size):(xs.setIfInBounds t v)[t]? =(ys.setIfInBounds t v)[t]? :=by
 rw[Array.getElem?_setIfInBounds,Array.getElem?_setIfInBounds,if_pos rfl,if_pos rfl,h]
structure QJ (l:List Oper) (m:Nat) (a0:Act) (ia:List Value) (wd:World) (D:Nat->Prop) (a:Act) (w:World):Prop where
 world:w=wd
 defers:a.defers=a0.defers
 size:a.tmps.size=a0.tmps.size
 done:∀i o v t,i<m->l[i]? =some o->ia[i]? =some v->D i->o.dst=some t->a.tmps[t]? =(a0.tmps.setIfInBounds t v)[t]?
 base:∀t,(∀i o,i<m->l[i]? =some o->D i->o.dst≠some t)->a.tmps[t]? =a0.tmps[t]?
theorem ga {l:List Oper} (dO:fu l 0=true) {i j:Nat} {o o':Oper} {t:Nat} (hi:l[i]? =some o) (hj:l[j]? =some o') (h1:o.dst=some t) (h2:o'.dst=some t):i=j:=by
 by_cases e:i=j
 ·exact e
 ·exact absurd h2 (xd dO i j o o' t hi hj e h1)
theorem oD {l:List Oper} {m:Nat} {a0:Act} {ia:List Value} {ops:Array Oper} (dO:fu l 0=true) {st:Nat->Act} (h0:st 0=a0) (jV:∀j o,j<m->l[j]? =some o->∃v,ia[j]? =some v/\One P r ops w o (st j) v/\st (j+1)=(st j).put o.dst v):
  ∀j,j<=m->j<=l.length->QJ l m a0 ia w (λi=>i<j) (st j) w
 |0,_,_=>⟨rfl,by rw[h0],by rw[h0],λi o v t _ _ _ h=>by omega,λt _=>by rw[h0]⟩
 |j+1,hm,hl=>by
  have ih:=oD dO h0 jV j q0 q0;obtain⟨o,ho⟩:∃o,l[j]? =some o:=⟨_,List.getElem?_eq_getElem q0⟩;obtain⟨v,hv,_,h2⟩:=jV j o q0 ho;rw[h2];refine⟨rfl,by rw[put_defers];exact ih.defers,by rw[oC];exact ih.size,λi o' v' t p9 jk sM jt hd=>?_,λt ht=>?_⟩
  ·rw[iu];by_cases e:i=j
   ·subst e;rw[ho]at jk;cases jk;rw[hv]at sM;cases sM;rw[if_pos hd];exact uU ih.size
   ·rw[if_neg (λh=>e (ga dO jk ho hd h))];exact ih.done i o' v' t p9 jk sM q0 hd
  ·rw[iu,if_neg (ht j o q0 ho q0)];exact ih.base t λi o' h1 h2 h3=>ht i o' h1 h2 q0
theorem QJ.agree {l:List Oper} {m:Nat} {a0:Act} {ia:List Value} {wd w':World} {D D':Nat->Prop} {a a':Act} (dO:fu l 0=true) (lJ:∀i,i<m->∃v,ia[i]? =some v) (h:QJ l m a0 ia wd D a w) (h':QJ l m a0 ia wd D' a' w') {t:Nat}
  (hD:∀i o,i<m->l[i]? =some o->o.dst=some t->(D i↔D' i)):a.tmps[t]? =a'.tmps[t]? :=by
 by_cases hx:∃i o,i<m/\l[i]? =some o/\o.dst=some t
 ·obtain⟨i,o,p9,ho,hd⟩:=hx;by_cases E0:D i
  ·obtain⟨v,hv⟩:=lJ i p9;rw[h.done i o v t p9 ho hv E0 hd,h'.done i o v t p9 ho hv ((hD i o p9 ho hd).1 E0) hd]
  ·have key:∀{E:Nat->Prop},¬E i->∀k o',k<m->l[k]? =some o'→E k->o'.dst≠some t:=λhE k o' _ jk hEk KB=>hE (by rw[ga dO ho jk hd KB];exact hEk)
   rw[h.base t (key E0),h'.base t (key λhh=>E0 ((hD i o p9 ho hd).2 hh))]
 ·have key:∀{E:Nat->Prop},∀k o',k<m->l[k]? =some o'→E k->o'.dst≠some t:=λk o' hk jk _ KB=>hx ⟨k,o',hk,jk,KB⟩
  rw[h.base t key,h'.base t key]
theorem oE {l:List Oper} {o:Oper} {a a':Act} (h:∀t∈asks l o,a.tmps[t]? =a'.tmps[t]?):(∀x∈o.op.operands,a.eval x=a'.eval x)/\Region.wanted o (yielded l.toArray a.tmps)=Region.wanted o (yielded l.toArray a'.tmps):=by
 refine⟨λx hx=>?_,?_⟩
 ·cases x with
  |tmp t=>
   have:=h t (List.mem_append_left _ (List.mem_filterMap.2 ⟨.tmp t,by simpa using hx,rfl⟩));simp only[Act.eval,Array.getD_eq_getD_getElem?,this]
  |_=>rfl
 ·unfold Region.wanted
  cases hg:o.guard with
  |none=>rfl
  |some p=>
   obtain⟨j,b⟩:=p;simp only
   have:yielded l.toArray a.tmps j=yielded l.toArray a'.tmps j:=by
    unfold yielded
    cases hd:(l.toArray[j]?).bind (·.dst)with
    |none=>rfl
    |some t=>
     have h2:=h t (List.mem_append_right _ (by
      simp only[hg];have:(l[j]?).bind (·.dst)=some t:=by rw[<-hd];simp
      rw[this];simp))
     simp only[Option.bind_some,h2]
   rw[this]
theorem One.run {ops:Array Oper} {Q:Exit->Act->World->Prop} {i:Nat} {rest:List Nat} {o:Oper} {a:Act} {v:Value} (ho:ops[i]? =some o) (hq:jW o.op=true) (h:One P r ops w o a v) (hk:wpOpsIn (FW r) 0 P ops Q rest (a.put o.dst v) w):wpOpsIn (FW r) 0 P ops Q (i::rest) a w:=by
 simp only[wpOpsIn,ho];unfold One at h
 split
 ·rename_i hw
  rw[if_pos hw]at h;refine ⟨λ_ _=>trivial,?_⟩;rw[Oper.semAt_eq _ _ _ (mC hq),h];exact hk
 ·rename_i hw
  rw[if_neg hw]at h;subst h;exact⟨λ_ _=>trivial,hk⟩
theorem QJ.step {l:List Oper} {m:Nat} {a0:Act} {ia:List Value} {wd:World} (dO:fu l 0=true) (tH:ll l m=true) (lJ:∀i,i<m->∃v,ia[i]? =some v) {st:Nat->Act} (yM:m<=l.length)
  (jV:∀j o,j<m->l[j]? =some o->∃v,ia[j]? =some v/\One P r l.toArray wd o (st j) v) (DE:∀j,j<m->QJ l m a0 ia wd (λi=>i<j) (st j) wd)
  {Q:Exit->Act->World->Prop} {D:Nat->Prop} {a:Act} {w:World} {j:Nat} {o:Oper} {rest:List Nat} (hj:j<m) (ho:l[j]? =some o) (oB: ¬D j) (hp:∀k∈dm o,D k) (ku:∀i o,l[i]? =some o->D i->∀k∈dm o,D k) (hi:QJ l m a0 ia wd D a w)
  (hk:∀a' w',QJ l m a0 ia wd (λi=>i=j\/D i) a' w'→wpOpsIn (FW r) 0 P l.toArray Q rest a' w'):wpOpsIn (FW r) 0 P l.toArray Q (j::rest) a w:=by
 obtain⟨v,hv,h1⟩:=jV j o hj ho;obtain⟨hq,tH⟩:=lv tH hj ho
 have EY:∀t∈asks l o,a.tmps[t]? =(st j).tmps[t]? :=λt ht=>hi.agree dO lJ (DE j hj) λi o' p9 jk hd=>by
  rcases tH t ht i o' p9 jk hd with h|h|h
  ·have:=dH dO j o ho i h;exact⟨λ_=>by omega,λ_=>hp i h⟩
  ·subst h;exact⟨λh=>absurd h oB,λh=>by omega⟩
  ·have:=dH dO i o' jk j h;exact⟨λh2=>absurd (ku i o' jk h2 j h) oB,λh=>by omega⟩
 obtain⟨Od,Fb⟩:=oE EY;obtain⟨hww⟩:Nonempty (w=wd):=⟨hi.world⟩
 have h2:One P r l.toArray w o a v:=by
  unfold One at h1 ⊢;rw[Fb,mB hq Od,hww];exact h1
 refine h2.run (by simpa using ho) hq (hk _ _ ⟨hww,by rw[put_defers];exact hi.defers,by rw[oC];exact hi.size,λi o' v' t p9 jk sM hD hd=>?_,λt ht=>?_⟩)
 ·rw[iu];by_cases e:i=j
  ·subst e;rw[ho]at jk;cases jk;rw[hv]at sM;cases sM;rw[if_pos hd];exact uU hi.size
  ·rw[if_neg (λh=>e (ga dO jk ho hd h))];exact hi.done i o' v' t p9 jk sM (hD.resolve_left e) hd
 ·rw[iu,if_neg (ht j o hj ho (.inl rfl))];exact hi.base t λi o' h1 h2 h3=>ht i o' h1 h2 (.inr h3)
theorem lD.parts {l lq:List Oper} {m:Nat} {k:Sl->Prop} (hlq:lq=l.take m) (yM:m<=l.length) (dO:fu l 0=true) (tH:ll l m=true) {a0:Act} (ha:iS n a0 L ds) (h:lD P r n l.toArray lq L ds w k):
  ∃ia:List Value,(∀i,i<m->∃v,ia[i]? =some v)/\(∃st:Nat->Act,(∀j o,j<m->l[j]? =some o->∃v,ia[j]? =some v/\One P r l.toArray w o (st j) v)/\∀j,j<m->QJ l m a0 ia w (λi=>i<j) (st j) w)/\
   ∀a w',QJ l m a0 ia w (λi=>i<m) a w'→∃L',iS n a L' ds/\k L'∧w'=w:=by
 have jb:∀j,j<m->lq[j]? =l[j]? :=λj hj=>by rw[hlq,List.getElem?_take,if_pos hj]
 obtain⟨a',L',vs,Cz,hA,hk⟩:=h.trace (λo ho=>by
  obtain⟨j,hj⟩:=List.mem_iff_getElem?.1 ho
  have H2:j<m:=by
   have:=(List.getElem?_eq_some_iff.1 hj).1;rw[hlq,List.length_take]at this;omega
  exact(lv tH H2 (by rw[<-jb j H2];exact hj)).1) ha
 obtain⟨st,h0,hl,jV⟩:=Cz.DD;have hlen:lq.length=m:=by rw[hlq,List.length_take];omega
 rw[hlen]at hl;have yO:∀j o,j<m->l[j]? =some o->∃v,vs[j]? =some v/\One P r l.toArray w o (st j) v/\st (j+1)=(st j).put o.dst v:=λj o hj ho=>jV j o (by rw[jb j hj];exact ho)
 have lJ:∀i,i<m->∃v,vs[i]? =some v:=λi hi=>by
  obtain⟨v,hv,_⟩:=yO i l[i] hi (List.getElem?_eq_getElem q0);exact⟨v,hv⟩
 refine⟨vs,lJ,⟨st,λj o hj ho=>?_,λj hj=>oD dO h0 yO j q0 q0⟩,λa w' hi=>⟨L',⟨?_,?_,λt v ht=>?_⟩,hk,hi.world⟩⟩
 ·obtain⟨v,h1,h2,_⟩:=yO j o hj ho;exact⟨v,h1,h2⟩
 ·rw[hi.size];exact ha.size
 ·rw[hi.defers];exact ha.defers
 ·have:=oD dO h0 yO m (Nat.le_refl _) yM;rw[hl]at this;rw[hi.agree dO lJ this (λ_ _ _ _ _=>Iff.rfl)];exact hA.at_ t v ht
theorem QJ.adf {l:List Oper} {m:Nat} {a0 a:Act} {ia:List Value} {wd w:World} {D D':Nat->Prop} (yM:m<=l.length) (h:QJ l m a0 ia wd D a w) (hD:∀i,i<l.length->(D' i↔D i)):QJ l m a0 ia wd D' a w:=
 ⟨h.world,h.defers,h.size,λi o v t h1 h2 h3 h4 h5=>h.done i o v t h1 h2 h3 ((hD i q0).1 h4) h5,λt ht=>h.base t λi o h1 h2 h3=>ht i o h1 h2 ((hD i q0).2 h3)⟩
theorem pg (w:World):∀M,Step M w M {w with drawn:=w.drawn+1} ar:=λM=>oA M w
theorem T.kU {id:Nat} {l:List Oper} (hm:P.follows .mixedOrders=true) (dO:fu l 0=true) (tH:ll l l.length=true)
  (h:∀wD,(∀M,Step M w M wD ar)->lD P r n l.toArray l L ds wD (λL'=>K .normal L' ds wD)):T P r n (.region id l.toArray true) L ds w K:=by
 refine ⟨λa ha=>wpIn_region_draw λt=> ?_⟩;simp only[Region.schedule,hm,Bool.true_or,if_true,Region.linearise];obtain⟨ia,lJ,⟨st,h1,h2⟩,j4⟩:=lD.parts (m:=l.length) (by simp) (Nat.le_refl _) dO tH ha (h _ (pg w));refine mA (J:=QJ l l.length a ia _) dO (λhi hD=>hi.adf (Nat.le_refl _) hD) (λhj ho oB hp ku hi hk=>QJ.step dO tH lJ (Nat.le_refl _) h1 h2 hj ho oB hp ku hi hk) (λa' w' hi=>?_) _ t _ a _ (by simp) a94 (λi o h1 h2=>?_) ⟨G,G,G,λi o v t h1 h2 h3 h4=>?_,λt _=>G⟩
 ·obtain⟨L',hA,hk,hw⟩:=j4 a' w' hi;rw[hw];exact⟨L',ds,hA,hk⟩
 ·simp[Array.getElem?_replicate]at h2
 ·simp[Array.getElem?_replicate]at h4
theorem T.Ww {id:Nat} {l:List Oper} (m:Nat) (hm:P.follows .mixedOrders=true) (yM:Nat.blt m l.length=true) (dO:fu l 0=true) (jT:lj l m ((l[m]?.map dm).getD [])=true) (BT:kT l (m+1)=true) (tH:ll l m=true)
  (h:∀wD,(∀M,Step M w M wD ar)->lD P r n l.toArray (l.take m) L ds wD (λL'=>Rg P r n l.toArray (l.drop m) L' ds wD K)):T P r n (.region id l.toArray true) L ds w K:=by
 refine ⟨λa ha=>wpIn_region_draw λt=> ?_⟩;simp only[Region.schedule,hm,Bool.true_or,if_true,Region.linearise];have Cx:m<l.length:=by simpa[Nat.blt_eq]using yM
 obtain⟨ia,lJ,⟨st,h1,h2⟩,j4⟩:=lD.parts (m:=m) rfl q0 dO tH ha (h _ (pg w))
 have hl:l=l.take m++l[m]::l.drop (m+1):=by
  rw[<-List.drop_eq_getElem_cons Cx,List.take_append_drop]
 have zz:(l.take m).length=m:=by simp;omega
 have hg:l[m]? =some l[m]:=List.getElem?_eq_getElem Cx
 have key:=zL (P:=P) (r:=r) (l:=l.take m) (o₁:=l[m]) (tl:=l.drop (m+1)) (J:=QJ l m a ia {w with drawn:=w.drawn+1}) (Q:=up n K) (by rw[<-hl];exact dO) (by rw[zz,<-hl];rw[hg]at jT;exact jT) (by rw[zz,<-hl];exact BT)
  (λhi hD=>hi.adf q0 (by rw[<-hl]at hD;exact hD)) (λ{D a' w' j o rest} hj ho oB hp ku hi hk=>by
   rw[<-hl]at ku hk ⊢;rw[zz]at hj;rw[List.getElem?_take,if_pos hj]at ho;exact QJ.step dO tH lJ q0 h1 h2 hj ho oB hp ku hi hk) (λa' w' hi=>by
   rw[zz]at hi;obtain⟨L',hA,hk,hw⟩:=j4 a' w' hi;rw[<-hl,<-List.drop_eq_getElem_cons Cx,hw];exact hk.run a' hA) l.length t (Array.replicate l.length false) a {w with drawn:=w.drawn+1}
 rw[<-hl]at key;have lP:l.toArray.size=l.length:=by simp
 rw[lP];refine key (by simp) a94 (λi h3 h4=>?_) (λi o h3 h4=>?_) ⟨G,G,G,λi o v t h3 h4 h5 h6=>?_,λt _=>G⟩
 ·simp[Array.getElem?_replicate];exact h4
 ·simp[Array.getElem?_replicate]at h4
 ·simp[Array.getElem?_replicate]at h6
theorem iA.nil {M:aE} {k:Sl->Prop} {acc:Sl} (h:k acc):iA (M:=M) w k [] [] acc:=by unfold iA;exact h
theorem T.KD {x y:Code} (L1:Sl) (h:T P r n x L ds w (λe L' nj w'=>e= .normal/\nj=ds/\w'=w/\Sub L1 L')) (k:T P r n y L1 ds w K):T P r n (.seq x y) L ds w K:=
 .seq (h.mono λe L' nj w' ⟨he,hd,hw,hs⟩=>by subst he;rw[hd,hw];exact k.weaken L1 hs)
end
section
variable {P:Program} {r:Option Nat} {n:Nat} {L:Sl} {ds:List Deferred} {w:World} {K:Kt}
def tO:Op->Bool
 |.defer _| .go _| .select .. | .send .. | .recv .. =>false
 |_=>true
theorem Uh {ρ ρ':Operand->Value} {o:Oper} (hq:tO o.op=true) (h:∀x∈o.op.operands,ρ x=ρ' x):execOp ρ o=execOp ρ' o:=by
 obtain⟨dst,op,type,pos,after,guard⟩:=o;have DC:∀{xs:Array Operand},(∀x∈xs,ρ x=ρ' x)->xs.map ρ=xs.map ρ':=λhx=>Array.map_congr_left hx
 have Fg:∀{x:Option Operand},(∀y,x=some y->ρ y=ρ' y)->x.map ρ=x.map ρ':=λ{x} hx=>by
  cases x with
  |none=>rfl
  |some y=>simp[hx y rfl]
 cases op<;>simp only[tO,Bool.false_eq_true]at hq<;>simp only[Op.operands,List.mem_toArray,List.mem_cons,List.not_mem_nil,or_false,forall_eq_or_imp,forall_eq,Array.mem_append,Option.mem_toArray]at h<;>simp only[execOp]
 case pick=>rw[h.1,h.2.1,h.2.2]
 case build t ps=>
  have:ps.map (λp=>(p.1,ρ p.2))=ps.map (λp=>(p.1,ρ' p.2)):=Array.map_congr_left λp hp=>by
   rw[h p.2 (List.mem_map.2 ⟨p,by simpa using hp,rfl⟩)]
  rw[this]
 case buildSlice t k ps=>
  have:ps.map (λp=>(p.1,ρ p.2))=ps.map (λp=>(p.1,ρ' p.2)):=Array.map_congr_left λp hp=>by
   rw[h p.2 (List.mem_map.2 ⟨p,by simpa using hp,rfl⟩)]
  rw[this]
 case nilCheck=>rw[h]
 case binOp=>rw[h.1,h.2]
 case makeFunc f xs ys=>rw[DC (λx hx=>h x (.inl hx)),DC (λx hx=>h x (.inr hx))]
 case makeMap t xs=>rw[Fg (λy hy=>h y (by simp[hy]))]
 case slice t x lo hi mx=>
  rw[h x (by simp),Fg (x:=lo) (λy hy=>h y (by simp[hy])),Fg (x:=hi) (λy hy=>h y (by simp[hy])),Fg (x:=mx) (λy hy=>h y (by simp[hy]))]
 case call c=>
  obtain⟨cal,args,LS⟩:=c
  cases cal with
  |builtin b=>
   simp only[Call.operands,Array.empty_append]at h;simp only[resolve,DC h]
  |invoke x name=>
   simp only[Call.operands,Array.mem_append,List.mem_toArray,List.mem_singleton]at h;simp only[resolve,h x (.inl rfl),DC (λy hy=>h y (.inr hy))]
  |value x=>
   simp only[Call.operands,Array.mem_append,List.mem_toArray,List.mem_singleton]at h;simp only[resolve,h x (.inl rfl),DC (λy hy=>h y (.inr hy))]
 all_goals first
  |rw[h]
  |rw[h.1,h.2]
  |rw[h.1,h.2.1,h.2.2]
  |rfl
def fa (N:aE) (wd w:World):Prop:=wd.heap.size<=w.heap.size/\∀b,b<wd.heap.size->¬N b->w.heap[b]? =wd.heap[b]?
theorem fa.refl (N:aE) (w:World):fa N w w:=⟨Nat.le_refl _,λ_ _ _=>rfl⟩
theorem fa.go {M M' N N':aE} {wd w w':World} (h:fa N wd w) (s:Step M w M' w' N') (hN:∀b,b<wd.heap.size->N' b->N b):fa N wd w':=
 ⟨Nat.le_trans h.1 s.size,λb hb hn=>(s.same b (Nat.lt_of_lt_of_le hb h.1) (λBG=>hn (hN b hb BG))).trans (h.2 b hb hn)⟩
theorem fa.qp {M M' N:aE} {wd w w':World} (h:fa N wd w) (s:Step M w M' w' ar):fa N wd w':=h.go s λ_ _ h=>h.elim
theorem fa.goN {M M' N:aE} {wd w w':World} (h:fa N wd w) (s:Step M w M' w' N):fa N wd w':=h.go s λ_ _ h=>h
def cf (P:Program) (N:aE) (wd:World) (L:Sl) (o:Oper):Prop:=∀ρ:Operand->Value,(∀x u,ev L x=some u->ρ x=u)->∀v w',fa N wd w'→(execOp ρ o).run P wd= .ok (.value v) wd->(execOp ρ o).run P w'= .ok (.value v) w'
def tP (P:Program) (r:Option Nat) (n:Nat) (ops:Array Oper) (N:aE) (wd:World) (K:Kt):Nat->List Oper->Sl->List Deferred->World->Prop
 |_,[],L,ds,w=>K .normal L ds w
 |c,o::rest,L,ds,w=>Rg P r n ops [o] L ds w (λe L' nj w'=>e= .normal/\nj=ds/\(c≠0->fa N wd w')/\tP P r n ops N wd K (c-1) rest L' ds w')
theorem tP.nil {ops:Array Oper} {N:aE} {wd:World} {c:Nat} (h:K .normal L ds w):tP P r n ops N wd K c [] L ds w:=h
def nA (l:List Oper) (fl:List Nat):Nat->List Nat->Bool
 |0,_=>true
 |j+1,acc=>if fl.contains j then nA l fl j acc else acc.contains j&&nA l fl j (acc++(l[j]?.map dm).getD [])
theorem nB {l:List Oper} {fl:List Nat} {D:Nat->Prop} (ku:∀k o,l[k]? =some o->D k->∀i∈dm o,D i):∀(j:Nat) (acc:List Nat),nA l fl j acc=true->(∀k∈acc,D k)->∀i,i<j->i∉fl->D i
 |0,_,_,_,i,hi,_=>by omega
 |j+1,acc,h,ha,i,hi,hf=>by
  simp only[nA]at h
  split at h
  ·rename_i hj
   rcases Nat.lt_or_ge i j with eZ|nk
   ·exact nB ku j acc h ha i eZ hf
   ·obtain rfl:i=j:=by omega
    exact absurd a98 hf
  ·simp only[Bool.and_eq_true,List.contains_iff_mem]at h;have hj:=ha j h.1;rcases Nat.lt_or_ge i j with eZ|nk
   ·refine nB ku j _ h.2 (λk hk=>?_) i eZ hf;rcases List.mem_append.1 hk with hk|hk
    ·exact ha k hk
    ·cases ho:l[j]? with
     |none=>rw[ho]at hk;simp at hk
     |some o=>rw[ho]at hk;exact ku j o ho hj k (by simpa using hk)
   ·rw[show i=j from by omega];exact hj
def xe (l:List Oper) (m e:Nat):List Nat:=(List.range' m (e+1)).flatMap λj=>(l[j]?.map dm).getD []
def mD (l:List Oper) (m:Nat) (fl:List Nat) (e:Nat):Bool:=
 (Nat.ble (l.length-m) e||lj l m (xe l m e))&&
 kT l (m+1)&&nA l fl m ((l[m]?.map dm).getD [])&&
 ((List.range' m (l.length-m)).all λj=>match l[j]? with
  |some o=>tO o.op&&(asks l o).all λt=>(List.range m).all λi=>match l[i]? with
   |some o'=> !(o'.dst==some t)||(dm o).contains i
   |none=>true
  |none=>true)&&
 ((List.range m).all λj=> !fl.contains j||match l[j]? with
  |some o=>(asks l o).all λt=>(List.range l.length).all λi=>match l[i]? with
   |some o'=> !(o'.dst==some t)||(dm o).contains i||(Nat.ble m i&&(dm o').contains j)
   |none=>true
  |none=>true)
theorem DF {l:List Oper} {m:Nat} {fl:List Nat} {e:Nat} (h:mD l m fl e=true):
  (l.length-m<=e\/lj l m (xe l m e)=true)/\
  kT l (m+1)=true/\nA l fl m ((l[m]?.map dm).getD [])=true/\
  (∀j o,m<=j->l[j]? =some o->tO o.op=true/\∀t∈asks l o,∀i o',i<m->l[i]? =some o'→o'.dst=some t->i∈dm o)/\
  (∀j o,j<m->j∈fl->l[j]? =some o->∀t∈asks l o,∀i o',l[i]? =some o'→o'.dst=some t->i∈dm o\/m<=i/\j∈dm o'):=by
 simp only[mD,Bool.and_eq_true]at h;obtain⟨⟨⟨⟨h0,h1⟩,h2⟩,h3⟩,h4⟩:=h;rw[Bool.or_eq_true,Nat.ble_eq]at h0;refine⟨h0,h1,h2,λj o hj ho=>?_,λj o hj hf ho t ht i o' jk hd=>?_⟩
 ·have eZ:=(List.getElem?_eq_some_iff.1 ho).1;have:=List.all_eq_true.1 h3 j (List.mem_range'_1.2 ⟨hj,by omega⟩);rw[ho]at this;simp only[Bool.and_eq_true]at this;refine ⟨this.1,λt ht i o' hi jk hd=> ?_⟩;have h5:=List.all_eq_true.1 (List.all_eq_true.1 this.2 t ht) i (List.mem_range.2 hi);rw[jk]at h5;simpa[hd]using h5
 ·have eZ:=(List.getElem?_eq_some_iff.1 jk).1;have:=List.all_eq_true.1 h4 j (List.mem_range.2 hj);rw[ho]at this;simp only[Bool.or_eq_true,Bool.not_eq_true',List.contains_eq_mem,decide_eq_false_iff_not]at this;have h5:=List.all_eq_true.1 (List.all_eq_true.1 (this.resolve_left (λh=>h hf)) t ht) i (List.mem_range.2 eZ);rw[jk]at h5;simp only[hd,beq_self_eq_true,Bool.not_true,Bool.false_or,Bool.or_eq_true,Bool.and_eq_true,Nat.ble_eq,decide_eq_true_eq,List.contains_iff_mem]at h5;rcases h5 with h|h
  ·exact .inl h
  ·exact .inr h
structure GJ (P:Program) (r:Option Nat) (n:Nat) (l:List Oper) (m:Nat) (fl:List Nat) (c:Nat) (N:aE) (K:Kt) (ds:List Deferred) (a0 am:Act) (wd:World) (D:Nat->Prop) (a:Act) (w:World) (p:Nat) (ac:Act) (Lp:Sl):Prop where
 p0:m<=p
 p1:p<=l.length
 dt:∀i,m<=i->i<l.length->(D i↔i<p)
 df:m<p->∀i,i<m->i∉fl->D i
 ag:iS n ac Lp ds
 tr:tP P r n l.toArray N wd K (c+m-p) (l.drop p) Lp ds w
 bL:p<=m+c->fa N wd w
 da:m+c<p->∀i,i<m->D i
 wm:p=m->w=wd
 defers:a.defers=ds
 size:a.tmps.size=a0.tmps.size
 sizec:ac.tmps.size=a0.tmps.size
 done:∀t,(∀i o,i<m->l[i]? =some o->o.dst=some t->D i)->a.tmps[t]? =ac.tmps[t]?
 pend:∀i o t,i<m->l[i]? =some o->o.dst=some t->¬D i->a.tmps[t]? =a0.tmps[t]?
 cm:∀t,(∀i o,m<=i->i<p->l[i]? =some o->o.dst≠some t)->ac.tmps[t]? =am.tmps[t]?
theorem Fi {ops:Array Oper} {Qc Q:Exit->Act->World->Prop} {i:Nat} {rest:List Nat} {o:Oper} {a ac:Act} (ho:ops[i]? =some o) (hq:tO o.op=true) (Od:∀x∈o.op.operands,a.eval x=ac.eval x) (Fb:Region.wanted o (yielded ops a.tmps)=Region.wanted o (yielded ops ac.tmps)) (hdf:a.defers=ac.defers)
  (h:wpListIn (FW r) 0 P ops Qc [o] ac w) (jj:∀e a w,Qc e a w->e= .normal) (hk:∀v w',Qc .normal (ac.put o.dst v) w'→wpOpsIn (FW r) 0 P ops Q rest (a.put o.dst v) w') (Yf:∀d w',¬Qc .normal ({ac with defers:=d::ac.defers}.put o.dst undef) w'):wpOpsIn (FW r) 0 P ops Q (i::rest) a w:=by
 simp only[wpOpsIn,ho];simp only[wpListIn]at h;rw[Fb];have lU:∀c,o.op≠ .defer c:=λc hc=>by rw[hc]at hq;cases hq
 split
 ·rename_i hw
  rw[if_pos hw]at h;obtain⟨_,h2⟩:=h;refine ⟨λ_ _=>trivial,?_⟩;rw[Oper.semAt_eq _ _ _ lU]at h2 ⊢;rw[Uh hq Od];generalize (execOp ac.eval o).run P w=res at h2 ⊢
  cases res with
  |ok nx w'=>
   cases nx with
   |value v=>exact hk _ _ h2
   |skip=>exact hk _ _ h2
   |defer d=>exact absurd h2 (Yf d w')
   |enter f args=>exact⟨h2.1,h2.2.mono λe zI he=>by
     cases e with
     |returned v=>exact hk _ _ he
     |panicked c=>exact absurd (jj _ _ _ he) (by simp)
     |outgrown=>obtain⟨a,w,h⟩:=he;exact absurd (jj _ _ _ h) (by simp)⟩
   |row row args=>exact⟨h2.1,h2.2.mono λ_ _ he=>hk _ _ he⟩
   |round l f tmps tI body=>exact⟨h2.1,h2.2.mono λe zI he=>by
     cases e with
     |returned v=>exact hk _ _ he
     |panicked c=>exact absurd (jj _ _ _ he) (by simp)
     |outgrown=>obtain⟨a,w,h⟩:=he;exact absurd (jj _ _ _ h) (by simp)⟩
   |_=>exact h2.elim
  |halt x w'=>
   cases x with
   |panic v=>exact absurd (jj _ _ _ h2) (by simp)
   |_=>exact h2.elim
 ·rename_i hw
  rw[if_neg hw]at h;exact⟨λ_ _=>trivial,hk _ _ h.2⟩
theorem GJ.next {l:List Oper} {m:Nat} {fl:List Nat} {c:Nat} {N:aE} {a0 am:Act} {ia:List Value} {wd:World} (dO:fu l 0=true) (tH:ll l m=true) (Ik:mD l m fl c=true) (yM:m<l.length) (lJ:∀i,i<m->∃v,ia[i]? =some v)
  {st:Nat->Act} (jV:∀j o,j<m->l[j]? =some o->∃v,ia[j]? =some v/\One P r l.toArray wd o (st j) v) (DE:∀j,j<m->QJ l m a0 ia wd (λi=>i<j) (st j) wd) (KE:QJ l m a0 ia wd (λi=>i<m) am wd)
  {Lm:Sl} (hLm:iS n am Lm ds) (hF:∀j o,j∈fl->l[j]? =some o->cf P N wd Lm o)
  {Q:Exit->Act->World->Prop} {D:Nat->Prop} {a:Act} {w:World} {j:Nat} {o:Oper} {rest:List Nat} (ho:l[j]? =some o) (oB: ¬D j) (hp:∀k∈dm o,D k) (ku:∀i o,l[i]? =some o->D i->∀k∈dm o,D k) (hi:∃p ac Lp,GJ P r n l m fl c N K ds a0 am wd D a w p ac Lp)
  (hk:∀a' w',(∃p ac Lp,GJ P r n l m fl c N K ds a0 am wd (λi=>i=j\/D i) a' w' p ac Lp)->wpOpsIn (FW r) 0 P l.toArray Q rest a' w'):wpOpsIn (FW r) 0 P l.toArray Q (j::rest) a w:=by
 obtain⟨p,ac,Lp,hi⟩:=hi;obtain⟨adg,BT,OS,yn,Ip⟩:=DF Ik;have qn:=(List.getElem?_eq_some_iff.1 ho).1;rcases Nat.lt_or_ge j m with hj|hj
 ·obtain⟨v,hv,h1⟩:=jV j o hj ho;obtain⟨hq,hso⟩:=lv tH hj ho;have hmf:m<p->j∈fl:=λh=>Classical.byContradiction λhf=>oB (hi.df h j hj hf)
  have EY:∀t∈asks l o,a.tmps[t]? =(st j).tmps[t]? :=λt ht=>by
   by_cases hx:∃i o',i<m/\l[i]? =some o'∧o'.dst=some t
   ·obtain⟨i,o',p9,jk,hd⟩:=hx;obtain⟨v',sM⟩:=lJ i p9;rcases hso t ht i o' p9 jk hd with h|h|h
    ·have E0:=hp i h;have jt:=dH dO j o ho i h;rw[hi.done t (λk ok Iq fN L6=>by rw[ga dO fN jk L6 hd];exact E0),hi.cm t (λk ok qJ DB fN L6=>by have:=ga dO fN jk L6 hd;omega),KE.done i o' v' t p9 jk sM p9 hd,(DE j hj).done i o' v' t p9 jk sM q0 hd]
    ·subst h;rw[hi.pend i o' t p9 jk hd oB,(DE i hj).base t (λk ok Iq fN L6 Fj=>by have:=ga dO fN jk Fj hd;omega)]
    ·have jt:=dH dO i o' jk j h;rw[hi.pend i o' t p9 jk hd (λE0=>oB (ku i o' jk E0 j h)),(DE j hj).base t (λk ok Iq fN L6 Fj=>by have:=ga dO fN jk Fj hd;omega)]
   ·have jj:∀k ok,k<m->l[k]? =some ok->ok.dst≠some t:=λk ok Iq fN L6=>hx ⟨k,ok,Iq,fN,L6⟩
    rw[hi.done t (λk ok Iq fN L6=>absurd L6 (jj k ok Iq fN)),hi.cm t (λk ok qJ DB fN L6=>by
     rcases Ip j o hj (hmf q0) ho t ht k ok fN L6 with h|⟨_,h⟩
     ·have:=dH dO j o ho k h;omega
     ·exact oB (ku k ok fN ((hi.dt k qJ (List.getElem?_eq_some_iff.1 fN).1).2 DB) j h)),KE.base t (λk ok Iq fN _=>jj k ok Iq fN),(DE j hj).base t (λk ok Iq fN _=>jj k ok Iq fN)]
  obtain⟨Od,Fb⟩:=oE EY
  have h2:One P r l.toArray w o a v:=by
   rcases Nat.eq_or_lt_of_le hi.p0 with hpm|hpm
   ·have hww:=hi.wm hpm.symm;unfold One at h1 ⊢;rw[Fb,mB hq Od,hww];exact h1
   ·have hjf:=hmf hpm
    have ajH:∀t∈asks l o,am.tmps[t]? =(st j).tmps[t]? :=λt ht=>KE.agree dO lJ (DE j hj) λi o' p9 jk hd=>by
     rcases Ip j o hj hjf ho t ht i o' jk hd with h|⟨h,_⟩
     ·have:=dH dO j o ho i h;exact⟨λ_=>by omega,λ_=>p9⟩
     ·omega
    obtain⟨adh,_⟩:=oE ajH;unfold One at h1 ⊢;rw[Fb]
    split
    ·rename_i hw
     rw[if_pos hw]at h1;rw[<-mB hq adh]at h1;rw[mB hq Od,<-mB hq adh];exact hF j o hjf ho am.eval (λx u hx=>hLm.eval hx) v w (hi.bL (Nat.le_of_not_lt λeZ=>oB (hi.da eZ j hj))) h1
    ·rename_i hw
     rw[if_neg hw]at h1;exact h1
  refine h2.run (by simpa using ho) hq (hk _ _ ⟨p,ac,Lp,hi.p0,hi.p1,λi h3 h4=>?_,λh i h3 h4=> .inr (hi.df h i h3 h4),hi.ag,hi.tr,hi.bL,λh i h3=> .inr (hi.da h i h3),hi.wm,by rw[put_defers];exact hi.defers,by rw[oC];exact hi.size,hi.sizec,λt ht=>?_,λi o' t p9 jk hd Wx=>?_,hi.cm⟩)
  ·rw[<-hi.dt i h3 h4];exact⟨λh=>h.resolve_left q0,.inr⟩
  ·rw[iu];by_cases e:o.dst=some t
   ·rw[if_pos e,hi.cm t (λk ok qJ DB fN L6=>by have:=ga dO fN ho L6 e;omega),KE.done j o v t hj ho hv hj e];exact uU hi.size
   ·rw[if_neg e];exact hi.done t λi o' p9 jk hd=>(ht i o' p9 jk hd).resolve_left (λh=>by subst h;rw[ho]at jk;cases jk;exact e hd)
  ·rw[iu,if_neg (λe=>Wx (.inl (ga dO jk ho hd e)))];exact hi.pend i o' t p9 jk hd (λh=>Wx (.inr h))
 ·have hjp:j=p:=by
   have h1:p<=j:=by
    rcases Nat.lt_or_ge j p with h|h
    ·exact absurd ((hi.dt j hj qn).2 h) oB
    ·exact h
   rcases Nat.lt_or_ge m j with h|h
   ·have h2:=hp _ (mz BT (j:=j) q0 ho);have:=(hi.dt (j-1) q0 q0).1 h2;omega
   ·have:=hi.p0;omega
  subst hjp;obtain⟨hto,OT⟩:=yn j o hj ho
  have jA:∀i,i<m->i∉fl->D i:=λi p9 hif=>by
   rcases Nat.eq_or_lt_of_le hi.p0 with h|h
   ·rw[h,ho]at OS;exact nB (D:=D) ku j (dm o) OS hp i q0 hif
   ·exact hi.df h i p9 hif
  have EY:∀t∈asks l o,a.tmps[t]? =ac.tmps[t]? :=λt ht=>hi.done t λi o' p9 jk hd=>hp i (OT t ht i o' p9 jk hd)
  obtain⟨Od,Fb⟩:=oE EY
  have adj:m+c<j+1->∀i,i<m->D i:=λeZ i p9=>by
   rcases Nat.lt_or_ge (m+c) j with h|h
   ·exact hi.da h i p9
   ·have wR:j=m+c:=by omega
    rcases adg with h5|h5
    ·omega
    ·refine tN (D:=D) ku m _ h5 (λk hk=>?_) i p9;simp only[xe,List.mem_flatMap,List.mem_range'_1]at hk;obtain⟨q,⟨Yg,hq2⟩,Wy⟩:=hk;rcases Nat.eq_or_lt_of_le (show q<=j by omega)with e|e
     ·rw[e,ho]at Wy;exact hp k Wy
     ·have hDq:=(hi.dt q Yg q0).2 e
      cases hoq:l[q]? with
      |none=>rw[hoq]at Wy;cases Wy
      |some oq=>rw[hoq]at Wy;exact ku q oq hoq hDq k Wy
  have Cz:=hi.tr;rw[List.drop_eq_getElem_cons qn,(List.getElem?_eq_some_iff.1 ho).2]at Cz;have h1:=Rg.run Cz ac hi.ag;refine Fi (by simpa using ho) hto Od Fb (by rw[hi.defers,hi.ag.defers]) h1 (λe a w ⟨_,_,_,he,_⟩=>he) (λv w' ⟨L',nj,hA,_,OR,Ug,Yh⟩=>?_) (λd w' ⟨L',nj,hA,_,OR,_⟩=>?_)
  ·rw[OR]at hA;refine hk _ _ ⟨j+1,ac.put o.dst v,L',by omega,by omega,λi h3 h4=>?_,λ_ i h3 h4=> .inr (jA i h3 h4),hA,by rw[show c+m-(j+1)=c+m-j-1 from by omega];exact Yh,λh=>Ug q0,λh i p9=> .inr (adj h i p9),λh=>by omega,by rw[put_defers];exact hi.defers,by rw[oC];exact hi.size,by rw[oC];exact hi.sizec,λt ht=>?_,λi o' t p9 jk hd Wx=>?_,λt ht=>?_⟩
   ·constructor
    ·rintro(h|h)
     ·omega
     ·have:=(hi.dt i h3 h4).1 h;omega
    ·intro h;rcases Nat.eq_or_lt_of_le (show i<=j by omega)with h5|h5
     ·exact .inl h5
     ·exact .inr ((hi.dt i h3 h4).2 h5)
   ·rw[iu,iu]
    split
    ·exact uU (hi.size.trans hi.sizec.symm)
    ·exact hi.done t λi o' p9 jk hd=>(ht i o' p9 jk hd).resolve_left q0
   ·rw[iu,if_neg (λe=>by have:=ga dO jk ho hd e;omega)];exact hi.pend i o' t p9 jk hd (λh=>Wx (.inr h))
   ·rw[iu,if_neg (ht j o hj q0 ho)];exact hi.cm t λi o' h3 h4 h5=>ht i o' h3 q0 h5
  ·have h3:=hA.defers;rw[put_defers,OR]at h3;have h4:=congrArg List.length h3;rw[hi.ag.defers]at h4;simp at h4
theorem T.qa {id:Nat} {l:List Oper} (m:Nat) (fl:List Nat) (c:Nat) (N:aE) (hm:P.follows .mixedOrders=true) (yM:Nat.blt m l.length=true) (dO:fu l 0=true) (tH:ll l m=true) (Ik:mD l m fl c=true)
  (h:∀wD,(∀M,Step M w M wD ar)->lD P r n l.toArray (l.take m) L ds wD (λL'=>(∀j o,j∈fl->l[j]? =some o->cf P N wD L' o)/\tP P r n l.toArray N wD K c (l.drop m) L' ds wD)):T P r n (.region id l.toArray true) L ds w K:=by
 refine ⟨λa ha=>wpIn_region_draw λt=> ?_⟩;simp only[Region.schedule,hm,Bool.true_or,if_true,Region.linearise];have Cx:m<l.length:=by simpa[Nat.blt_eq]using yM
 have hQ:=h _ (pg w);have jb:∀j,j<m->(l.take m)[j]? =l[j]? :=λj hj=>by rw[List.getElem?_take,if_pos hj]
 obtain⟨am,Lm,vs,Cz,hA,hF,hT⟩:=hQ.trace (λo ho=>by
  obtain⟨j,hj⟩:=List.mem_iff_getElem?.1 ho
  have H2:j<m:=by
   have:=(List.getElem?_eq_some_iff.1 hj).1;rw[List.length_take]at this;omega
  exact(lv tH H2 (by rw[<-jb j H2];exact hj)).1) ha
 obtain⟨st,h0,hl,jV⟩:=Cz.DD;have hlen:(l.take m).length=m:=by rw[List.length_take];omega
 rw[hlen]at hl;have yO:∀j o,j<m->l[j]? =some o->∃v,vs[j]? =some v/\One P r l.toArray _ o (st j) v/\st (j+1)=(st j).put o.dst v:=λj o hj ho=>jV j o (by rw[jb j hj];exact ho)
 have lJ:∀i,i<m->∃v,vs[i]? =some v:=λi hi=>by
  obtain⟨v,hv,_⟩:=yO i l[i] hi (List.getElem?_eq_getElem q0);exact⟨v,hv⟩
 have DE:=oD dO h0 yO;have KE:=DE m (Nat.le_refl _) q0;rw[hl]at KE
 refine mA (J:=λD a' w'=>∃p ac Lp,GJ P r n l m fl c N K ds a am {w with drawn:=w.drawn+1} D a' w' p ac Lp) dO (λ{D D' a' w'} ⟨p,ac,Lp,hi⟩ hD=>⟨p,ac,Lp,hi.p0,hi.p1,λi h3 h4=>(hD i h4).trans (hi.dt i h3 h4),λh i h3 h4=>(hD i q0).2 (hi.df h i h3 h4),hi.ag,hi.tr,hi.bL,λh i h3=>(hD i q0).2 (hi.da h i h3),hi.wm,hi.defers,hi.size,hi.sizec,λt ht=>hi.done t λi o h3 h4 h5=>(hD i q0).1 (ht i o h3 h4 h5),λi o t h3 h4 h5 h6=>hi.pend i o t h3 h4 h5 (λh=>h6 ((hD i q0).2 h)),hi.cm⟩)
  (λ{D a' w' j o rest} hj ho oB hp ku hi hk=>GJ.next dO tH Ik Cx lJ (λj o hj ho=>by obtain⟨v,h1,h2,_⟩:=yO j o hj ho;exact⟨v,h1,h2⟩) (λj hj=>DE j q0 q0) KE hA hF ho oB hp ku hi hk) (λa' w' hJ=>?_) _ t _ a _ (by simp) a94 (λi o h1 h2=>?_) ⟨m,am,Lm,Nat.le_refl _,by omega,λi h3 h4=>?_,λh=>by omega,hA,by rw[Nat.add_sub_cancel];exact hT,λ_=>fa.refl _ _,λh=>by omega,λ_=>rfl,ha.defers,rfl,KE.size,λt ht=>?_,λi o t _ _ _ _=>rfl,λt _=>rfl⟩
 ·obtain⟨p,ac,Lp,hi⟩:=hJ
  have yo:p=l.length:=by
   rcases Nat.lt_or_ge p l.length with h3|h3
   ·have:=(hi.dt p hi.p0 h3).1 h3;omega
   ·have:=hi.p1;omega
  have Cz:=hi.tr;rw[yo,List.drop_eq_nil_of_le (Nat.le_refl _)]at Cz;refine⟨Lp,ds,⟨?_,hi.defers,λt v ht=>?_⟩,Cz⟩
  ·rw[hi.size];exact ha.size
  ·rw[hi.done t λi o h3 h4 _=>by omega];exact hi.ag.at_ t v ht
 ·simp[Array.getElem?_replicate]at h2
 ·simp[Array.getElem?_replicate];omega
 ·rw[KE.base t λi o h3 h4 _ h5=>?_];have:=ht i o h3 h4 h5;simp[Array.getElem?_replicate]at this
def ib (P:Program) (N:aE) (wd:World) (L:Sl) (l:List Oper):List Nat->Prop
 |[]=>True
 |j::js=>(match l[j]? with|some o=>cf P N wd L o|none=>True)/\ib P N wd L l js
theorem ib.all {N:aE} {wd:World} {l:List Oper}:∀{fl:List Nat},ib P N wd L l fl->∀j o,j∈fl->l[j]? =some o->cf P N wd L o
 |[],_,j,o,hj,_=>absurd hj (List.not_mem_nil)
 |k::fl,h,j,o,hj,ho=>by
  rcases List.mem_cons.1 hj with e|hj
  ·have h1:=h.1;rw[<-e,ho]at h1;exact h1
  ·exact ib.all h.2 j o hj ho
variable {N:aE} {wd:World} {dst:Option Nat} {ty:TypeId} {pos:String} {af:Array Edge} {gd:Option (Nat×Bool)} {x y i:Operand}
theorem cf.move:cf P N wd L {dst,op:= .move x,type:=ty,pos,after:=af,guard:=gd}:=λρ _ v w' _ h=>by
 have h:Result.ok (Next.value (ρ x)) wd= .ok (.value v) wd:=h
 cases h;rfl
def Loc {α:Type} (s:Sem α):Prop:=∀(P:Program) (w1:World) (a:α) (w':World),s.run P w1= .ok a w'→w'=w1/\∀w2,s.run P w2= .ok a w2
theorem Loc.bind {α β:Type} {s:Sem α} {f:α->Sem β} (h:Loc s) (hf:∀a,Loc (f a)):Loc (s >>= f):=λP w1 b w' hr=>by
 rw[Sem.run_bind]at hr
 cases hs:s.run P w1 with
 |ok a wa=>
  rw[hs]at hr;obtain⟨rfl,h2⟩:=h P w1 a wa hs;obtain⟨h3,h4⟩:=hf a P _ b w' hr;exact⟨h3,λw2=>by rw[Sem.run_bind,h2 w2];exact h4 w2⟩
 |halt e wa=>rw[hs]at hr;simp[Result.andThen]at hr
theorem Loc.pure {α:Type} (a:α):Loc (Pure.pure a:Sem α):=λP w1 b w' hr=>by
 simp only[Sem.run_pure,Result.ok.injEq]at hr;exact⟨hr.2.symm,λw2=>by rw[<-hr.1];rfl⟩
theorem Loc.val {s:Sem Value} (h:Loc s):Loc (do Pure.pure (Next.value (<-s)):Sem Next):=h.bind λv=> .pure _
theorem Loc.halt {α:Type} {s:Sem α} (h:∀(P:Program) (w:World) a w',s.run P w≠ .ok a w'):Loc s:=λP w1 a w' hr=>absurd hr (h P w1 a w')
theorem Loc.stuck {α:Type} (e:Halt):Loc (.halt e:Sem α):= .halt λP w a w' h=>by simp[Sem.run]at h
theorem cf.free {o:Oper} (h:∀ρ:Operand->Value,(∀x u,ev L x=some u->ρ x=u)->Loc (execOp ρ o)):cf P N wd L o:=λρ hρ v w' _ hr=>(h ρ hρ P wd _ _ hr).2 w'
theorem CA (t:TypeId):Loc (underlying t):=λP w1 a w' hr=>by
 simp only[underlying,Sem.run_bind,program,Sem.run,Result.andThen]at hr ⊢
 cases hu:P.underlying t with
 |none=>rw[hu]at hr;simp[stuck,Sem.run]at hr
 |some d=>rw[hu]at hr;simp only[Sem.run_pure,Result.ok.injEq]at hr ⊢;exact⟨hr.2.symm,λw2=>⟨hr.1,trivial⟩⟩
theorem OU (t:TypeId):Loc (typeInfo t):=λP w1 a w' hr=>by
 simp only[typeInfo,Sem.run_bind,program,Sem.run,Result.andThen]at hr ⊢
 cases hu:P.info? t with
 |none=>rw[hu]at hr;simp[stuck,Sem.run]at hr
 |some d=>rw[hu]at hr;simp only[Sem.run_pure,Result.ok.injEq]at hr ⊢;exact⟨hr.2.symm,λw2=>⟨hr.1,trivial⟩⟩
theorem OV (t:TypeId):Loc (sizeOf t):=(OU t).bind λ_=> .pure _
theorem yp {α:Type} (e:RuntimeError) (w w':World) (a:α):(runtimePanic e:Sem α).run P w≠ .ok a w':=λh=>by
 cases e<;>simp only[runtimePanic,program,goPanic,Sem.run,Sem.run_bind,Result.andThen]at h<;>repeat' (first|(cases h;done)|(simp at h;done)|split at h)
theorem zM {α:Type} (k:IntKind) (i:Int) (n:Int) (c:BoundsCode):Loc (boundsPanic k i n c:Sem α):= .halt λP w a w' h=>by
 unfold boundsPanic at h;simp only at h
 split at h
 ·rw[Sem.run_bind]at h;generalize ((· ==1) <$> choose (.extern "runtime.boundsError.signed" 2):Sem Bool).run P w=res at h
  cases res with
  |ok b w1=>
   have h:(runtimePanic (.bounds (IntKind.i64.wrap i) n b c):Sem α).run P w1= .ok a w':=h;exact yp _ _ _ _ h
  |halt e w1=>simp[Result.andThen]at h
 ·have h:(runtimePanic (.bounds (IntKind.i64.wrap i) n (k != IntKind.u64) c):Sem α).run P w= .ok a w':=by rw[Sem.run_bind]at h;exact h
  exact yp _ _ _ _ h
theorem OW (v:Value):Loc (Instr.sureAddr v):=by
 unfold Instr.sureAddr
 split
 ·exact .pure _
 ·exact .stuck _
theorem L7 (v:Value):Loc (asIntOf v):=by
 unfold asIntOf
 split
 ·exact .pure _
 ·exact .stuck _
 ·exact .stuck _
theorem cf.idx {t:TypeId}:cf P N wd L {dst,op:= .indexAddr t x i,type:=ty,pos,after:=af,guard:=gd}:= .free λρ _=>by
 simp only[execOp];refine Loc.val ?_;unfold Instr.indexAt
 have key:∀(base:Option Addr) (len:Nat) (elem:TypeId) (k:IntKind) (j:Int) (f:TypeDesc->Bool),Loc (underlying t >>= λu=>match base with
   |some a=>if 0<=j/\j<len then(sizeOf elem >>= λsz=>Pure.pure (Value.pointer (some (a.add (j.toNat*sz)))))else if(decide (len<=1)&&f u)=true then unsupported (.noEntry "op/indexAddr.an index out of range at an array of length 0 or 1 (ledger 616)")else boundsPanic k j len .index
   |none=>boundsPanic k j 0 .index:Sem Value):=λbase len elem k j f=>(CA t).bind λd2=>by
  split
  ·split
   ·exact(OV _).bind λ_=> .pure _
   ·split
    ·exact .stuck _
    ·exact zM _ _ _ _
  ·exact zM _ _ _ _
 refine (L7 _).bind λki=>(CA t).bind λd=> ?_
 simp only
 split
 ·exact(OW _).bind λa=>(Loc.pure _).bind λbl=>by obtain⟨base,len,elem⟩:=bl;exact ai3
 ·exact(Loc.pure _).bind λbl=>by obtain⟨base,len,elem⟩:=bl;exact ai3
 ·exact(Loc.stuck _).bind λbl=>by obtain⟨base,len,elem⟩:=bl;exact ai3
theorem cf.nilCheck {a:Addr} (hx:ev L x=some (.pointer (some a))):cf P N wd L {dst,op:= .nilCheck x,type:=ty,pos,after:=af,guard:=gd}:= .free λρ hρ=>by
 simp only[execOp,hρ x _ hx];exact .pure _
theorem mE {w w':World} {b:Nat} (hb:∃cs e fr,w.heap[b]? =some (.cells cs e fr)) (hs:w'.heap[b]? =w.heap[b]?):∀(n o i:Nat) (acc a:Array Value) (w1:World),(loadCellsFrom ⟨b,o,none⟩ i n acc).run P w= .ok a w1->w1=w/\(loadCellsFrom ⟨b,o,none⟩ i n acc).run P w'= .ok a w'
 |0,o,i,acc,a,w1,h=>by
  simp only[loadCellsFrom,Sem.run_pure,Result.ok.injEq]at h ⊢;exact⟨h.2.symm,h.1,trivial⟩
 |n+1,o,i,acc,a,w1,h=>by
  obtain⟨cs,e,fr,hc⟩:=hb;simp only[loadCellsFrom,Sem.run_bind]at h ⊢;have oF:∀k,w'.cell? ⟨b,k,none⟩=w.cell? ⟨b,k,none⟩:=λk=>by simp only[World.cell?,hs]
  have Yi:(⟨b,o,none⟩:Addr).add i=⟨b,o+i,none⟩:=by simp[Addr.add]
  rw[Yi]at h ⊢;simp only[load,Sem.run]at h ⊢;rw[oF]
  cases hv:w.cell? ⟨b,o+i,none⟩with
  |some v=>
   rw[hv]at h;simp only[Result.andThen]at h ⊢;exact mE ⟨cs,e,fr,hc⟩ hs n o (i+1) (acc.push v) a w1 h
  |none=>
   rw[hv]at h;simp[World.farLoad,hc,Result.andThen]at h
theorem cf.load {t:TypeId} {b o:Nat} {cs:Array Value} {e:TypeId} {fr:Nat×Nat} (hx:ev L x=some (.pointer (some ⟨b,o,none⟩))) (hb:wd.heap[b]? =some (.cells cs e fr)) (hn: ¬N b):cf P N wd L {dst,op:= .load t x,type:=ty,pos,after:=af,guard:=gd}:=λρ hρ v w' hk hr=>by
 have hs:=hk.2 b (ae hb) hn;simp only[execOp,hρ x _ hx]at hr ⊢;rw[Sem.run_bind]at hr ⊢
 have key:∀v w1,(Instr.loadAt t (.pointer (some ⟨b,o,none⟩))).run P wd= .ok v w1->(Instr.loadAt t (.pointer (some ⟨b,o,none⟩))).run P w'= .ok v w':=λv w1 h=>by
  simp only[Instr.loadAt,Instr.sureAddr,Sem.run_bind,Sem.run_pure,Result.andThen_ok,loadVar]at h ⊢
  have EY:∀w:World,(isAgg t).run P w=match P.underlying t with|some (.struct _)|some (.array _ _)=>Result.ok true w|some _=>Result.ok false w|none=>Result.halt (.stuck "no such type") w:=λw=>by
   simp only[isAgg,underlying,Sem.run_bind,program,Sem.run,Result.andThen]
   cases P.underlying t with
   |none=>simp[stuck,Sem.run]
   |some d=>cases d<;>simp
  rw[EY]at h ⊢
  cases hu:P.underlying t with
  |none=>rw[hu]at h;simp[Result.andThen]at h
  |some d=>
   have lP:∀w:World,(sizeOf t).run P w=match P.info? t with|some i=>Result.ok i.size w|none=>Result.halt (.stuck "no such type") w:=λw=>by
    simp only[sizeOf,typeInfo,Sem.run_bind,program,Sem.run,Result.andThen]
    cases P.info? t<;>simp[stuck,Sem.run]
   have tG:∀v w1,(Go.load ⟨b,o,none⟩).run P wd= .ok v w1->(Go.load ⟨b,o,none⟩).run P w'= .ok v w':=λv w1 h=>by
    have oF:w'.cell? ⟨b,o,none⟩=wd.cell? ⟨b,o,none⟩:=by simp only[World.cell?,hs]
    simp only[Go.load,Sem.run]at h ⊢;rw[oF]
    cases hv:wd.cell? ⟨b,o,none⟩with
    |some u=>rw[hv]at h;simp only[Result.ok.injEq]at h ⊢;exact⟨h.1,trivial⟩
    |none=>rw[hv]at h;simp[World.farLoad,hb]at h
   have OD:∀v w1,(do Pure.pure (Value.agg (<-loadCells ⟨b,o,none⟩ (<-sizeOf t))):Sem Value).run P wd= .ok v w1->(do Pure.pure (Value.agg (<-loadCells ⟨b,o,none⟩ (<-sizeOf t))):Sem Value).run P w'= .ok v w':=λv w1 h=>by
    simp only[Sem.run_bind,lP]at h ⊢
    cases hi:P.info? t with
    |none=>rw[hi]at h;simp[Result.andThen]at h
    |some inf=>
     rw[hi]at h;simp only[Result.andThen]at h ⊢
     cases hl:(loadCells ⟨b,o,none⟩ inf.size).run P wd with
     |ok a w2=>
      rw[hl]at h;obtain⟨_,h2⟩:=mE ⟨cs,e,fr,hb⟩ hs _ _ _ _ _ _ hl;have h2:(loadCells ⟨b,o,none⟩ inf.size).run P w'= .ok a w':=h2;rw[h2];simp only[Sem.run_pure,Result.ok.injEq]at h ⊢;exact⟨h.1,trivial⟩
     |halt x w2=>rw[hl]at h;simp at h
   rw[hu]at h
   cases d<;>simp only[Result.andThen_ok,if_true,Bool.false_eq_true,if_false]at h ⊢ <;>first|exact tG v w1 h|exact OD v w1 h
 cases hl:(Instr.loadAt t (.pointer (some ⟨b,o,none⟩))).run P wd with
 |ok u w1=>
  rw[hl]at hr;rw[key u w1 hl];simp only[Result.andThen_ok,Sem.run_pure,Result.ok.injEq]at hr ⊢;exact⟨hr.1,trivial⟩
 |halt x w1=>rw[hl]at hr;simp[Result.andThen]at hr
theorem cG.float {α:Type} {A:RT α} {M:aE} {w:World} {v:Value} {x:α} (h:cG A M w v x) (hn:0<A.n:=by decide):∃b o cs e fr,v= .pointer (some ⟨b,o,none⟩)/\w.heap[b]? =some (.cells cs e fr)/\¬M b:=by
 obtain⟨b,o,vs,h1,h2,h3,h4⟩:=h;have hp:0<vs.length:=by rw[A.len h3];exact hn
 have hc:=h4 0 vs[0] (List.getElem?_eq_getElem hp);simp only[World.cell?]at hc
 cases hb:w.heap[b]? with
 |none=>rw[hb]at hc;cases hc
 |some ob=>
  rw[hb]at hc
  cases ob with
  |cells cs e fr=>exact⟨b,o,cs,e,fr,h1,hb,h2⟩
  |_=>cases hc
theorem cf.field {s:TypeId} {fs:Array Field} {fd:Field} {j:Nat} {zv:Value} {size bytes:Nat} (hs:P.underlying s=some (.struct fs)) (hj:fs[j]? =some fd) (hi:TI P fd.type zv size bytes) (h0:size≠0):cf P N wd L {dst,op:= .fieldAddr s x j,type:=ty,pos,after:=af,guard:=gd}:=λρ hρ v w' hk hr=>by
 simp only[execOp,Sem.run_bind]at hr ⊢
 have key:∀w,(Instr.fieldAt s (ρ x) j).run P w=match ρ x with| .pointer (some a)=>Result.ok (.pointer (some (a.add fd.offset))) w|_=>Result.halt (.stuck "an address expected (no nilCheck in front?)") w:=λw=>by
  generalize ρ x=u;unfold Instr.fieldAt;simp only[Sem.run_bind,run_underlying hs,Result.andThen_ok,hj];unfold Instr.sureAddr
  split
  ·simp only[Sem.run_pure,Result.andThen_ok,Sem.run_bind,fieldPlace,hi.sizeOf,h0,if_false]
  ·simp[stuck,Sem.run,Result.andThen]
 rw[key]at hr ⊢
 split at hr
 ·simp only[Result.andThen_ok,Sem.run_pure,Result.ok.injEq]at hr ⊢;exact⟨hr.1,trivial⟩
 ·simp[Result.andThen]at hr
end
def uV (P:Program) (l:Nat) (args:Array Value) (w:World) (Q:Value->World->Prop):Prop:=YieldAt (FW none) 0 P l args w (λe w'=>∃v,e= .returned v/\Q v w')
section
variable {P:Program} {r:Option Nat} {n:Nat} {L:Sl} {ds:List Deferred} {w:World} {K:Kt} {ops:Array Oper} {rest:List Oper} {d:Nat} {ty:TypeId} {pos:String} {af:Array Edge}
theorem Rg.yield {x:Operand} {l:Nat} {xs:List Operand} {vs:List Value} {LS:Array TypeId} {Q:Value->World->Prop} (hx:ev L x=some (.func (.yield l) #[] #[]))
  (oe:T8 L xs=some vs) (hd:Nat.blt d n=true) (hs:uV P l vs.toArray w Q) (k:∀v w',Q v w'→Rg P r n ops rest ((d,v)::L) ds w' K):
  Rg P r n ops ({dst:=some d,op:= .call {callee:= .value x,args:=xs.toArray,argTypes:=LS},type:=ty,pos,after:=af,guard:=none}::rest) L ds w K:=by
 refine ⟨λa ha=>wpListIn_plain G λK' Oz=>E7 a06 ?_⟩;obtain⟨fn,tmps,tI,body,hy,hr⟩:=hs
 have gO:(execOp a.eval {dst:=some d,op:= .call {callee:= .value x,args:=xs.toArray,argTypes:=LS},type:=ty,pos,after:=af,guard:=none}).run P w= .ok (.round l fn tmps tI body) w:=by
  have h1:=rN (ρ:=a.eval) (λx u hx=>ha.eval hx) oe;simp only[execOp,resolve,List.map_toArray,h1,ha.eval hx];simpa[Deferred.ofValue,invoke]using hy
 rw[gO,Oper.uponIn_round];refine ⟨λh=>by simp[FW,Fence.wide]at h,?_⟩;have hr':RoundIn (FW r) (0-1) P l fn tmps tI body w (λe w'=>∃v,e= .returned v/\Q v w'):=hr;refine hr'.mono ?_;rintro e w' ⟨v,rfl,hv⟩;exact Oz _ _ ((k v w' hv).run _ (ha.put (by simpa[Nat.blt_eq]using hd) v))
end
def tQ (fn:FuncId) (tm:Array Value) (ps:Array Tmp) (tI body:Code) (D:Nat) (st:LoopState) (pe:Option Code):Loop:={state:=st,pending:=pe,fn:=fn,tmps:=tm,params:=ps,assign:=tI,body:=body,defers:=D}
structure Tm (n:Nat) (tm:Array Value) (L:Sl):Prop where
 size:n<=tm.size
 at_:∀t v,lk L t=some v->tm[t]? =some v
def L8:List Tmp->List Value->Sl->Sl
 |p::ps,v::vs,L=>L8 ps vs ((p,v)::L)
 |_,_,L=>L
theorem CB {n:Nat}:∀(ps:List Tmp) (vs:List Value) (tm:Array Value) (L:Sl),Tm n tm L->(∀p∈ps,p<n)->iS n {tmps:=(ps.zip vs).foldl (λtmps (t,a)=>tmps.setIfInBounds t a) tm,defers:=[]} (L8 ps vs L) []
 |[],vs,tm,L,h,_=>⟨by simpa using h.size,rfl,by simpa[L8]using h.at_⟩
 |p::ps,[],tm,L,h,_=>⟨by simpa using h.size,rfl,by simpa[L8]using h.at_⟩
 |p::ps,v::vs,tm,L,h,hp=>by
  have h0:iS n {tmps:=tm,defers:=[]} L []:=⟨h.size,rfl,h.at_⟩;have h1:=h0.put (hp p (List.mem_cons_self ..)) v;exact CB ps vs (tm.setIfInBounds p v) ((p,v)::L) ⟨by simpa using h.size,h1.at_⟩ (λq hq=>hp q (List.mem_cons_of_mem _ hq))
def Yj (l:Nat) (rec:LoopState->Option Code->Loop) (Q:Value->World->Prop):Kt
 |.normal,_,_,w=>w.heap[l]? =some (.loop (rec .busy none))/\Q (.bool true) (w.putObj l (.loop (rec .ready none)))
 |.ret,_,_,w=>w.heap[l]? =some (.loop (rec .busy none))/\Q (.bool false) (w.putObj l (.loop (rec .done (some .ret))))
 |.exit id,_,_,w=>w.heap[l]? =some (.loop (rec .busy none))/\Q (.bool false) (w.putObj l (.loop (rec .done (some (.exit id)))))
 |.goto id,_,_,w=>w.heap[l]? =some (.loop (rec .busy none))/\Q (.bool false) (w.putObj l (.loop (rec .done (some (.goto id)))))
 |_,_,_,_=>False
@[reducible] def adk (P:Program) (l n:Nat) (rec:LoopState->Option Code->Loop) (body:Code) (Q:Value->World->Prop):Kt:=λe L ds w=>
 e= .normal/\w.heap[l]? =some (.loop (rec .ready none))/\T P (some l) n body L ds (w.putObj l (.loop (rec .busy none))) (Yj l rec Q)
theorem OX {P:Program} {n l D:Nat} {fn:FuncId} {tm:Array Value} {ps:List Tmp} {tI body:Code} {vs:List Value} {L:Sl} {w:World} {Q:Value->World->Prop}
  (hl:w.heap[l]? =some (.loop (tQ fn tm ps.toArray tI body D .ready none))) (Ui:Tm n tm L) (hlen:vs.length=ps.length) (qm:∀p∈ps,p<n)
  (h:T P (some l) n tI (L8 ps vs L) [] w (adk P l n (tQ fn tm ps.toArray tI body D) body Q)):uV P l vs.toArray w Q:=by
 have hy:=run_yield (P:=P) (args:=vs.toArray) hl (by simp[tQ,hlen]);refine ⟨_,_,_,_,hy,roundIn_of_wpIn trivial ?_⟩
 have hz:((tQ fn tm ps.toArray tI body D .ready none).params.zip vs.toArray).foldl (λtmps (t,a)=>tmps.setIfInBounds t a) (tQ fn tm ps.toArray tI body D .ready none).tmps=(ps.zip vs).foldl (λtmps (t,a)=>tmps.setIfInBounds t a) tm:=by
  simp[tQ,<-Array.foldl_toList]
 rw[hz];refine wpIn_mono (h.run _ (CB ps vs tm L Ui qm)) ?_;rintro e a w1 ⟨L1,ds1,ha1,rfl,hl1,hb⟩;refine ⟨_,run_beginRound hl1 G,wpIn_mono (hb.run a ha1) ?_⟩;rintro e a2 w2 ⟨L2,ds2,Wu,hK⟩
 cases e with
 |normal=>exact⟨_,_,run_endRound none hK.1,_,rfl,hK.2⟩
 |ret=>exact⟨_,_,run_endRound (some .ret) hK.1,_,rfl,hK.2⟩
 |exit id=>exact⟨_,_,run_endRound (some (.exit id)) hK.1,_,rfl,hK.2⟩
 |goto id=>exact⟨_,_,run_endRound (some (.goto id)) hK.1,_,rfl,hK.2⟩
 |panic c=>exact hK.elim
 |outgrown=>exact hK.elim
def Wz (n D:Nat) (ps:Array Tmp) (tI body:Code) (L:Sl) (rec:LoopState->Option Code->Loop):Prop:=∃fn tm,Tm n tm L/\rec=tQ fn tm ps tI body D
theorem oG {P:Program} {n l D:Nat} {ps:List Tmp} {tI body:Code} {vs:List Value} {L:Sl} {w:World} {Q:Value->World->Prop} {rec:LoopState->Option Code->Loop} (qS:Wz n D ps.toArray tI body L rec)
  (hl:w.heap[l]? =some (.loop (rec .ready none))) (hlen:vs.length=ps.length) (qm:∀p∈ps,p<n)
  (h:T P (some l) n tI (L8 ps vs L) [] w (adk P l n rec body Q)):uV P l vs.toArray w Q:=by
 obtain⟨fn,tm,Ui,rfl⟩:=qS;exact OX hl Ui hlen qm h
def mark (D:Nat):Deferred:={target:= .collected D,args:= #[]}
theorem T.Yk {P:Program} {n:Nat} {L:Sl} {ds:List Deferred} {w:World} {K:Kt} {g:Operand} {ps:Array Tmp} {tI body:Code} {gf:FuncId} {lb:Array Value} (hg:ev L g=some (.func (.func gf) #[] lb)) (he:Enters P gf)
  (h:∀fn tm,Tm n tm L->Spec P gf (#[.func (.yield (w.heap.size+1)) #[] #[]]++lb)
   ((w.alloc (.deferred (some []))).alloc (.loop (tQ fn tm ps tI body w.heap.size .ready none))) (λ_ w3=>
    (w3.heap[w.heap.size+1]? =some (.loop (tQ fn tm ps tI body w.heap.size .ready none))/\K .normal L (mark w.heap.size::ds) (w3.putObj (w.heap.size+1) (.loop (tQ fn tm ps tI body w.heap.size .exhausted none))))\/
    ∃c,w3.heap[w.heap.size+1]? =some (.loop (tQ fn tm ps tI body w.heap.size .done (some c)))/\T P none n c L (mark w.heap.size::ds) (w3.putObj (w.heap.size+1) (.loop (tQ fn tm ps tI body w.heap.size .exhausted (some c)))) K)):
  T P none n (.rangeFunc g ps tI body) L ds w K:=by
 refine ⟨λa ha=>wpIn_rangeFunc λfn hfn=> ?_⟩;have hs:=h fn a.tmps ⟨ha.size,ha.at_⟩;have oz:iS n {a with defers:=[mark w.heap.size]++a.defers} L (mark w.heap.size::ds):=⟨ha.size,by simp[ha.defers],ha.at_⟩
 let W1:World:=(w.alloc (.deferred (some []))).alloc (.loop (tQ fn a.tmps ps tI body w.heap.size .ready none))
 refine⟨w.heap.size+1,[mark w.heap.size],W1,{target:= .fn (.func gf) lb,args:= #[.func (.yield (w.heap.size+1)) #[] #[]]},W1,gf,#[.func (.yield (w.heap.size+1)) #[] #[]]++lb,W1,run_enterLoop_outer _ _ _ _ _,?_,?_,?_,?_,?_⟩
 ·simp only[resolve,ha.eval hg];simp[go_sem]
 ·exact λ_ _=>trivial
 ·simpa[invoke,go_sem]using he (#[.func (.yield (w.heap.size+1)) #[] #[]]++lb) _
 ·exact λh=>by simp[FW,Fence.wide]at h
 ·refine (callsIn_wide.2 hs).mono ?_;rintro e w3 ⟨v,rfl,⟨hl,hk⟩|⟨c,hl,hk⟩⟩
  ·exact⟨none,_,run_endLoop hl (by simp[tQ]),_,_,oz,hk⟩
  ·exact⟨some c,_,run_endLoop hl (by simp[tQ]),hk.run _ oz⟩
theorem T.range {P:Program} {n:Nat} {L:Sl} {ds:List Deferred} {w:World} {K:Kt} {g:Operand} {ps:Array Tmp} {tI body:Code} {gf:FuncId} {lb:Array Value} (hg:ev L g=some (.func (.func gf) #[] lb)) (he:Enters P gf)
  (h:∀rec,Wz n w.heap.size ps tI body L rec->Spec P gf (#[.func (.yield (w.heap.size+1)) #[] #[]]++lb)
   ((w.alloc (.deferred (some []))).alloc (.loop (rec .ready none))) (λ_ w3=>
    (w3.heap[w.heap.size+1]? =some (.loop (rec .ready none))/\K .normal L (mark w.heap.size::ds) (w3.putObj (w.heap.size+1) (.loop (rec .exhausted none))))\/
    ∃c,w3.heap[w.heap.size+1]? =some (.loop (rec .done (some c)))/\T P none n c L (mark w.heap.size::ds) (w3.putObj (w.heap.size+1) (.loop (rec .exhausted (some c)))) K)):
  T P none n (.rangeFunc g ps tI body) L ds w K:= .Yk hg he λfn tm Ui=>h _ ⟨fn,tm,Ui,rfl⟩
def Marks (P:Program):List Deferred->World->World->Prop
 |[],w,w'=>w'=w
 |d::ds,w,w'=>∃r w1,d.target= .collected r/\(Instr.takeDeferred r).run P w= .ok [] w1/\Marks P ds w1 w'
def Fk (P:Program) (fn:Func) (Q:Value->World->Prop):Kt
 |.normal,L,ds,w| .ret,L,ds,w=>∃w',Marks P ds w w'∧∀a:Act,(∀t v,lk L t=some v->a.tmps[t]? =some v)->∃v,(results fn a.tmps).run P w'= .ok v w'∧Q v w'
 |_,_,_,_=>False
theorem uW {P:Program} {fn:Func} {tmps:Array Value} {R:Ending->World->Prop} {w':World}:∀(ds:List Deferred) (w:World),Marks P ds w w'→(∃v,(results fn tmps).run P w'= .ok v w'∧R (.returned v) w')->LeavesInM (FW none) 0 P fn tmps R ds .returning w
 |[],w,h,hr=>by cases h;exact hr
 |d::ds,w,⟨r,w1,h1,h2,h3⟩,hr=>⟨by simp,.inl ⟨r,w1,h1,h2,uW ds w1 h3 hr⟩⟩
theorem qT {P:Program} {f:FuncId} {fn:Func} {c:Code} {args:List Value} {w:World} {Q:Value->World->Prop} (hf:P.funcs[f]? =some fn) (hb:fn.body=some c) {n:Nat} (hn:fn.ntmps=n)
  (h:T P none n c (wZ 0 args) [] w (Fk P fn Q)):Spec P f args.toArray w Q:=by
 refine(callsIn_wide (n:=0)).1 (callsIn_of_wp_marks (F:=FW none) hf hb trivial ?_);refine wpIn_mono (h.run _ ⟨?_,G,?_⟩) ?_
 ·simp[hn];omega
 ·intro t v ht;obtain⟨_,h2⟩:=Cr args 0 t v ht;simp only[Nat.sub_zero]at h2;have eZ:t<args.length:=(List.getElem?_eq_some_iff.1 h2).1;simp only;rw[Array.getElem?_append_left (by simpa using eZ)];simpa using h2
 ·rintro e a w' ⟨L,ds,ha,hK⟩
  have go:(∃zI,Marks P ds w' zI/\∀a:Act,(∀t v,lk L t=some v->a.tmps[t]? =some v)->∃v,(results fn a.tmps).run P zI= .ok v zI/\Q v zI)->LeavesInM (FW none) 0 P fn a.tmps (λe w'=>∃v,e= .returned v/\Q v w') a.defers .returning w':=by
   rintro⟨zI,h1,h2⟩;obtain⟨v,h3,h4⟩:=h2 a ha.at_;rw[ha.defers];exact uW ds w' h1 ⟨v,h3,v,G,h4⟩
  cases e with
  |normal=>exact go hK
  |ret=>exact go hK
  |exit id=>exact hK.elim
  |goto id=>exact hK.elim
  |panic c=>exact hK.elim
  |outgrown=>exact hK.elim
theorem CC {P:Program} {D:Nat} {w:World} (h:w.heap[D]? =some (.deferred (some []))):Marks P [mark D] w (w.putObj D (.deferred none)):=⟨D,_,rfl,run_takeDeferred h,rfl⟩
section
variable {P:Program} {fn:Func} {L:Sl} {w:World} {Q:Value->World->Prop}
theorem jB (hr:fn.results= #[]) (h:Q (.tuple #[]) w):yL P fn Q .normal L [] w:=⟨rfl,λa ha=>⟨_,by simp[results,hr],h⟩⟩
theorem Ir {t D:Nat} {v:Value} (hr:fn.results= #[.tmp t]) (hv:lk L t=some v) (hD:w.heap[D]? =some (.deferred (some []))) (h:Q v (w.putObj D (.deferred none))):
  Fk P fn Q .ret L [mark D] w:=⟨_,CC hD,λa ha=>⟨v,by simp[results,hr,ha t v hv],h⟩⟩
theorem Yl {t u D:Nat} {x y:Value} (hr:fn.results= #[.tmp t,.tmp u]) (hx:lk L t=some x) (hy:lk L u=some y) (hD:w.heap[D]? =some (.deferred (some []))) (h:Q (.tuple #[x,y]) (w.putObj D (.deferred none))):
  Fk P fn Q .ret L [mark D] w:=⟨_,CC hD,λa ha=>⟨_,by simp[results,hr,ha _ _ hx,ha _ _ hy],h⟩⟩
theorem Uj {t u:Nat} {x y:Value} (hr:fn.results= #[.tmp t,.tmp u]) (hx:lk L t=some x) (hy:lk L u=some y) (h:Q (.tuple #[x,y]) w):
  Fk P fn Q .ret L [] w:=⟨w,rfl,λa ha=>⟨_,by simp[results,hr,ha _ _ hx,ha _ _ hy],h⟩⟩
end
theorem fD {M:aE} {w:World} {b:Nat} {o:Obj} (hM:M b):Step M w M (w.putObj b o) (λk=>k=b):=
 ⟨λh k hk=>by simpa[World.putObj]using h k hk,rfl,rfl,rfl,by simp[World.putObj],λ_ _=>Iff.rfl,λk _ hn=>World.putObj_heap_other (λe=>hn e),λk hk=>by subst hk;exact hM⟩
section
variable {P:Program} {r:Option Nat} {n:Nat} {L:Sl} {ds:List Deferred} {w:World} {K:Kt} {ops:Array Oper} {rest:List Oper} {d:Nat} {ty:TypeId} {pos:String} {af:Array Edge} {x y:Operand} {α:Type} {A:RT α}
theorem cG.lx {M:aE} {v:Value} {a:α} (h:cG A M w v a):∃p,v= .pointer (some p):=by
 obtain⟨b,o,vs,h1,_⟩:=h;exact⟨_,h1⟩
theorem Rg.nilCheck {v:Value} (hx:ev L x=some v) (hv:∃p,v= .pointer (some p)) (hd:Nat.blt d n=true) (k:Rg P r n ops rest ((d,v)::L) ds w K):
  Rg P r n ops ({dst:=some d,op:= .nilCheck x,type:=ty,pos,after:=af,guard:=none}::rest) L ds w K:=by
 obtain⟨p,rfl⟩:=hv;exact .op a06 rfl rfl hd _ w (λρ h=>by simp only[execOp,h x _ hx];simp) k
theorem Rg.bz {s:TypeId} {fs:Array Field} {fd:Field} {j size o o' b:Nat} {zv:Value} {bytes:Nat} (hu:P.underlying s=some (.struct fs)) (hfd:fs[j]? =some fd) (ho:o+fd.offset=o') (hi:TI P fd.type zv size bytes) (hs:size≠0)
  (hx:ev L x=some (.pointer (some ⟨b,o,none⟩))) (hd:Nat.blt d n=true) (k:Rg P r n ops rest ((d,.pointer (some ⟨b,o',none⟩))::L) ds w K):
  Rg P r n ops ({dst:=some d,op:= .fieldAddr s x j,type:=ty,pos,after:=af,guard:=none}::rest) L ds w K:=
 .op a06 rfl rfl hd _ w (λρ h=>by
  simp only[execOp,h x _ hx];simp[Instr.fieldAt,run_underlying hu,hfd,Instr.sureAddr,fieldPlace,hi.sizeOf,hs,<-ho,Addr.add_mid]) k
theorem Rg.eW {t:TypeId} {fs:TypeDesc} {zv:Value} {bytes size b:Nat} {vs:List Value} {e:TypeId} {fr:Nat×Nat} (hu:P.underlying t=some fs) (hf:fs.isRow=true) (hi:TI P t zv size bytes) (hl:vs.length=size)
  (hx:ev L x=some (.pointer (some ⟨b,0,none⟩))) (hd:Nat.blt d n=true) (hb:w.heap[b]? =some (.cells vs.toArray e fr)) (k:Rg P r n ops rest ((d,.agg vs.toArray)::L) ds w K):
  Rg P r n ops ({dst:=some d,op:= .load t x,type:=ty,pos,after:=af,guard:=none}::rest) L ds w K:=by
 refine .op a06 G G hd (.agg vs.toArray) w (λρ h=>?_) k;simp only[execOp,h x _ hx];obtain⟨i,BH,_,EX,_⟩:=hi.get;have hr:w.rangeAt b 0 vs:=λj v hj=>im hb a98
 have:=run_loadAt_mid (P:=P) w b 0 t vs fs hr hu hf (by simp[BH,EX,hl]);simp[this]
theorem nC:∀(vs:List Value) (w:World) (b o:Nat) (cs:Array Value) (e:TypeId) (fr:Nat×Nat),w.heap[b]? =some (.cells cs e fr)->
  ∃sO:Array Value,(w.setCells b o vs).heap[b]? =some (.cells sO e fr)/\sO.size=cs.size/\(∀j,sO[j]? =if o<=j/\j<o+vs.length/\j<cs.size then vs[j-o]? else cs[j]?)/\∀M:aE,M b->Step M w M (w.setCells b o vs) (λk=>k=b)
 |[],w,b,o,cs,e,fr,h=>⟨cs,by simpa[World.setCells]using h,rfl,λj=>by rw[if_neg a13],λM hM=>(Step.refl M w).dF a15 (λk hk=>by subst hk;exact hM)⟩
 |v::vs,w,b,o,cs,e,fr,h=>by
  have h1:=zF (o:=o) (v:=v) h;obtain⟨sO,h2,h3,h4,h5⟩:=nC vs (w.setCell ⟨b,o,none⟩ v) b (o+1) _ e fr h1;refine⟨sO,h2,by rw[h3];simp,λj=>?_,λM hM=>(uP M hM).trans (h5 M hM) λ_ _ h=>h⟩;rw[h4 j,Array.getElem?_setIfInBounds];simp only[Array.size_setIfInBounds,List.length_cons];by_cases hj:o=j
  ·subst hj;rw[if_neg q0,if_pos rfl];by_cases eZ:o<cs.size
   ·rw[if_pos eZ,if_pos ⟨Nat.le_refl _,by omega,eZ⟩];simp
   ·rw[if_neg eZ,if_neg q0,Array.getElem?_eq_none q0]
  ·rw[if_neg hj];by_cases h6:o+1<=j/\j<o+1+vs.length/\j<cs.size
   ·rw[if_pos h6,if_pos q0,show j-o=(j-(o+1))+1 from by omega];simp
   ·rw[if_neg h6,if_neg q0]
theorem Rg.ec {t:TypeId} {zv:Value} {bytes size b:Nat} {cs:Array Value} {vs:List Value} {e:TypeId} {M:aE} (hi:TI P t zv size bytes) (hl:vs.length=size) (Wp:cs.size=size) (h1:∀u∈vs,u.oneCell'=true)
  (hx:ev L x=some (.pointer (some ⟨b,0,none⟩))) (hy:ev L y=some (.agg vs.toArray)) (hb:w.heap[b]? =some (.cells cs e (0,0))) (hm:M b)
  (k:∀w',w'.heap[b]? =some (.cells vs.toArray e (0,0))->Step M w M w' (λk=>k=b)->Rg P r n ops rest L ds w' K):
  Rg P r n ops ({dst:=none,op:= .store t x y,type:=ty,pos,after:=af,guard:=none}::rest) L ds w K:=by
 obtain⟨sO,h2,h3,h4,h5⟩:=nC vs w b 0 cs e (0,0) hb
 have ajO:sO=vs.toArray:=Array.ext_getElem? λj=>by
  rw[h4 j];by_cases hj:j<cs.size
  ·rw[if_pos q0];simp
  ·rw[if_neg q0,Array.getElem?_eq_none q0];simp;omega
 subst ajO;refine .Wn a06 G G (w.setCells b 0 vs) (λρ hρ=>?_) (k _ h2 (h5 M hm));simp only[execOp,hρ x _ hx,hρ y _ hy];obtain⟨i,BH,_,EX,_⟩:=hi.get
 have:=run_storeAt_mid (P:=P) w b 0 t vs.toArray (λj hj=>by
  have hj':j<cs.size:=by simp at hj;omega
  exact⟨by rw[im hb (v:=cs[j]) (by simp[hj'])];rfl,by simp[World.frozen?,hb]⟩) (by simp[BH,EX,hl]) (by simpa[Array.all_eq_true_iff_forall_mem]using h1)
 simp[this]
theorem Rg.jC {t e:TypeId} {zv v:Value} {bytes:Nat} {M M1:aE} {w1:World} {a:α} {ty2:TypeId} {ajP:String} {af2:Array Edge} (hi:TI P e zv A.n bytes) (hz:zv.cells.size=A.n) (hg:A.agg=true) (hd:Nat.blt d n=true) (L9:t=e) (hdy:ev ((d,.pointer (some ⟨w.heap.size,0,none⟩))::L) y=some v)
  (hv:A.V M1 w1 a v) (hle:Le M1 w1 M w) (hm:Lt M w) (k:∀u w',cG A M w' u a->Step M w M w' ar->w.heap.size<w'.heap.size->Rg P r n ops rest ((d,u)::L) ds w' K):
  Rg P r n ops ({dst:=some d,op:= .alloc e,type:=ty,pos,after:=af,guard:=none}::{dst:=none,op:= .store t (.tmp d) y,type:=ty2,pos:=ajP,after:=af2,guard:=none}::rest) L ds w K:=by
 subst L9;obtain⟨vs,h1,rfl⟩:=hv.le hle;have Yf:lk ((d,.pointer (some ⟨w.heap.size,0,none⟩))::L) d=some (.pointer (some ⟨w.heap.size,0,none⟩)):=by simp[lk,Nat.beq_refl]
 obtain⟨i,i1,i2,i3,i4⟩:=hi.get;refine .op a06 G G hd (.pointer (some ⟨w.heap.size,0,none⟩)) (w.alloc (.cells zv.cells t)) (λρ hρ=>?_) ?_
 ·simp only[execOp];simp[Instr.alloc,zeroValue,typeInfo,i1,i2,newVar,newRow,newObj,Sem.run]
 ·have s1:=(dL M w (.cells zv.cells t)).own (Nat.le_refl _) (by simp);refine .ec (M:=ins M w.heap.size) hi (A.len h1) hz (A.one h1) Yf (by simpa[RT.val,hg]using hdy) (cY w _) (.inl G) (λw' h2 s2=>?_);have pZ:=s2.size;have jV:Step M w M w' ar:=⟨λh b hb=>Nat.lt_of_lt_of_le (h b hb) (Nat.le_trans s1.size pZ),s2.os.trans s1.os,s2.tape.trans s1.tape,s2.output.trans s1.output,Nat.le_trans s1.size pZ,λ_ _=>Iff.rfl,λk hk _=>(s2.same k (Nat.lt_of_lt_of_le hk s1.size) (λe=>by subst e;omega)).trans (s1.same k hk λh=>h.elim),λ_ h=>h.elim⟩;refine k _ w' ⟨w.heap.size,0,vs,G,λh=>by have:=hm _ h;omega,A.le jV.le h1,λj u hj=>im h2 a98⟩ jV (by simp at pZ;omega)
def Is (place:Nat->Option (Nat×Nat)):List Value->List (Nat×Value)->List Value->Prop
 |zs,[],out=>out=zs
 |zs,(i,v)::rest,out=>∃off vs,place i=some (off,vs.length)/\v.cells=vs.toArray/\off+vs.length<=zs.length/\Is place (zs.take off++vs++zs.drop (off+vs.length)) rest out
theorem yq {place:Nat->Option (Nat×Nat)}:∀(ps:List (Nat×Value)) (zs out:List Value),Is place zs ps out->Instr.fill place zs.toArray ps=some out.toArray
 |[],zs,out,h=>by cases h;rfl
 |(i,v)::rest,zs,out,⟨off,vs,h1,h2,h3,h4⟩=>by
  rw[<-yq rest _ out h4]
  have key:∀(l:List Value) (k:Nat) (cs:Array Value),off+k+l.length<=cs.size->((l.zipIdx k).foldl (fun(cs:Array Value) (x:Value×Nat)=>cs.setIfInBounds (off+x.2) x.1) cs).size=cs.size/\
    ∀j:Nat,((l.zipIdx k).foldl (fun(cs:Array Value) (x:Value×Nat)=>cs.setIfInBounds (off+x.2) x.1) cs)[j]? =if off+k<=j/\j<off+k+l.length then l[j-(off+k)]? else cs[j]? :=by
   intro l
   induction l with
   |nil=>
    intro k cs hk;refine ⟨G,λj=> ?_⟩;simp;intro h1 h2;omega
   |cons a l ih=>
    intro k cs hk;simp only[List.zipIdx_cons,List.foldl_cons];simp only[List.length_cons]at hk;obtain⟨h1,h2⟩:=ih (k+1) (cs.setIfInBounds (off+k) a) a13;refine ⟨by rw[h1];simp,λj=> ?_⟩;rw[h2 j,Array.getElem?_setIfInBounds,List.length_cons];by_cases h3:off+(k+1)<=j/\j<off+(k+1)+l.length
    ·rw[if_pos h3,if_pos q0,show j-(off+k)=(j-(off+(k+1)))+1 from by omega];simp
    ·rw[if_neg h3];by_cases h4:off+k=j
     ·subst h4;rw[if_pos rfl,if_pos q0,if_pos q0];simp
     ·rw[if_neg h4,if_neg q0]
  obtain⟨k1,k2⟩:=key vs 0 zs.toArray (by simpa using h3)
  conv=>lhs;rw[Instr.fill]
  simp only[h1,h2];simp[show¬(zs.length<off+vs.length) by omega];congr 1;refine Array.ext_getElem? λj=>?_
  rw[k2 j,Nat.add_zero,List.getElem?_toArray,List.getElem?_toArray];by_cases hj:j<off
  ·rw[if_neg q0,List.getElem?_append_left a13,List.getElem?_take,if_pos hj]
  ·have ht:(zs.take off).length=off:=by simp;omega
   rw[List.getElem?_append_right q0,ht];by_cases wR:j<off+vs.length
   ·rw[if_pos q0,List.getElem?_append_left q0]
   ·rw[if_neg q0,List.getElem?_append_right q0,List.getElem?_drop];congr 1;omega
def placesOf (P:Program) (t:TypeId):List (Option (Nat×Nat)):=match P.underlying t with
 |some (.struct fs)=>fs.toList.map λf=>(P.info? f.type).map λi=>(f.offset,i.size)
 |_=>[]
def Fl (L:Sl):List (Nat×Operand)->List (Nat×Value)->Prop
 |[],vs=>vs=[]
 |p::ps,vs=>∃v r,vs=(p.1,v)::r/\ev L p.2=some v/\Fl L ps r
theorem Fl.use {ρ:Operand->Value} (h:∀x v,ev L x=some v->ρ x=v):∀{ps:List (Nat×Operand)} {vs:List (Nat×Value)},Fl L ps vs->ps.map (λp=>(p.1,ρ p.2))=vs
 |[],_,hp=>by cases hp;rfl
 |p::ps,_,⟨v,r,h1,h2,h3⟩=>by rw[List.map_cons,h p.2 v h2,Fl.use h h3,h1]
theorem Rg.build {t:TypeId} {fs:Array Field} {zv:Value} {bytes size:Nat} {ps:List (Nat×Operand)} {ia:List (Nat×Value)} {out:List Value} {places:List (Nat×Nat)} (hu:P.underlying t=some (.struct fs)) (hi:TI P t zv size bytes)
  (Ym:placesOf P t=places.map some) (hd:Nat.blt d n=true)
  (oe:Fl L ps ia) (hf:Is (λi=>places[i]?) zv.cells.toList ia out) (k:Rg P r n ops rest ((d,.agg out.toArray)::L) ds w K):
  Rg P r n ops ({dst:=some d,op:= .build t ps.toArray,type:=ty,pos,after:=af,guard:=none}::rest) L ds w K:=by
 have yo:fs.toList.map (λf=>(P.info? f.type).map λi=>(f.offset,i.size))=places.map some:=by
  unfold placesOf at Ym;rw[hu]at Ym;exact Ym
 obtain⟨i,i1,i2,i3,i4⟩:=hi.get;refine .op a06 G G hd (.agg out.toArray) w (λρ hρ=>?_) k;have hm:(Array.map (fun(i,x)=>(i,ρ x)) ps.toArray).toList=ia:=by rw[Array.toList_map];exact oe.use hρ
 have hp:∀(l:List Field) (acc:List (Nat×Nat)),l.map (λf=>(P.info? f.type).map λi=>(f.offset,i.size))=acc.map some->(l.mapM (λf=>do let s <-Go.sizeOf f.type;pure (f.offset,s):Field->Sem (Nat×Nat))).run P w= .ok acc w:=by
  intro l
  induction l with
  |nil=>intro acc h;cases acc with
   |nil=>rfl
   |cons a acc=>simp at h
  |cons f l ih=>
   intro acc h
   cases acc with
   |nil=>simp at h
   |cons a acc=>
    simp only[List.map_cons,List.cons.injEq]at h;obtain⟨h1,h2⟩:=h;have:=ih acc h2
    cases hq:P.info? f.type with
    |none=>rw[hq]at h1;simp at h1
    |some i=>
     rw[hq]at h1;simp at h1;subst h1;have hs:(Go.sizeOf f.type).run P w= .ok i.size w:=by simp[Go.sizeOf,typeInfo,program,Sem.run,hq]
     simp only[List.mapM_cons,Sem.run_bind,hs,Result.andThen_ok,Sem.run_pure,this]
 have WA:(fs.mapM (λf=>do let s <-Go.sizeOf f.type;pure (f.offset,s):Field->Sem (Nat×Nat))).run P w= .ok places.toArray w:=by
  have h3:fs.mapM (λf=>do let s <-Go.sizeOf f.type;pure (f.offset,s):Field->Sem (Nat×Nat))=List.toArray <$> fs.toList.mapM (λf=>do let s <-Go.sizeOf f.type;pure (f.offset,s):Field->Sem (Nat×Nat)):=by
   exact Array.mapM_eq_mapM_toList
  rw[h3];simp only[map_eq_pure_bind,Sem.run_bind,hp _ _ yo,Result.andThen_ok,Sem.run_pure]
 have hf2:=yq ia _ out hf;have hz:(zeroValue t).run P w= .ok zv w:=by simp[zeroValue,typeInfo,program,Sem.run,i1,i2]
 have hf3:Instr.fill (λx=>places.toArray[x]?) zv.cells ia=some out.toArray:=by simpa using hf2
 simp only[execOp,Instr.build,Sem.run_bind,hz,Result.andThen_ok,run_underlying hu,WA,hm,hf3,Sem.run_pure]
theorem Rg.Ma {t e:TypeId} {l h m:Operand} {κ κ' κ'':IntKind} {lo hi mx:Int} {hn:0<A.n} {M:aE} {w1:World} {xs:List α} {v zv:Value} {bytes:Nat} (ht:P.underlying t=some (.slice e)) (LV:TI P e zv A.n bytes)
  (hx:ev L x=some v) (hl:ev L l=some (.int κ lo)) (hh:ev L h=some (.int κ' hi)) (hm:ev L m=some (.int κ'' mx)) (hd:Nat.blt d n=true) (hv:(A.sl hn).V M w1 xs v) (hb:0<=lo/\lo<=hi/\hi=mx/\hi<=xs.length)
  (k:∀u,(A.sl hn).V M w1 ((xs.take hi.toNat).drop lo.toNat) u->Rg P r n ops rest ((d,u)::L) ds w K):
  Rg P r n ops ({dst:=some d,op:= .slice t x (some l) (some h) (some m),type:=ty,pos,after:=af,guard:=none}::rest) L ds w K:=by
 obtain⟨a,cap,rfl,hc,hlen,hs⟩:=iX.1 hv;obtain⟨h1,h2,rfl,h3⟩:=hb;have zE:((xs.take hi.toNat).drop lo.toNat).length=hi.toNat-lo.toNat:=by rw[List.length_drop,List.length_take];omega
 refine .op a06 G G hd (sliced a lo.toNat hi.toNat hi.toNat A.n) w (λρ hρ=>?_) (k _ (iX.2 ⟨_,hi.toNat-lo.toNat,?_,by omega,by omega,hs.slice lo.toNat hi.toNat cap hi.toNat q0 q0 q0⟩))
 ·simp only[execOp,hρ x _ hx,Option.map_some,hρ l _ hl,hρ h _ hh,hρ m _ hm];rw[Sem.run_bind,run_sliceAt_slice _ _ _ _ _ _ (jn ht),run_slice_lhm _ _ _ _ _ (jn ht) _ _ _ _ _ _ h1 h2 (Int.le_refl _) q0,o9 ht,LV.sizeOf];simp
 ·rw[zE];rfl
theorem Rg.lY {t t' e:TypeId} {a:Option Addr} {l c:Nat} (ht:P.underlying t=some (.slice e)) (hx:ev L x=some (.slice a l c)) (hy:ev L y=some (.slice none 0 0)) (hd:Nat.blt d n=true)
  (k:Rg P r n ops rest ((d,.bool (decide (a=none)))::L) ds w K):
  Rg P r n ops ({dst:=some d,op:= .binOp .eql t x y t',type:=ty,pos,after:=af,guard:=none}::rest) L ds w K:=
 .op a06 rfl rfl hd _ w (λρ h=>by
  have he:=run_equal_slice_nil (P:=P) w t e a l c ht;simp only[execOp];rw[h x _ hx,h y _ hy]
  cases a<;>simp[eqGuard,binOp,run_underlying ht]<;>simp[he]) k
theorem Rg.zN {t t' e:TypeId} {v:Value} (ht:P.underlying t=some (.pointer e)) (hx:ev L x=some v) (hv:∃p,v= .pointer (some p)) (hy:ev L y=some (.pointer none)) (hd:Nat.blt d n=true)
  (k:Rg P r n ops rest ((d,.bool false)::L) ds w K):
  Rg P r n ops ({dst:=some d,op:= .binOp .eql t x y t',type:=ty,pos,after:=af,guard:=none}::rest) L ds w K:=by
 obtain⟨p,rfl⟩:=hv
 exact .op a06 G G hd _ w (λρ h=>by
  have hpe:P.underlying t=some (.pointer (P.pointee t)):=by simp[Program.pointee,ht]
  have he:=run_equal_pointer_nil (P:=P) w t (some p) hpe;simp only[execOp];rw[h x _ hx,h y _ hy];simp[eqGuard,binOp,run_underlying ht,he]) k
theorem Rg.sl0 {t e:TypeId} {zv:Value} {bytes size:Nat} (ht:P.underlying t=some (.slice e)) (hi:TI P e zv size bytes) (M:aE) (hd:Nat.blt d n=true)
  (k:∀a w',Step M w M w' ar->Rg P r n ops rest ((d,.slice (some a) 0 0)::L) ds w' K):
  Rg P r n ops ({dst:=some d,op:= .buildSlice t 0 #[],type:=ty,pos,after:=af,guard:=none}::rest) L ds w K:=by
 refine .op a06 G G hd (.slice (some ⟨w.heap.size,0,none⟩) 0 0) (w.alloc (.cells #[] e)) (λρ hρ=>?_) (k _ _ (dL M w _));simp only[execOp,Instr.buildSlice,Sem.run_bind,run_underlying ht,Result.andThen_ok,hi.sizeOf];simp[newRow,newObj,Sem.run,Instr.fill];have h0:Array.range 0= #[]:=by apply Array.ext<;>simp
 simp[h0]
theorem OY {fn:Func} {Q:Value->World->Prop} {c t u s b:Nat} {vs:List Value} {fs:TypeDesc} {e:TypeId} {fr:Nat×Nat} {y z zv:Value} {size bytes:Nat} (hr:fn.results= #[.cell c t,.tmp u,.tmp s]) (hc:lk L c=some (.pointer (some ⟨b,0,none⟩))) (hu:P.underlying t=some fs) (hf:fs.isRow=true) (hi:TI P t zv size bytes) (hl:vs.length=size)
  (hb:w.heap[b]? =some (.cells vs.toArray e fr)) (hy:lk L u=some y) (hz:lk L s=some z) (h:Q (.tuple #[.agg vs.toArray,y,z]) w):yL P fn Q .ret L [] w:=
 ⟨rfl,λa ha=>⟨_,by
  obtain⟨i,BH,_,EX,_⟩:=hi.get;have Yn:w.rangeAt b 0 vs:=λj v hj=>im hb a98
  have:=run_loadVar_mid (P:=P) w b 0 t vs fs Yn hu hf (by simp[BH,EX,hl]);simp[results,hr,ha _ _ hc,ha _ _ hy,ha _ _ hz,asAddr,this,Sem.run_bind],h⟩⟩
theorem Rg.oH {t e:TypeId} {zv:Value} {bytes:Nat} {hn:0<A.n} {M M2:aE} {w2:World} {a:Option Addr} {u:Value} {ys:List α} (ht:P.underlying t=some (.slice e)) (hi:TI P e zv A.n bytes) (hz:zv.cells.size=A.n)
  (hx:ev L x=some (.slice a 0 0)) (hy:ev L y=some u) (hd:Nat.blt d n=true) (hu:(A.sl hn).V M2 w2 ys u) (hle:Le M2 w2 M w) (hm:Lt M w) (hb:ys.length*bytes<=140737488355328)
  (k:∀v' w',(A.sl hn).V M w' ys v'→Step M w M w' ar->Rg P r n ops rest ((d,v')::L) ds w' K):
  Rg P r n ops ({dst:=some d,op:= .call {callee:= .builtin .append,args:= #[x,y],argTypes:= #[t,t]},type:=ty,pos,after:=af,guard:=none}::rest) L ds w K:=by
 have hyl:=dW hu;by_cases fw:ys=[]
 ·subst fw;obtain⟨b,c,rfl,_⟩:=iX.1 hu;refine .op a06 G G hd (.slice a 0 0) w (λρ hρ=>?_) (k _ w (iX.2 ⟨a,0,rfl,Nat.le_refl _,by simp,.inl rfl⟩) aV);simp only[execOp,resolve,List.map_toArray,List.map_cons,List.map_nil,hρ x _ hx,hρ y _ hy];have:=p6 (P:=P) (w:=w) (ty:=ty) ht hi a 0 0 c b (Nat.le_refl 0);simp only[List.length_nil]at this ⊢;simp[invoke,builtin,this]
 ·have hp:0<ys.length:=List.length_pos_iff.2 fw;refine .zH (xs:=[]) (a:=a) ht hi hz hx hy hd (iX.2 ⟨a,0,rfl,Nat.le_refl _,by simp,.inl rfl⟩) (λ_=>rfl) hu hle hp (by simpa using hyl) (by simpa using hb) λv' M' w' ho s=> ?_
  rw[List.nil_append]at ho;exact k v' w' (Own.close hm s ho hyl) s.back
theorem jL {M:aE} {a:α} {v:Value} (h:A.V M w a v) (hg:A.agg=false) (h1:A.n=1):v.oneCell'=true:=by
 obtain⟨vs,hR,rfl⟩:=h;have hl:=A.len hR
 match vs,hl with
 |[u],_=>simpa[RT.val,hg]using A.one hR u (by simp)
 |[],hl=>simp at hl;omega
 |_::_::_,hl=>simp at hl;omega
theorem mF {M:aE} {a:α} {v:Value} (h:A.V M w a v) (hg:A.agg=false) (h1:A.n=1):A.R M w a [v]:=by
 obtain⟨vs,hR,rfl⟩:=h;have hl:=A.len hR
 match vs,hl,hR with
 |[u],_,hR=>simpa[RT.val,hg]using hR
 |[],hl,_=>simp at hl;omega
 |_::_::_,hl,_=>simp at hl;omega
theorem fR {β:Type} {B:RT β} {M:aE} {a:α} {b:β} {u v:Value} (h:A.V M w a u) (h':B.V M w b v) (hg:A.agg=false) (h1:A.n=1) (hg':B.agg=false) (Uk:B.n=1):(A.pair B).V M w (a,b) (.agg [u,v].toArray):=
 ⟨[u,v],⟨[u],[v],rfl,mF h hg h1,mF h' hg' Uk⟩,rfl⟩
theorem Fm {x:Int}: -9223372036854775808<=IntKind.i64.wrap x/\IntKind.i64.wrap x<=9223372036854775807:=by
 rw[IntKind.wrap_i64];omega
end
def put (n:Nat):List UInt8:=if n<128 then[UInt8.ofNat n]else UInt8.ofNat (128+n%128)::put (n/128)
termination_by n
decreasing_by omega
theorem zO {n:Nat} (h:n<128):put n=[UInt8.ofNat n]:=by rw[put,if_pos h]
theorem It {n:Nat} (h:128<=n):put n=UInt8.ofNat (128+n%128)::put (n/128):=by rw[put,if_neg q0]
theorem Ul (n:Nat):0<(put n).length:=by rw[put];split<;>simp
theorem Um {k:Nat}:∀{n:Nat},n<128^(k+1)->(put n).length<=k+1:=by
 induction k with
 |zero=>intro n h;rw[zO a68];simp
 |succ k ih=>
  intro n h;by_cases h1:n<128
  ·rw[zO h1];simp
  ·rw[It q0];have:=ih (n:=n/128) (by rw[Nat.pow_succ]at h;omega);simp;omega
theorem ly {n:Nat} (h:n<=9223372036854775807):(put n).length<=9:=Um (k:=8) q0
def oI:List UInt8->Nat->Nat->Option (Nat×Nat)
 |[],_,_=>none
 |c::cs,i,n=>if c.toNat<128 then(if c.toNat=0/\0<i then none else some (n+c.toNat%128*128^i,i+1))else oI cs (i+1) (n+c.toNat%128*128^i)
def get (b:List UInt8) (at_:Int):Int×Int×Int:=
 if at_<0\/(b.length:Int)<at_ then(0,0,1)
 else match oI ((b.drop at_.toNat).take 9) 0 0 with
  |some (n,k)=>(n,at_+k,0)
  |none=>(0,0,2)
theorem oJ {bs:List UInt8} {k:Nat} {c:UInt8} (h:bs[k]? =some c) (n:Nat):oI (bs.drop k) k n=
  if c.toNat<128 then(if c.toNat=0/\0<k then none else some (n+c.toNat%128*128^k,k+1))else oI (bs.drop (k+1)) (k+1) (n+c.toNat%128*128^k):=by
 obtain⟨eZ,he⟩:=List.getElem?_eq_some_iff.1 h;rw[List.drop_eq_getElem_cons eZ,oI,he]
theorem Yo (b:List UInt8) (i:Nat):(b.take (min b.length (i+9))).drop i=(b.drop i).take 9:=by
 rw[List.drop_take,List.take_eq_take_iff];simp;omega
def val:List UInt8->Nat
 |[]=>0
 |c::cs=>c.toNat%128+128*val cs
def gg:Int->List Int->Bool
 |_,[]=>true
 |last,x::l=>decide (last<x)&&gg x l
def lZ:Int->List Int->List UInt8
 |_,[]=>[]
 |last,x::l=>put (x-last-1).toNat++lZ x l
def ff (l:List Int):List UInt8:=put l.length++lZ (-1) l
def WB:Int->List Int->List Int
 |_,[]=>[]
 |last,x::l=>let m:=if x<0 then-(x+1)else x;(last+1+m%1000)::WB (last+1+m%1000) l
def good (l:List Int) (most:Nat):List Int:=WB (-1) (l.take most)
theorem xf {b:List UInt8} {at_:Int} (h:(get b at_).2.2=0):0<=at_/\at_<(get b at_).2.1/\(get b at_).2.1<=b.length/\0<=(get b at_).1/\(get b at_).1<9223372036854775808:=by
 unfold get at h ⊢
 split at h
 ·simp at h
 rename_i hr
 rw[if_neg hr]at*
 have key:∀(bs:List UInt8) (i n m k:Nat),oI bs i n=some (m,k)->bs.length+i<=9->n<128^i->i<k/\k<=i+bs.length/\m<128^k:=by
  intro bs
  induction bs with
  |nil=>intro i n m k h;simp[oI]at h
  |cons c cs ih=>
   intro i n m k h hl hn
   have hd:n+c.toNat%128*128^i<128^(i+1):=by
    have:=Nat.mul_le_mul_right (128^i) (show c.toNat%128<=127 from by omega);rw[Nat.pow_succ];omega
   simp only[oI]at h
   split at h
   ·split at h
    ·cases h
    ·cases h;exact⟨by omega,by simp,hd⟩
   ·obtain⟨h1,h2,h3⟩:=ih (i+1) _ m k h (by simp at hl;omega) hd;exact⟨by omega,by simp;omega,h3⟩
 cases hg:oI ((b.drop at_.toNat).take 9) 0 0 with
 |none=>simp[hg]at h
 |some p=>
  obtain⟨m,k⟩:=p;have hlen:((b.drop at_.toNat).take 9).length<=9/\((b.drop at_.toNat).take 9).length<=b.length-at_.toNat:=by rw[List.length_take,List.length_drop];omega
  obtain⟨h1,h2,h3⟩:=key _ 0 0 m k hg q0 XT;have hp:128^k<=128^9:=Nat.pow_le_pow_right XT q0;simp only;omega
def iT (b:List UInt8):Nat->Int->Int->Int×List Int×Int
 |0,at_,_=>(0,[],at_)
 |k+1,at_,last=>
  if(get b at_).2.2≠0 then((get b at_).2.2,[],0)
  else if 4611686018427387904-last-1<(get b at_).1 then(2,[],0)
  else if(iT b k (get b at_).2.1 (last+1+(get b at_).1)).1≠0 then((iT b k (get b at_).2.1 (last+1+(get b at_).1)).1,[],0)
  else(0,(last+1+(get b at_).1)::(iT b k (get b at_).2.1 (last+1+(get b at_).1)).2.1,(iT b k (get b at_).2.1 (last+1+(get b at_).1)).2.2)
def ie (b:List UInt8) (at_:Int):Int×List Int×Int:=
 if(get b at_).2.2≠0 then((get b at_).2.2,[],0)else iT b (get b at_).1.toNat (get b at_).2.1 (-1)
theorem gS {l:List Int} {k:Nat} {x:Int} (h:l[k]? =some x) (last:Int):gg last (l.drop k)=(decide (last<x)&&gg x (l.drop (k+1))):=by
 obtain⟨eZ,he⟩:=List.getElem?_eq_some_iff.1 h;rw[List.drop_eq_getElem_cons eZ,gg,he]
theorem Md {l:List Int} {k:Nat} {x:Int} (h:l[k]? =some x) (last:Int):lZ last (l.drop k)=put (x-last-1).toNat++lZ x (l.drop (k+1)):=by
 obtain⟨eZ,he⟩:=List.getElem?_eq_some_iff.1 h;rw[List.drop_eq_getElem_cons eZ,lZ,he]
theorem zP:∀(l:List Int) (last:Int),-1<=last->(∀x∈l,x<=9223372036854775807)->gg last l=true->(lZ last l).length<=9*l.length
 |[],_,_,_,_=>by simp[lZ]
 |x::l,last,h1,h2,h3=>by
  simp only[gg,Bool.and_eq_true,decide_eq_true_eq]at h3;have hx:=h2 x (List.mem_cons_self ..);have h4:=zP l x q0 (λy hy=>h2 y (List.mem_cons_of_mem _ hy)) h3.2;have h5:=ly (n:=(x-last-1).toNat) q0;simp only[lZ,List.length_append,List.length_cons];omega
theorem zQ (b:List UInt8) (a last:Int):iT b 0 a last=(0,[],a):=rfl
theorem tR {b:List UInt8} {k:Nat} {a last:Int} (h:(get b a).2.2≠0):iT b (k+1) a last=((get b a).2.2,[],0):=by rw[iT,if_pos h]
theorem xg {b:List UInt8} {k:Nat} {a last:Int} (h:(get b a).2.2=0) (h2:4611686018427387904-last-1<(get b a).1):iT b (k+1) a last=(2,[],0):=by
 rw[iT,if_neg a68,if_pos h2]
theorem zR {b:List UInt8} {k:Nat} {a last:Int} (h:(get b a).2.2=0) (h2: ¬4611686018427387904-last-1<(get b a).1):iT b (k+1) a last=
  if(iT b k (get b a).2.1 (last+1+(get b a).1)).1≠0 then((iT b k (get b a).2.1 (last+1+(get b a).1)).1,[],0)
  else(0,(last+1+(get b a).1)::(iT b k (get b a).2.1 (last+1+(get b a).1)).2.1,(iT b k (get b a).2.1 (last+1+(get b a).1)).2.2):=by
 rw[iT,if_neg a68,if_neg h2]
def andThen (acc:List Int) (r:Int×List Int×Int):Int×List Int×Int:=if r.1≠0 then(r.1,[],0)else(0,acc++r.2.1,r.2.2)
theorem ph {b:List UInt8} {k:Nat} {a last:Int} (acc:List Int) (h:(get b a).2.2=0) (h2: ¬4611686018427387904-last-1<(get b a).1):
  andThen acc (iT b (k+1) a last)=andThen (acc++[last+1+(get b a).1]) (iT b k (get b a).2.1 (last+1+(get b a).1)):=by
 rw[zR h h2];unfold andThen;by_cases h3:(iT b k (get b a).2.1 (last+1+(get b a).1)).1=0<;>simp[h3]
theorem Fp (r:Int×List Int×Int) (h:r.1≠0->r.2=([],0)):andThen [] r=r:=by
 unfold andThen;by_cases h3:r.1=0
 ·rw[if_neg (by simpa using h3)];ext<;>simp[h3]
 ·rw[if_pos h3,<-h h3]
theorem Me (b:List UInt8):∀(k:Nat) (a last:Int),(iT b k a last).1≠0->(iT b k a last).2=([],0)
 |0,a,last,h=>by simp[iT]at h
 |k+1,a,last,h=>by
  rw[iT]at h ⊢
  split
  ·rfl
  ·rename_i h1;rw[if_neg h1]at h
   split
   ·rfl
   ·rename_i h2;rw[if_neg h2]at h
    split
    ·rfl
    ·rename_i h3;rw[if_neg h3]at h;simp at h
theorem pq (b:List UInt8) (a:Int):0<=(get b a).1/\0<=(get b a).2.2/\(get b a).2.2<=2/\((get b a).2.2≠0->(get b a).1=0/\(get b a).2.1=0):=by
 unfold get
 split
 ·simp
 ·split<;>simp<;>omega
theorem CD (b:List UInt8) (a:Int):(get b a).1<=9223372036854775807:=by
 by_cases h:(get b a).2.2=0
 ·have:=xf h;omega
 ·have:=(pq b a).2.2.2 h;omega
theorem OZ:∀(k m i acc:Nat) (post:List UInt8),m<128^(k+1)->(0<i->m≠0)->oI ((put m++post).take (k+1)) i acc=some (acc+m*128^i,i+(put m).length):=by
 intro k
 induction k with
 |zero=>
  intro m i acc post h h0;have hm:m<128:=by simpa using h
  have e:(UInt8.ofNat m).toNat=m:=by rw[UInt8.toNat_ofNat'];omega
  rw[zO hm];simp only[List.cons_append,List.nil_append,List.take_succ_cons,oI,e];rw[if_pos hm,if_neg q0,Nat.mod_eq_of_lt hm];rfl
 |succ k ih=>
  intro m i acc post h h0;by_cases hm:m<128
  ·have e:(UInt8.ofNat m).toNat=m:=by rw[UInt8.toNat_ofNat'];omega
   rw[zO hm];simp only[List.cons_append,List.nil_append,List.take_succ_cons,oI,e];rw[if_pos hm,if_neg q0,Nat.mod_eq_of_lt hm];rfl
  ·have e:(UInt8.ofNat (128+m%128)).toNat=128+m%128:=by rw[UInt8.toNat_ofNat'];omega
   rw[It q0];simp only[List.cons_append,List.take_succ_cons,oI,e];rw[if_neg q0,ih (m/128) (i+1) _ post (by rw[Nat.pow_succ]at h;omega) q0];have h2:(128+m%128)%128=m%128:=by omega
   rw[h2,Nat.pow_succ];congr 2
   ·have h3:m=m%128+128*(m/128):=by omega
    have h4:m*128^i=(m%128)*128^i+(m/128)*(128^i*128):=by
     conv=>lhs;rw[h3]
     rw[Nat.add_mul,Nat.mul_comm 128 (m/128),Nat.mul_assoc,Nat.mul_comm 128 (128^i)]
    omega
   ·simp;omega
theorem DG (pre post:List UInt8) {n:Nat} (hn:n<=9223372036854775807):get (pre++put n++post) pre.length=((n:Int),((pre.length+(put n).length:Nat):Int),0):=by
 unfold get;rw[if_neg a13]
 have h1:((pre++put n++post).drop (pre.length:Int).toNat).take 9=(put n++post).take (8+1):=by
  rw[Int.toNat_natCast,List.append_assoc,List.drop_left]
 rw[h1,OZ 8 n 0 0 post q0 q0];simp
theorem CE:∀(l:List Int) (pre post:List UInt8) (last:Int),-1<=last->gg last l=true->(∀x∈l,x<=4611686018427387904)->
  iT (pre++lZ last l++post) l.length pre.length last=(0,l,((pre.length+(lZ last l).length:Nat):Int))
 |[],pre,post,last,_,_,_=>by simp[lZ,iT]
 |x::l,pre,post,last,h1,h2,h3=>by
  simp only[gg,Bool.and_eq_true,decide_eq_true_eq]at h2;have hx:=h3 x (List.mem_cons_self ..);have e0:pre++lZ last (x::l)++post=pre++put (x-last-1).toNat++(lZ x l++post):=by simp[lZ]
  have e1:=DG pre (lZ x l++post) (n:=(x-last-1).toNat) q0;have e2:pre++put (x-last-1).toNat++(lZ x l++post)=(pre++put (x-last-1).toNat)++lZ x l++post:=by simp
  have ih:=CE l (pre++put (x-last-1).toNat) post x q0 h2.2 (λy hy=>h3 y (List.mem_cons_of_mem _ hy));rw[e0,List.length_cons,zR (by rw[e1]) (by rw[e1];simp only;omega),e1];simp only;have e3:last+1+(((x-last-1).toNat:Nat):Int)=x:=by omega
  rw[e3,e2,show((pre.length+(put (x-last-1).toNat).length:Nat):Int)=((pre++put (x-last-1).toNat).length:Int)from by simp,ih];simp[lZ];omega
theorem BU (pre post:List UInt8) {l:List Int} (hr:gg (-1) l=true) (h3:∀x∈l,x<=4611686018427387904) (hl:l.length<=9223372036854775807):
  ie (pre++ff l++post) pre.length=(0,l,((pre.length+(ff l).length:Nat):Int)):=by
 have e0:pre++ff l++post=pre++put l.length++(lZ (-1) l++post):=by simp[ff]
 have e1:=DG pre (lZ (-1) l++post) (n:=l.length) hl;have e2:pre++put l.length++(lZ (-1) l++post)=(pre++put l.length)++lZ (-1) l++post:=by simp
 unfold ie;rw[e0,e1,if_neg (by simp)];simp only;have:=CE l (pre++put l.length) post (-1) q0 hr h3;rw[e2,show((pre.length+(put l.length).length:Nat):Int)=((pre++put l.length).length:Int)from by simp,Int.toNat_natCast,this];simp[ff];omega
abbrev Po:=Int×List Int
abbrev Bl:=Int×Int×Int×Int
abbrev Li:=List UInt8×List Bl×Int
abbrev RT.po:RT Po:=RT.pair (RT.int .i64) ((RT.int .i64).sl)
abbrev RT.bl:RT Bl:=RT.pair (RT.int .i64) (RT.pair (RT.int .i64) (RT.pair (RT.int .i64) (RT.int .i64)))
abbrev RT.li:RT Li:=RT.pair (RT.u8.sl) (RT.pair ((RT.bl).sl) (RT.int .i64))
theorem TP:Part RT.po (RT.int .i64) (λp=>p.1) 0:=Part.fst _ _
theorem Yp:Part RT.po ((RT.int .i64).sl) (λp=>p.2) 1:=Part.snd _ _
theorem bl0:Part RT.bl (RT.int .i64) (λb=>b.1) 0:=Part.fst _ _
theorem bl1:Part RT.bl (RT.int .i64) (λb=>b.2.1) 1:=(Part.snd _ _).trans (Part.fst _ _)
theorem bl2:Part RT.bl (RT.int .i64) (λb=>b.2.2.1) 2:=(Part.snd _ _).trans ((Part.snd _ _).trans (Part.fst _ _))
theorem bl3:Part RT.bl (RT.int .i64) (λb=>b.2.2.2) 3:=(Part.snd _ _).trans ((Part.snd _ _).trans (Part.snd _ _))
theorem li0:Part RT.li (RT.u8.sl) (λx=>x.1) 0:=Part.fst _ _
theorem li1:Part RT.li ((RT.bl).sl) (λx=>x.2.1) 1:=(Part.snd _ _).trans (Part.fst _ _)
def O0 (n:Nat) (k:Int):Bool:=decide (0<=k/\k<n)
def Fq (bs:List Bl) (k:Int):Int:=if O0 bs.length k then(bs.getD k.toNat (0,0,0,0)).2.2.1 else-1
def eH:Int->List Po->List UInt8
 |_,[]=>[]
 |last,(d,ps)::l=>put (d-last-1).toNat++ff ps++eH d l
def cQ:Int->List Po->Int
 |last,[]=>last
 |_,(d,_)::l=>cQ d l
def jD (l:List Po):Int:=(l.map λp=>(p.2.length:Int)).sum
theorem uY (l l':List Po) (last:Int):eH last (l++l')=eH last l++eH (cQ last l) l':=by
 induction l generalizing last with
 |nil=>rfl
 |cons p l ih=>obtain⟨d,ps⟩:=p;simp[eH,cQ,ih]
theorem BV (l l':List Po) (last:Int):cQ last (l++l')=cQ (cQ last l) l':=by
 induction l generalizing last with
 |nil=>rfl
 |cons p l ih=>obtain⟨d,ps⟩:=p;simp[cQ,ih]
theorem uZ (l l':List Po):jD (l++l')=jD l+jD l':=by simp[jD]
def vg (l:List Po) (k:Nat):Bl:=((eH (-1) (l.take (8*k))).length,cQ (-1) (l.take (8*k)),cQ (-1) (l.take (8*k+8)),((l.drop (8*k)).take 8).length)
def qq (l:List Po) (m:Nat):List Bl:=(List.range m).map (vg l)
def j5 (l:List Po):Li:=(eH (-1) l,qq l ((l.length+7)/8),jD l)
def pw (l:List Int):Bool:=gg (-1) l&&l.all (λn=>decide (n<2147483648))
def eN:Int->List Po->Bool
 |_,[]=>true
 |last,(d,ps)::l=>decide (last<d)&&decide (d<2147483648)&& !ps.isEmpty&&pw ps&&eN d l
theorem qU:∀{l:List Po} {i:Nat} {last d:Int} {ps:List Int},eN last l=true->l[i]? =some (d,ps)->
  cQ last (l.take i)<d/\d<2147483648/\ps≠[]/\pw ps=true/\cQ last (l.take (i+1))=d/\last<=cQ last (l.take i)
 |[],i,_,_,_,_,h=>by simp at h
 |(d0,p0)::l,0,last,d,ps,hm,h=>by
  simp only[List.getElem?_cons_zero,Option.some.injEq,Prod.mk.injEq]at h;obtain⟨rfl,rfl⟩:=h;simp only[eN,Bool.and_eq_true,decide_eq_true_eq]at hm;obtain⟨⟨⟨⟨h1,h2⟩,h3⟩,h4⟩,h5⟩:=hm;refine⟨h1,h2,?_,h4,by simp[cQ],by simp[cQ]⟩;rintro rfl;simp at h3
 |(d0,p0)::l,i+1,last,d,ps,hm,h=>by
  simp only[eN,Bool.and_eq_true,decide_eq_true_eq]at hm;obtain⟨⟨⟨⟨h1,h2⟩,h3⟩,h4⟩,h5⟩:=hm;obtain⟨a1,a2,a3,a4,a5,a6⟩:=qU (i:=i) h5 a68;refine ⟨by simpa[cQ]using a1,a2,a3,a4,by simpa[cQ]using a5,?_⟩;simp only[List.take_succ_cons,cQ];omega
theorem zS {l:List Po} {i:Nat} {d:Int} {ps:List Int} (last:Int) (h:l[i]? =some (d,ps)):
  eH last (l.take (i+1))=eH last (l.take i)++put (d-cQ last (l.take i)-1).toNat++ff ps:=by
 obtain⟨h1,h2⟩:=List.getElem?_eq_some_iff.1 h;rw[List.take_succ_eq_append_getElem h1,h2,uY];simp[eH]
theorem qV {l:List Po} {i:Nat} (last:Int):eH last l=eH last (l.take i)++eH (cQ last (l.take i)) (l.drop i):=by
 conv=>lhs;rw[<-List.take_append_drop i l]
 exact uY _ _ _
theorem px {l:List Int}:pw l=true↔gg (-1) l=true/\∀x∈l,x<2147483648:=by
 simp[pw]
def sT (b:List UInt8) (at_ ahead:Int):Po×Int×Int:=
 if(get b at_).2.2≠0 then((0,[]),0,(get b at_).2.2)
 else((IntKind.i64.wrap (IntKind.i64.wrap (ahead+1)+(get b at_).1),(ie b (get b at_).2.1).2.1),(ie b (get b at_).2.1).2.2,(ie b (get b at_).2.1).1)
theorem O1 {l:List Po} {i:Nat} {d:Int} {ps:List Int} (hm:eN (-1) l=true) (h:l[i]? =some (d,ps)) (hl:ps.length<=1099511627776):
  sT (eH (-1) l) (((eH (-1) (l.take i)).length:Nat):Int) (cQ (-1) (l.take i))=((d,ps),(((eH (-1) (l.take (i+1))).length:Nat):Int),0):=by
 obtain⟨h1,h2,h3,h4,h5,h6⟩:=qU hm h;obtain⟨h7,h8⟩:=px.1 h4;have e1:=qV (l:=l) (i:=i+1) (-1);have e2:=zS (-1) h;generalize hla:cQ (-1) (l.take i)=last at h1 h6 e2 ⊢;generalize L0:eH (-1) (l.take i)=pre at e2 ⊢;generalize eH (cQ (-1) (l.take (i+1))) (l.drop (i+1))=post at e1;rw[e2]at e1 ⊢;have g1:=DG pre (ff ps++post) (n:=(d-last-1).toNat) q0;have g2:=BU (pre++put (d-last-1).toNat) post h7 (λx hx=>by have:=h8 x hx;omega) q0;rw[show pre++put (d-last-1).toNat++(ff ps++post)=eH (-1) l from by rw[e1];simp]at g1;rw[<-e1]at g2;unfold sT;rw[g1];simp only[ne_eq,not_true_eq_false,if_false];have yo:((pre.length+(put (d-last-1).toNat).length:Nat):Int)=((pre++put (d-last-1).toNat).length:Int):=by simp
 rw[yo,g2];refine Prod.ext (Prod.ext ?_ G) (Prod.ext ?_ G)
 ·simp only;rw[IntWalk.i64_in (last+1) q0,IntWalk.i64_in _ q0];omega
 ·simp;omega
theorem qW {l:List Int} {k:Nat} {x:Int} (p:Int->Bool) (h:l[k]? =some x):(l.drop k).all p=(p x&&(l.drop (k+1)).all p):=by
 obtain⟨h1,h2⟩:=List.getElem?_eq_some_iff.1 h;rw[List.drop_eq_getElem_cons h1,h2,List.all_cons]
theorem mG {l:List Po} {k:Nat} {d:Int} {ps:List Int} (h:l[k]? =some (d,ps)) (last:Int):
  eN last (l.drop k)=(decide (last<d)&&decide (d<2147483648)&& !ps.isEmpty&&pw ps&&eN d (l.drop (k+1))):=by
 obtain⟨h1,h2⟩:=List.getElem?_eq_some_iff.1 h;rw[List.drop_eq_getElem_cons h1,h2,eN]
theorem zT {l:List Po} {i:Nat} {d:Int} {ps:List Int} (h:l[i]? =some (d,ps)):jD (l.take (i+1))=jD (l.take i)+ps.length:=by
 obtain⟨h1,h2⟩:=List.getElem?_eq_some_iff.1 h;rw[List.take_succ_eq_append_getElem h1,h2,uZ];simp[jD]
theorem py (l:List Po):0<=jD l:=by
 induction l with
 |nil=>simp[jD]
 |cons p l ih=>simp only[jD,List.map_cons,List.sum_cons]at ih ⊢;omega
theorem Fs (l:List Po) (i:Nat):0<=jD (l.take i)/\jD (l.take i)<=jD l:=by
 refine ⟨py _,?_⟩
 conv=>rhs;rw[<-List.take_append_drop i l,uZ]
 have:=py (l.drop i);omega
theorem nT (l:List Po) (i:Nat):(eH (-1) (l.take i)).length<=(eH (-1) l).length:=by
 rw[qV (l:=l) (i:=i) (-1)];simp
theorem Mf (l:List Po) (k:Nat):qq l (k+1)=qq l k++[vg l k]:=by simp[qq,List.range_succ]
theorem kV:∀(l:List Po) (last:Int),eN last l=true->last<2147483648->∀n:Nat,last<=cQ last (l.take n)/\cQ last (l.take n)<2147483648
 |[],last,_,h,n=>by simp[cQ];exact h
 |(d,ps)::l,last,hm,h,0=>by simp[cQ];exact h
 |(d,ps)::l,last,hm,h,n+1=>by
  simp only[eN,Bool.and_eq_true,decide_eq_true_eq]at hm;obtain⟨⟨⟨⟨h1,h2⟩,h3⟩,h4⟩,h5⟩:=hm;have:=kV l d h5 h2 n;simp only[List.take_succ_cons,cQ];omega
theorem ajR {M:aE} {w:World} {a b c d:Int} (ha: -9223372036854775808<=a/\a<=9223372036854775807) (hb: -9223372036854775808<=b/\b<=9223372036854775807) (hc: -9223372036854775808<=c/\c<=9223372036854775807) (hd: -9223372036854775808<=d/\d<=9223372036854775807):
  RT.bl.V M w (a,b,c,d) (.agg [.int .i64 a,.int .i64 b,.int .i64 c,.int .i64 d].toArray):=
 ⟨_,⟨[.int .i64 a],[.int .i64 b,.int .i64 c,.int .i64 d],rfl,⟨rfl,ha⟩,[.int .i64 b],[.int .i64 c,.int .i64 d],rfl,⟨rfl,hb⟩,[.int .i64 c],[.int .i64 d],rfl,⟨rfl,hc⟩,⟨rfl,hd⟩⟩,rfl⟩
theorem adn {M:aE} {w:World} {bx:Nat} {b:List UInt8} {ks:List Bl} {xh:Int} {vb vk:Value} {e:TypeId} {fr:Nat×Nat} (hx:w.heap[bx]? =some (.cells #[vb,vk,.int .i64 xh] e fr)) (hm: ¬M bx) (hb:(RT.u8.sl).V M w b vb) (hk:((RT.bl).sl).V M w ks vk) (ht: -9223372036854775808<=xh/\xh<=9223372036854775807):
  cG RT.li M w (.pointer (some ⟨bx,0,none⟩)) (b,ks,xh):=
 ⟨bx,0,[vb,vk,.int .i64 xh],rfl,hm,⟨[vb],[vk,.int .i64 xh],rfl,mF hb rfl rfl,[vk],[.int .i64 xh],rfl,mF hk rfl rfl,⟨rfl,ht⟩⟩,λj v hj=>im hx a98⟩
theorem O2 {l:List Po} {i:Nat} (h8:i%8=0) (hi:i<l.length):qq l ((i+7)/8)++[(((eH (-1) (l.take i)).length:Int),cQ (-1) (l.take i),cQ (-1) (l.take (min (i+8) l.length)),(((l.drop i).take 8).length:Int))]=qq l ((min (i+8) l.length+7)/8):=by
 rw[show(min (i+8) l.length+7)/8=(i+7)/8+1 from by omega,Mf];have e:8*((i+7)/8)=i:=by omega
 have e2:l.take (i+8)=l.take (min (i+8) l.length):=by rw[List.take_eq_take_iff];omega
 simp only[vg,e,e2]
theorem qX:∀(l:List Po) (last:Int) (n m:Nat),eN last l=true->last<2147483648->n<=m->cQ last (l.take n)<=cQ last (l.take m)
 |[],last,n,m,_,_,_=>by simp
 |(d,ps)::l,last,0,m,hm,h,_=>by
  have:=(kV ((d,ps)::l) last hm h m).1;simpa[cQ]using this
 |(d,ps)::l,last,n+1,0,_,_,h=>by omega
 |(d,ps)::l,last,n+1,m+1,hm,h,hnm=>by
  simp only[eN,Bool.and_eq_true,decide_eq_true_eq]at hm;obtain⟨⟨⟨⟨h1,h2⟩,h3⟩,h4⟩,h5⟩:=hm;simpa[cQ]using qX l d n m h5 h2 (by omega)
theorem Ft {g:List Po} {k:Nat} (hk:k<(g.length+7)/8):Fq (j5 g).2.1 (k:Int)=cQ (-1) (g.take (8*k+8)):=by
 have hl:(j5 g).2.1.length=(g.length+7)/8:=by simp[j5,qq]
 have hb:(j5 g).2.1[k]? =some (vg g k):=by simp only[j5,qq,List.getElem?_map];rw[List.getElem?_range hk];rfl
 unfold Fq O0;rw[if_pos (by rw[hl];simp;omega),Int.toNat_natCast,List.getD_eq_getElem?_getD,hb];rfl
section
variable {P:Program} {r:Option Nat} {n:Nat} {L:Sl} {ds:List Deferred} {w:World} {K:Kt} {ops:Array Oper} {rest:List Oper} {d:Nat} {x y:Operand} {ty:TypeId} {pos:String} {af:Array Edge}
theorem Rg.sU {t t' e:TypeId} {p:Option Addr} (ht:P.underlying t=some (.pointer e)) (hx:ev L x=some (.pointer p)) (hy:ev L y=some (.pointer none)) (hd:Nat.blt d n=true)
  (k:Rg P r n ops rest ((d,.bool (decide (p=none)))::L) ds w K):
  Rg P r n ops ({dst:=some d,op:= .binOp .eql t x y t',type:=ty,pos,after:=af,guard:=none}::rest) L ds w K:=
 .op a06 rfl rfl hd _ w (λρ h=>by
  have hpe:P.underlying t=some (.pointer (P.pointee t)):=by simp[Program.pointee,ht]
  have he:=run_equal_pointer_nil (P:=P) w t p hpe;simp only[execOp];rw[h x _ hx,h y _ hy]
  cases p<;>simp[eqGuard,binOp,run_underlying ht,he]) k
theorem Rg.ado {t t' e:TypeId} {p:Option Addr} (ht:P.underlying t=some (.pointer e)) (hx:ev L x=some (.pointer p)) (hy:ev L y=some (.pointer none)) (hd:Nat.blt d n=true)
  (k:Rg P r n ops rest ((d,.bool (decide (p≠none)))::L) ds w K):
  Rg P r n ops ({dst:=some d,op:= .binOp .neq t x y t',type:=ty,pos,after:=af,guard:=none}::rest) L ds w K:=
 .op a06 rfl rfl hd _ w (λρ h=>by
  have hpe:P.underlying t=some (.pointer (P.pointee t)):=by simp[Program.pointee,ht]
  have he:=run_equal_pointer_nil (P:=P) w t p hpe;simp only[execOp];rw[h x _ hx,h y _ hy]
  cases p<;>simp[eqGuard,binOp,run_underlying ht,he]) k
end
end Go.K
namespace Go.K
section
variable {P:Program} {r:Option Nat} {n:Nat} {L:Sl} {ds:List Deferred} {w:World} {K:Kt} {ops:Array Oper} {rest:List Oper} {d:Nat} {x:Operand} {ty:TypeId} {pos:String} {af:Array Edge}
theorem Rg.tV {t e:TypeId} {a:Option Addr} {l c:Nat} (ht:P.underlying t=some (.slice e)) (hx:ev L x=some (.slice a l c)) (hd:Nat.blt d n=true)
  (k:Rg P r n ops rest ((d,.int .i64 (l:Int))::L) ds w K):
  Rg P r n ops ({dst:=some d,op:= .call {callee:= .builtin .len,args:= #[x],argTypes:= #[t]},type:=ty,pos,after:=af,guard:=none}::rest) L ds w K:=by
 refine .op a06 G G hd _ w (λρ h=>?_) k;simp only[execOp,resolve,List.map_toArray,List.map_cons,List.map_nil,h x _ hx];simp[invoke,builtin,Builtin.len_,run_underlying ht,goInt]
end
end Go.K

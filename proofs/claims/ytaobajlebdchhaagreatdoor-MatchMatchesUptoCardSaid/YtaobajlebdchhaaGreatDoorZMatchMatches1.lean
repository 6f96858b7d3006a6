/- What the law 'MatchMatches' needs of walks and plain Lean, part 1: nothing is assumed beyond the texts that it imports. -/
import Derived.ArgAppend
import Derived.Below
import Derived.ChangeOld
import Derived.Deep.MidRow
import Derived.IntWalk
import Derived.LaidByTextLater
import Derived.LaidHandle
import Derived.LaidLaws
import Derived.LaidMore
import Derived.Laws.AppendOwn
import Derived.Laws.BytesString
import Derived.Laws.Cover3
import Derived.Laws.NewBlocks
import Derived.Laws.Pointers
import Derived.Laws.Slices
import Derived.Laws.Small
import Derived.MakeChecks
import Derived.OpenShut
import Derived.Orders
import Derived.ProofKit
import Derived.RangeFuncLeaves
import Derived.RangeFuncNested
import Derived.SevenTiedAt
import Derived.ShutString
import Derived.SizedLaws
import Derived.Stop.Joined
import Derived.TacticsIn
import Derived.WalkKit
set_option linter.unusedVariables false
set_option linter.unusedSimpArgs false
theorem G {α:Sort _} {a:α}:a=a:=rfl
theorem q0 {p:Prop} (h:p:=by omega):p:=h
theorem Tg {p:Prop} (h:p:=by decide):p:=h
theorem Xf {p:Prop} (h:p:=by assumption):p:=h
theorem a00 {p:Prop} (h:p:=by exact (.cons G (.cons G (.cons G (.cons G .nil))))):p:=h
theorem a01 {p:Prop} (h:p:=by exact ad ⟨G,G,_,G,G,aV⟩):p:=h
theorem a02 {p:Prop} (h:p:=by first|exact kp|exact kp.tM Xf|exact kp.goN Xf|exact kp.go Xf (λ_ _ h=>by first|exact h|exact h.elim)):p:=h
theorem a03 {p:Prop} (h:p:=by exact (congrArg some (by kernel_rfl))):p:=h
theorem a04 {p:Prop} (h:p:=by exact (λhk=>by have hk:_=_:=hk;omega)):p:=h
theorem a05 {p:Prop} (h:p:=by exact (λ_ h=>by cases h)):p:=h
theorem a06 {p:Prop} (h:p:=by exact (.cons (by first|rfl|exact congrArg (λb=>some (Value.bool b)) (cD (decide_eq_false q0))|exact congrArg (λb=>some (Value.bool b)) (cD (decide_eq_true q0))|exact congrArg (λb=>some (Value.bool b)) (decide_eq_decide.2 q0)) (.nil))):p:=h
theorem a07 {p:Prop} (h:p:=by exact (.cons G (.cons G (.cons G .nil)))):p:=h
theorem a08 {p:Prop} (h:p:=by first|(exfalso;omega)|(unfold nO;repeat (first|rw[if_pos q0]|rw[if_neg q0]))):p:=h
theorem a09 {p:Prop} (h:p:=by first|(exfalso;omega)|(unfold im;repeat (first|rw[if_pos q0]|rw[if_neg q0]))):p:=h
theorem a10 {p:Prop} (h:p:=by first|(exfalso;omega)|(unfold wL;repeat (first|rw[if_pos q0]|rw[if_neg q0]))):p:=h
theorem a11 {p:Prop} (h:p:=by simp;omega):p:=h
theorem a13 {p:Prop} (h:p:=by exact aj G G G G (ad ⟨G,G,_,G,G,aV⟩)):p:=h
theorem a14 {p:Prop} (h:p:=by exact (.cons G (.cons G a00))):p:=h
theorem a15 {p:Prop} (h:p:=by exact (.cons G (.cons G (.cons (by first|exact W4 jV|exact W5 ⟨lQ,mT⟩|exact J3d jV (λh=>lQ h.1) jj|exact Tf jV (λh=>mT h.2) (λh=>jj h.1)|exact Tf jV (λh=>lQ h.1) (λh=>jj h.1)) (.nil))))):p:=h
theorem a16 {p:Prop} (h:p:=by exact (.cons G (.cons (congrArg some (by first|(show sv [97]=_;rw[if_neg Hp])|(show sv q.term.2=_;rw[if_pos (ck.1 Hp)]))) (.nil)))):p:=h
theorem a18 {p:Prop} (h:p:=by intro u hu;simp at hu;rcases hu with rfl|rfl<;>first|rfl|exact jL Xf rfl rfl):p:=h
theorem a19 {p:Prop} (h:p:=by first|exact λk v c hv hc h=>(hR.o k v hv).jy ho Tg hc h|exact λk v c hv hc (h:c=b)=>(hR.o k v hv).fK gb Tg (h▸hc)|exact λk v c hv hc (h:c=An)=>(hR.o k v hv).fK pE Tg (h▸hc)):p:=h
theorem a30 {p:Prop} (h:p:=by exact (λ_ h=>h.elim)):p:=h
theorem a34 {p:Prop} (h:p:=by exact (.cons G (.cons G (.cons G (.cons G (.cons (by first|exact NN (λh=>pI h.1.1)|exact NN (λh=>Et h.1.2)|exact NN (λh=>vK h.2.1)|exact J9y ⟨pI,Et⟩ vK) (.nil))))))):p:=h
theorem a38 {p:Prop} (h:p:=by exact aK rfl rfl ⟨by rw[ez,if_neg q0],G⟩):p:=h
theorem a42 {p:Prop} (h:p:=by exact (.cons G (.cons G (.cons G (.cons G (.cons (by first|exact J8n (λh=>JM h.1)|exact J8n (λh=>by rw[cM q0]at h;cases h.2)|exact congrArg (λb=>some (Value.bool b)) (by rw[NM];cases b<;>simp[JM])) (.nil))))))):p:=h
theorem a43 {p:Prop} (h:p:=by first|exact λh=>ho.kT hW.at_ h|exact fun(h:mb=b)=>Wh h.symm|exact fun(h:mb=An)=>by have h9:=hW.at_;rw[h,pE]at h9;cases h9):p:=h
theorem a47 {p:Prop} (h:p:=by first|exact λk hk=>by(obtain⟨cs,hc⟩:=sk.isCells hk;exact⟨cs,_,hc,by decide,by decide,by decide⟩)|exact λk (hk:k=gN)=>⟨_,_,hk▸g2,by decide,by decide,by decide⟩):p:=h
theorem a48 {p:Prop} (h:p:=by have:=gE (xs.take k);rw[a7]at this;simp;omega):p:=h
theorem a52 {p:Prop} (h:p:=by first|omega|decide):p:=h
theorem a56 {p:Prop} (h:p:=by exact (.cons G a00)):p:=h
theorem a61 {p:Prop} (h:p:=by exact (.cons G (.cons G (.cons G (.cons G (.cons G (.cons (show some (Value.int .i64 ((many:Int)-1))=some (Value.int .i64 ((many-1:Nat):Int))from by congr 2;omega) .nil))))))):p:=h
theorem a62 {p:Prop} (h:p:=by exact aK rfl rfl ⟨by rw[ez,if_pos q0],G⟩):p:=h
theorem a65 {p:Prop} (h:p:=by exact aK G G ⟨congrArg Value.bool (decide_eq_decide.2 ⟨λh=>iE.2 ⟨lL,vB,vC,h⟩,λe=>(iE.1 e).2.2.2⟩),S⟩):p:=h
theorem a68 {p:Prop} (h:p:=by unfold fU;rw[if_neg (by rw[B2];decide)];exact JA.le ej.le):p:=h
theorem a69 {p:Prop} (h:p:=by first|assumption|exact Step.lt Xf Xf|exact Step.lt Xf (Step.lt Xf Xf)):p:=h
theorem a71 {p:Prop} (h:p:=by exact (.cons G (.cons G .nil))):p:=h
theorem a73 {p:Prop} (h:p:=by exact aK G G ⟨congrArg Value.bool (cD (decide_eq_false q0)),G⟩):p:=h
theorem a74 {p:Prop} (h:p:=by exact aK G G ⟨congrArg Value.bool (decide_eq_decide.2 q0),G⟩):p:=h
theorem a81 {p:Prop} (h:p:=by intro u hu;simp at hu;rcases hu with rfl|rfl|rfl|rfl|rfl<;>rfl):p:=h
theorem a83 {p:Prop} (h:p:=by exact ad ⟨G,G,_,G,uR,aV⟩):p:=h
theorem a84 {p:Prop} (h:p:=by simp[ByteArray.size]):p:=h
theorem a86 {p:Prop} (h:p:=by simpa using h):p:=h
theorem a88 {p:Prop} (h:p:=by exact λp hp=>by cases hp):p:=h
theorem a89 {p:Prop} (h:p:=by exact aK G G ⟨congrArg Value.bool (decide_eq_false (λe=>vC (iE.1 e).2.2.1)).symm,S⟩):p:=h
theorem a90 {p:Prop} (h:p:=by exact aK G G ⟨congrArg Value.bool (decide_eq_false (λe=>vB (iE.1 e).2.1)).symm,S⟩):p:=h
theorem a92 {p:Prop} (h:p:=by exact aK G G ⟨congrArg Value.bool (decide_eq_false (λe=>lL (iE.1 e).1)).symm,S⟩):p:=h
theorem a94 {p:Prop} (h:p:=by exact (.cons G a14)):p:=h
theorem a95 {p:Prop} (h:p:=by exact kr G ⟨_,hM,⟨⟨_,go,eL _ _ _ _ _⟩,⟨_,gs,hs⟩,ie,iZ,hBo,hBs⟩,S⟩):p:=h
theorem a96 {p:Prop} (h:p:=by simp[List.countP_replicate]):p:=h
theorem a97 {p:Prop} (h:p:=by simpa using hj):p:=h
theorem a98 {p:Prop} (h:p:=by first|assumption|exact λh=>h|(intro h;have h:_=_:=h;omega)):p:=h
theorem a99 {p:Prop} (h:p:=by exact (.cons rfl (.cons rfl (.cons rfl (.cons (by first|(rw[uZ,G2,xR,dr];rfl)|(rw[uZ,(Bool.not_eq_true _).mp G2,eD];rfl)) (.cons rfl (.cons rfl (.cons rfl (.cons rfl (.cons rfl (.cons rfl .nil))))))))))):p:=h
theorem aa2 {p:Prop} (h:p:=by obtain⟨_,_,he,_⟩:=ho.isSlice;rw[he];rfl):p:=h
theorem aa6 {p:Prop} (h:p:=by intro u hu;simp at hu;rcases hu with rfl|rfl|rfl|rfl|rfl<;>first|rfl|exact jL Xf rfl rfl):p:=h
theorem aa7 {p:Prop} (h:p:=by have:=(an.1 hj).1;omega):p:=h
theorem ab1 {p:Prop} (h:p:=by first|exact(uy q0).symm|exact(ox q0).symm):p:=h
theorem ab3 {p:Prop} (h:p:=by rw[B2];decide):p:=h
theorem ab4 {p:Prop} (h:p:=by exact aK rfl rfl ⟨by rw[eA,decide_eq_false (p:=1<=s.length/\s.length<=12) q0,eD],λM=>aV⟩):p:=h
theorem ab5 {p:Prop} (h:p:=by exact (.cons G (.cons G (.cons (by first|exact W4 zK|exact W5 JH|exact J3c zK JH) (.nil))))):p:=h
theorem ac0 {p:Prop} (h:p:=by exact (.cons G (.cons G (.cons (congrArg some (by first|(show sv [116]=_;rw[fi,if_neg (by rw[c3];decide)])|(show sv q.term.1=_;rw[fi,if_pos (by simpa using c3)]))) (.nil))))):p:=h
theorem ac4 {p:Prop} (h:p:=by rw[<-hc];exact λk h1 h2=>fa k h1 q0):p:=h
theorem ad1 {p:Prop} (h:p:=by simp;have:=gU l;rw[DD]at this;simp at this;omega):p:=h
theorem ad5 {p:Prop} (h:p:=by exact fA rfl rfl rfl ⟨⟨_,rfl,λh=>by cases h⟩,S.back⟩):p:=h
theorem ad8 {p:Prop} (h:p:=by simpa using hx):p:=h
theorem ae7 {p:Prop} (h:p:=by obtain⟨_,_,he,_⟩:=dT.isSlice;rw[he];rfl):p:=h
theorem af0 {p:Prop} (h:p:=by rw[R6];exact qY.le py.le):p:=h
theorem af3 {p:Prop} (h:p:=by first|exact .inl q0|exact .inr (.inl q0)|exact .inr (.inr Xf)):p:=h
theorem af4 {p:Prop} (h:p:=by rw[l6 q0 hx,decide_eq_true AU,dr];exact decide_eq_decide.2 q0):p:=h
theorem af8 {p:Prop} (h:p:=by exact fA rfl rfl rfl ⟨_,by rw[RI,hy,decide_eq_false (λh=>AV (aI h))],G⟩):p:=h
theorem ag3 {p:Prop} (h:p:=by rw[show(((j:Int)/64)).toNat=j/64 from by omega];exact il q0):p:=h
theorem ag7 {p:Prop} (h:p:=by exact ad ⟨G,G,_,G,Jz,aV⟩):p:=h
theorem ah0 {p:Prop} (h:p:=by exact ad ⟨G,G,_,G,k8,aV⟩):p:=h
theorem ah1 {p:Prop} (h:p:=by have:=gX hf;simp;omega):p:=h
theorem ah2 {p:Prop} (h:p:=by have:=S.size;omega):p:=h
theorem ah3 {p:Prop} (h:p:=by intro u hu;simp at hu;rcases hu with rfl|rfl|rfl|rfl|rfl<;>first|rfl|(obtain⟨_,_,he_,_⟩:=fa.isSlice;rw[he_];rfl)):p:=h
theorem ah4 {p:Prop} (h:p:=by intro u hu;simp at hu;rcases hu with rfl|rfl|rfl|rfl|rfl<;>first|rfl|(obtain⟨_,_,he_,_⟩:=oR.isSlice;rw[he_];rfl)):p:=h
theorem ah5 {p:Prop} (h:p:=by have h1:=kC (f:=λe=>qo q.kind ((q.kids.take (i+1)).map (eF e.1.2))) L 0;have h2:=kC (f:=λe=>eF e.1.2 x) L 0;omega):p:=h
theorem ah6 {p:Prop} (h:p:=by simpa using hi):p:=h
theorem ah7 {p:Prop} (h:p:=by intro x hx;simp at hx;rcases hx with rfl|rfl|rfl<;>rfl):p:=h
theorem ah8 {p:Prop} (h:p:=by exact (.cons rfl (.cons (by first|(rw[rF hx,if_pos LU];rfl)|(rw[rF hx,if_neg LU];rfl)) (.cons rfl (.cons rfl (.cons rfl .nil)))))):p:=h
theorem ah9 {p:Prop} (h:p:=by exact fA rfl rfl rfl ⟨_,by rw[RI,hy,AV,decide_eq_true rfl],rfl⟩):p:=h
theorem ai0 {p:Prop} (h:p:=by intro u hu;simp at hu;rcases hu with rfl|rfl<;>rfl):p:=h
theorem ai1 {p:Prop} (h:p:=by unfold J0 bit;rw[decide_eq_true ju,dr,ar,Nat.testBit_eq_decide_div_mod_eq];exact decide_eq_decide.2 q0):p:=h
theorem ai2 {p:Prop} (h:p:=by cases cR q.term.2<;>rfl):p:=h
theorem ai3 {p:Prop} (h:p:=by rw[<-hc];congr 1;omega):p:=h
theorem ai6 {p:Prop} (h:p:=by kernel_rfl):p:=h
theorem ai7 {p:Prop} (h:p:=by simp[binOp,Op.intArith,IntWalk.i64_in _ hb]):p:=h
theorem ai9 {p:Prop} (h:p:=by rintro(h|h)<;>first|exact absurd h Xf|omega):p:=h
theorem ak0 {p:Prop} (h:p:=by rw[e];rfl):p:=h
theorem ak2 {p:Prop} (h:p:=by show¬k=1;have hk:k=2\/k=3\/k=4:=hk;omega):p:=h
theorem ak5 {p:Prop} (h:p:=by show¬k=5;have hk:k=2\/k=3\/k=4:=hk;omega):p:=h
theorem ak8 {p:Prop} (h:p:=by simp only;omega):p:=h
theorem al0 {p:Prop} (h:p:=by rw[ir];rintro⟨h,_⟩;exact h (cB.1 q0)):p:=h
theorem al3 {p:Prop} (h:p:=by exact aK rfl rfl ⟨congrArg Value.bool (decide_eq_decide.2 ⟨λh=>Prod.ext ju h,λh=>by rw[h]⟩),S⟩):p:=h
theorem al4 {p:Prop} (h:p:=by simpa[Nat.blt_eq]using Xh):p:=h
theorem al5 {p:Prop} (h:p:=by exact Hj (zz ⟨by decide,by decide⟩ ⟨yH,aa1⟩ gZ)):p:=h
theorem am3 {p:Prop} (h:p:=by exact aK G G ⟨G,G⟩):p:=h
theorem am5 {p:Prop} (h:p:=by rw[decide_not]):p:=h
theorem an1 {p:Prop} (h:p:=by rw[ir];rintro⟨_,_,h,_⟩;exact c2 h):p:=h
theorem au {α:Type} {c:α} {P:α->Prop} (h:P c):∀x,x=c->P x:=λx hx=>hx▸h
namespace Go.K
abbrev Sl:=List (Nat×Value)
def lk:Sl->Nat->Option Value
 |[],_=>none
 |(k,v)::l,t=>bif Nat.beq k t then some v else lk l t
structure iU (n:Nat) (a:Act) (L:Sl) (ds:List Deferred):Prop where
 size:n<=a.tmps.size
 defers:a.defers=ds
 at_:∀t v,lk L t=some v->a.tmps[t]? =some v
def ev (L:Sl):Operand->Option Value
 |.tmp t=>lk L t
 |.const v=>some v
 |.global g=>some (.pointer (some ⟨g,0,none⟩))
 |.func f=>some (.func (.func f) #[] #[])
theorem iU.eval {n a L ds} (h:iU n a L ds) {x:Operand} {v:Value} (hx:ev L x=some v):a.eval x=v:=by
 cases x with
 |tmp t=>simp only[ev]at hx;simp[Act.eval,h.at_ t v hx]
 |const u=>simp only[ev]at hx;cases hx;rfl
 |global g=>simp only[ev]at hx;cases hx;rfl
 |func f=>simp only[ev]at hx;cases hx;rfl
theorem iU.put {n a L ds} (h:iU n a L ds) {d:Nat} (hd:d<n) (v:Value):iU n (a.put (some d) v) ((d,v)::L) ds:=by
 refine⟨?_,h.defers,?_⟩
 ·simp only[Act.put,Array.size_setIfInBounds];exact h.size
 ·intro t u ht;simp only[lk]at ht;have hs:=h.size;by_cases e:d=t
  ·subst e;simp only[Nat.beq_refl,cond_true]at ht
   cases ht;simp only[Act.put];rw[Array.getElem?_setIfInBounds];simp;omega
  ·have e':Nat.beq d t=false:=by
    cases hb:Nat.beq d t with
    |false=>rfl
    |true=>exact absurd (Nat.eq_of_beq_eq_true hb) e
   rw[e']at ht;simp only[cond_false]at ht;simp only[Act.put];rw[Array.getElem?_setIfInBounds,if_neg e];exact h.at_ t u ht
def Sub:Sl->Sl->Prop
 |[],_=>True
 |(t,v)::A,B=>lk B t=some v/\Sub A B
theorem Sub.nil {B:Sl}:Sub [] B:=trivial
theorem Sub.cons {t:Nat} {v:Value} {A B:Sl} (h:lk B t=some v) (h':Sub A B):Sub ((t,v)::A) B:=⟨h,h'⟩
theorem Sub.lk {A B:Sl} (h:Sub A B) {t:Nat} {v:Value} (ht:lk A t=some v):lk B t=some v:=by
 induction A with
 |nil=>simp[K.lk]at ht
 |cons p A ih=>
  obtain⟨k,u⟩:=p;obtain⟨h1,h2⟩:=h;simp only[K.lk]at ht
  cases hb:Nat.beq k t with
  |true=>
   rw[hb]at ht;simp only[cond_true]at ht;cases ht;rw[<-Nat.eq_of_beq_eq_true hb];exact h1
  |false=>rw[hb]at ht;exact ih h2 ht
theorem iU.sub {n a A B ds} (h:iU n a B ds) (hs:Sub A B):iU n a A ds:=⟨h.size,h.defers,λt v ht=>h.at_ t v (hs.lk ht)⟩
abbrev FW (r:Option Nat):Fence:={Fence.wide with round:=r}
abbrev Kt:=Exit->Sl->List Deferred->World->Prop
def up (n:Nat) (K:Kt):Exit->Act->World->Prop:=λe a w=>∃L ds,iU n a L ds/\K e L ds w
structure T (P:Program) (r:Option Nat) (n:Nat) (c:Code) (L:Sl) (ds:List Deferred) (w:World) (K:Kt):Prop where
 run:∀a,iU n a L ds->c.wpIn (FW r) 0 P (up n K) a w
structure Rg (P:Program) (r:Option Nat) (n:Nat) (ops:Array Oper) (rest:List Oper) (L:Sl) (ds:List Deferred) (w:World) (K:Kt):Prop where
 run:∀a,iU n a L ds->wpListIn (FW r) 0 P ops (up n K) rest a w
@[reducible] def Db (k:Sl->List Deferred->World->Prop) (K:Kt):Kt
 |.normal,L,ds,w=>k L ds w
 |e,L,ds,w=>K e L ds w
@[reducible] def qz (id:Nat) (K:Kt):Kt
 |.exit id',L,ds,w=>if id'=id then K .normal L ds w else K (.exit id') L ds w
 |e,L,ds,w=>K e L ds w
section
variable {P:Program} {r:Option Nat} {n:Nat} {L:Sl} {ds:List Deferred} {w:World} {K:Kt}
theorem T.mono {c:Code} {K':Kt} (h:T P r n c L ds w K) (hK:∀e L ds w,K e L ds w->K' e L ds w):T P r n c L ds w K':=
 ⟨λa ha=>wpIn_mono (h.run a ha) λ_ _ _ ⟨L,ds,h1,h2⟩=>⟨L,ds,h1,hK _ _ _ _ h2⟩⟩
theorem T.weaken {c:Code} (L':Sl) (hs:Sub L' L) (h:T P r n c L' ds w K):T P r n c L ds w K:=⟨λa ha=>h.run a (ha.sub hs)⟩
theorem T.skip (h:K .normal L ds w):T P r n .skip L ds w K:=⟨λa ha=>wpIn_skip ⟨L,ds,ha,h⟩⟩
theorem T.exit {id:Nat} (h:K (.exit id) L ds w):T P r n (.exit id) L ds w K:=⟨λa ha=>wpIn_exit ⟨L,ds,ha,h⟩⟩
theorem T.ret (h:K .ret L ds w):T P r n .ret L ds w K:=⟨λa ha=>wpIn_ret ⟨L,ds,ha,h⟩⟩
theorem T.seq {x y:Code} (h:T P r n x L ds w (Db (λL ds w=>T P r n y L ds w K) K)):T P r n (.seq x y) L ds w K:=by
 refine⟨λa ha=>wpIn_seq (wpIn_mono (h.run a ha) ?_)⟩;rintro e a' w' ⟨L',p9,rJ,hK⟩
 cases e with
 |normal=>exact hK.run a' rJ
 |exit id=>exact⟨L',p9,rJ,hK⟩
 |goto id=>exact⟨L',p9,rJ,hK⟩
 |ret=>exact⟨L',p9,rJ,hK⟩
 |panic c=>exact⟨L',p9,rJ,hK⟩
 |outgrown=>exact⟨L',p9,rJ,hK⟩
theorem T.block {id:Nat} {c:Code} (h:T P r n c L ds w (qz id K)):T P r n (.block id c) L ds w K:=by
 refine⟨λa ha=>wpIn_block (wpIn_mono (h.run a ha) ?_)⟩;rintro e a' w' ⟨L',p9,rJ,hK⟩
 cases e with
 |normal=>exact⟨L',p9,rJ,hK⟩
 |exit id'=>
  simp only[Exit.inBlock];simp only[qz]at hK
  split
  ·rename_i e';rw[if_pos e']at hK;exact⟨L',p9,rJ,hK⟩
  ·rename_i e';rw[if_neg e']at hK;exact⟨L',p9,rJ,hK⟩
 |goto id=>exact⟨L',p9,rJ,hK⟩
 |ret=>exact⟨L',p9,rJ,hK⟩
 |panic c=>exact⟨L',p9,rJ,hK⟩
 |outgrown=>exact⟨L',p9,rJ,hK⟩
theorem T.cond {c:Operand} {x y:Code} {b:Bool} (hc:ev L c=some (.bool b)) (ht:b=true->T P r n x L ds w K) (hf:b=false->T P r n y L ds w K):
  T P r n (.cond c x y) L ds w K:=by
 refine ⟨λa ha=> ?_⟩;have:=ha.eval hc
 cases b with
 |true=>exact wpIn_cond_true this ((ht rfl).run a ha)
 |false=>exact wpIn_cond_false this ((hf rfl).run a ha)
theorem T.dA {c:Operand} {x y:Code} {p:Prop} [Decidable p] (hc:ev L c=some (.bool (decide p))) (ht:p->T P r n x L ds w K) (hf: ¬p->T P r n y L ds w K):
  T P r n (.cond c x y) L ds w K:= .cond hc (λh=>ht (of_decide_eq_true h)) (λh=>hf (of_decide_eq_false h))
theorem T.rp {c:Operand} {x y:Code} (hc:ev L c=some (.bool true)) (ht:T P r n x L ds w K):T P r n (.cond c x y) L ds w K:= .cond hc (λ_=>ht) (λh=>by cases h)
theorem T.iff {c:Operand} {x y:Code} (hc:ev L c=some (.bool false)) (hf:T P r n y L ds w K):T P r n (.cond c x y) L ds w K:= .cond hc (λh=>by cases h) (λ_=>hf)
theorem least {σ:Type} (m:σ->Nat) (p:σ->Prop):(∃s,p s)->∃s,p s/\∀s',p s'→m s<=m s':=by
 have key:∀k s,m s=k->p s->∃s,p s/\∀s',p s'→m s<=m s':=by
  intro k
  induction k using Nat.strongRecOn with
  |_ k ih=>
   intro s hs hp;by_cases h:∃s',p s'∧m s'<k
   ·obtain⟨s',Xg,eZ⟩:=h;exact ih (m s') eZ s' G Xg
   ·exact⟨s,hp,λs' Xg=>by
     rcases Nat.lt_or_ge (m s') (m s)with h'|h'
     ·exact absurd ⟨s',Xg,hs▸h'⟩ h
     ·exact h'⟩
 rintro⟨s,hp⟩;exact key _ s G hp
theorem T.loop {σ:Type} {c:Code} (Lf:σ->Sl) (I:σ->World->Prop) (m:σ->Nat) (s0:σ) (hL:Sub (Lf s0) L) (h0:I s0 w)
  (round:∀s w,I s w->T P r n c (Lf s) ds w (Db (λL' p9 w'=>p9=ds/\∃s',Sub (Lf s') L'∧I s' w'∧m s'<m s) K)):T P r n (.loop c) L ds w K:=by
 classical
 refine ⟨λa ha=> ?_⟩
 let J:σ->Act->World->Prop:=λs a w=>iU n a (Lf s) ds/\I s w
 let μ:Act->World->Nat:=λa w=>if h:∃s,J s a w then m (Classical.choose (least m (J · a w) h))else 0
 refine wpIn_loop (λa w=>∃s,J s a w) μ ⟨s0,ha.sub hL,h0⟩ ?_;rintro a w hJ;have hc:=Classical.choose_spec (least m (J · a w) hJ);have hμ:μ a w=m (Classical.choose (least m (J · a w) hJ)):=by simp only[μ];rw[dif_pos hJ]
 rw[hμ];generalize Classical.choose (least m (J · a w) hJ)=s at hc;obtain⟨⟨hs,hi⟩,_⟩:=hc;refine wpIn_mono ((round s w hi).run a hs) ?_;rintro e a' w' ⟨L',p9,rJ,hK⟩
 cases e with
 |normal=>
  obtain⟨rfl,s',abW,k9,eZ⟩:=hK;have hJ':∃s,J s a' w':=⟨s',rJ.sub abW,k9⟩;refine ⟨hJ',?_⟩;have h2:=(Classical.choose_spec (least m (J · a' w') hJ')).2 s' ⟨rJ.sub abW,k9⟩;simp only[μ];rw[dif_pos hJ'];omega
 |exit id=>exact⟨L',p9,rJ,hK⟩
 |goto id=>exact⟨L',p9,rJ,hK⟩
 |ret=>exact⟨L',p9,rJ,hK⟩
 |panic c=>exact⟨L',p9,rJ,hK⟩
 |outgrown=>exact⟨L',p9,rJ,hK⟩
theorem T.region {id:Nat} {l:List Oper} (h:Rg P r n l.toArray l L ds w K):T P r n (.region id l.toArray false) L ds w K:=
 ⟨λa ha=>wpIn_region_lit (h.run a ha)⟩
variable {ops:Array Oper} {rest:List Oper} {o:Oper}
theorem Rg.nil (h:K .normal L ds w):Rg P r n ops [] L ds w K:=⟨λ_ ha=>wpListIn_nil ⟨L,ds,ha,h⟩⟩
theorem EJ (mY:∀c,o.op≠ .defer c) {a:Act} {next:Act->World->Prop} {Q:Exit->Act->World->Prop}
  (h:o.uponIn (FW r) 0 P a next Q ((execOp a.eval o).run P w)):o.wpIn (FW r) 0 P a w next Q:=
 ⟨λ_ _=>trivial,by rw[Oper.semAt_eq _ _ _ mY];exact h⟩
theorem Rg.op (mY:∀c,o.op≠ .defer c) (hg:o.guard=none) {d:Nat} (hd:o.dst=some d) (Xh:Nat.blt d n=true) (v:Value) (w':World)
  (iz:∀ρ:Operand->Value,(∀x u,ev L x=some u->ρ x=u)->(execOp ρ o).run P w= .ok (.value v) w')
  (h:Rg P r n ops rest ((d,v)::L) ds w' K):Rg P r n ops (o::rest) L ds w K:=by
 refine ⟨λa ha=>wpListIn_plain hg λK' NO=>EJ mY ?_⟩;rw[iz a.eval (λx u hx=>ha.eval hx),Oper.uponIn_value,hd];exact NO _ _ (h.run _ (ha.put al4 v))
theorem Rg.VH (mY:∀c,o.op≠ .defer c) (hg:o.guard=none) (hd:o.dst=none) (w':World)
  (iz:∀ρ:Operand->Value,(∀x u,ev L x=some u->ρ x=u)->(execOp ρ o).run P w= .ok .skip w')
  (h:Rg P r n ops rest L ds w' K):Rg P r n ops (o::rest) L ds w K:=by
 refine ⟨λa ha=>wpListIn_plain hg λK' NO=>EJ mY ?_⟩;rw[iz a.eval (λx u hx=>ha.eval hx),Oper.uponIn_skip,hd];exact NO _ _ (h.run _ ha)
def Spec (P:Program) (f:FuncId) (args:Array Value) (w:World) (Q:Value->World->Prop):Prop:=
 Calls P f args w λe w'=>∃v,e= .returned v/\Q v w'
theorem Spec.mono {f:FuncId} {args:Array Value} {Q Q':Value->World->Prop} (h:Spec P f args w Q) (hq:∀v w',Q v w'→Q' v w'):Spec P f args w Q':=
 Calls.mono h λ_ _ ⟨v,he,hv⟩=>⟨v,he,hq _ _ hv⟩
theorem Rg.NP (mY:∀c,o.op≠ .defer c) (hg:o.guard=none) {d:Nat} (hd:o.dst=some d) (Xh:Nat.blt d n=true) {f:FuncId} {args:Array Value} {w1:World} {Q:Value->World->Prop}
  (iz:∀ρ:Operand->Value,(∀x u,ev L x=some u->ρ x=u)->(execOp ρ o).run P w= .ok (.enter f args) w1)
  (hs:Spec P f args w1 Q) (h:∀v w',Q v w'→Rg P r n ops rest ((d,v)::L) ds w' K):Rg P r n ops (o::rest) L ds w K:=by
 refine ⟨λa ha=>wpListIn_plain hg λK' NO=>EJ mY ?_⟩;rw[iz a.eval (λx u hx=>ha.eval hx),Oper.uponIn_enter,hd];refine ⟨λh=>by simp[FW,Fence.wide]at h,?_⟩
 have hc:CallsIn (FW r) (0-1) P f args w1 λe w'=>∃v,e= .returned v/\Q v w':=by
  cases r with
  |none=>exact callsIn_wide.2 hs
  |some l=>exact CallsIn.inRound l (callsIn_wide.2 hs)
 refine hc.mono ?_;rintro e w' ⟨v,rfl,hv⟩;exact NO _ _ ((h v w' hv).run _ (ha.put al4 v))
def yW (ops:Array Oper) (j:Nat):Option Nat:=(ops[j]?).bind (·.dst)
theorem yX {a:Act} (ha:iU n a L ds) {j g:Nat} {b:Bool} (hj:yW ops j=some g) (hb:lk L g=some (.bool b)):yielded ops a.tmps j=some b:=by
 unfold yielded;unfold yW at hj;rw[hj];simp[ha.at_ g _ hb]
theorem Rg.Xi {g:Nat} {b:Bool} (hb:lk L g=some (.bool b)) (ht:b=true->Rg P r n ops rest ((g,.bool true)::L) ds w K) (hf:b=false->Rg P r n ops rest ((g,.bool false)::L) ds w K):
  Rg P r n ops rest L ds w K:=by
 have key:∀c,b=c->∀t v,lk ((g,.bool c)::L) t=some v->lk L t=some v:=by
  rintro c rfl t v h;simp only[lk]at h
  cases hbq:Nat.beq g t with
  |true=>rw[hbq]at h;simp only[cond_true]at h;rw[<-Nat.eq_of_beq_eq_true hbq,hb];exact h
  |false=>rw[hbq]at h;exact h
 refine ⟨λa ha=> ?_⟩
 cases b with
 |true=>exact(ht rfl).run a ⟨ha.size,ha.defers,λt v h=>ha.at_ t v (key true rfl t v h)⟩
 |false=>exact(hf rfl).run a ⟨ha.size,ha.defers,λt v h=>ha.at_ t v (key false rfl t v h)⟩
theorem Rg.bF {g:Nat} {p:Prop} [Decidable p] (hb:lk L g=some (.bool (decide p))) (ht:p->Rg P r n ops rest ((g,.bool true)::L) ds w K) (hf: ¬p->Rg P r n ops rest ((g,.bool false)::L) ds w K):
  Rg P r n ops rest L ds w K:= .Xi hb (λh=>ht (of_decide_eq_true h)) (λh=>hf (of_decide_eq_false h))
theorem Rg.NQ {g:Nat} {p:Prop} [Decidable p] (hb:lk L g=some (.bool (decide p))) (hp:p) (k:Rg P r n ops rest ((g,.bool true)::L) ds w K):Rg P r n ops rest L ds w K:=
 .bF hb (λ_=>k) (λh=>absurd hp h)
theorem Rg.Dd {g:Nat} {p:Prop} [Decidable p] (hb:lk L g=some (.bool (decide p))) (hp: ¬p) (k:Rg P r n ops rest ((g,.bool false)::L) ds w K):Rg P r n ops rest L ds w K:=
 .bF hb (λh=>absurd h hp) (λ_=>k)
theorem T.aiW {c:Operand} {x y:Code} {p:Prop} [Decidable p] (hc:ev L c=some (.bool (decide p))) (hp:p) (h:T P r n x L ds w K):T P r n (.cond c x y) L ds w K:= .dA hc (λ_=>h) (λh=>absurd hp h)
theorem T.NR {c:Operand} {x y:Code} {p:Prop} [Decidable p] (hc:ev L c=some (.bool (decide p))) (hp: ¬p) (h:T P r n y L ds w K):T P r n (.cond c x y) L ds w K:= .dA hc (λh=>absurd h hp) (λ_=>h)
theorem Rg.aD {dst:Option Nat} {op:Op} {ty:TypeId} {pos:String} {af:Array Edge} {j g:Nat} {b:Bool} (hj:yW ops j=some g) (hb:lk L g=some (.bool b))
  (h:Rg P r n ops ({dst,op,type:=ty,pos,after:=af,guard:=none}::rest) L ds w K):Rg P r n ops ({dst,op,type:=ty,pos,after:=af,guard:=some (j,b)}::rest) L ds w K:=by
 refine ⟨λa ha=> ?_⟩;have h1:=h.run a ha;have hy:=yX ha hj hb;simp only[wpListIn,Region.wanted,if_true]at h1;simp only[wpListIn,Region.wanted,hy,beq_self_eq_true,if_true];exact h1
theorem Rg.bI {d:Nat} {op:Op} {ty:TypeId} {pos:String} {af:Array Edge} {j g:Nat} {b c:Bool} (hj:yW ops j=some g) (hb:lk L g=some (.bool b)) (fw:(b==c)=false)
  (Xh:Nat.blt d n=true) (h:Rg P r n ops rest ((d,undef)::L) ds w K):Rg P r n ops ({dst:=some d,op,type:=ty,pos,after:=af,guard:=some (j,c)}::rest) L ds w K:=by
 refine ⟨λa ha=> ?_⟩;have hy:=yX ha hj hb;have Xj:b≠c:=by simpa using fw
 simp only[wpListIn,Region.wanted,hy];rw[if_neg (by simpa using Xj)];exact⟨λ_ _=>trivial,h.run _ (ha.put al4 undef)⟩
end
section
variable {P:Program} {r:Option Nat} {n:Nat} {L:Sl} {ds:List Deferred} {w:World} {K:Kt} {ops:Array Oper} {rest:List Oper}
theorem BA {a:Act} (ha:iU n a L ds) {j g:Nat} (hj:yW ops j=some g) (hb:lk L g=some undef):yielded ops a.tmps j=none:=by
 unfold yielded;unfold yW at hj;rw[hj];simp[ha.at_ g _ hb,undef]
theorem Rg.eg {d:Nat} {op:Op} {ty:TypeId} {pos:String} {af:Array Edge} {j g:Nat} {c:Bool} (hj:yW ops j=some g) (hb:lk L g=some undef)
  (Xh:Nat.blt d n=true) (h:Rg P r n ops rest ((d,undef)::L) ds w K):Rg P r n ops ({dst:=some d,op,type:=ty,pos,after:=af,guard:=some (j,c)}::rest) L ds w K:=by
 refine ⟨λa ha=> ?_⟩;have hy:=BA ha hj hb;simp only[wpListIn,Region.wanted,hy];rw[if_neg (by simp)];exact⟨λ_ _=>trivial,h.run _ (ha.put al4 undef)⟩
end
def vX:Nat->List Value->Sl
 |_,[]=>[]
 |i,v::l=>(i,v)::vX (i+1) l
theorem B5 (l:List Value):∀(i t:Nat) (v:Value),lk (vX i l) t=some v->i<=t/\l[t-i]? =some v:=by
 induction l with
 |nil=>intro i t v h;simp[vX,lk]at h
 |cons u l ih=>
  intro i t v h;simp only[vX,lk]at h
  cases hb:Nat.beq i t with
  |true=>
   rw[hb]at h;simp only[cond_true]at h;cases h;have:=Nat.eq_of_beq_eq_true hb;subst this;exact⟨Nat.le_refl _,by simp⟩
  |false=>
   rw[hb]at h;obtain⟨h1,h2⟩:=ih (i+1) t v h;refine ⟨by omega,?_⟩;rw[show t-i=(t-(i+1))+1 from by omega];simpa using h2
def yp (P:Program) (fn:Func) (Q:Value->World->Prop):Kt
 |.normal,L,ds,w| .ret,L,ds,w=>ds=[]/\∀a:Act,(∀t v,lk L t=some v->a.tmps[t]? =some v)->∃v,(results fn a.tmps).run P w= .ok v w/\Q v w
 |_,_,_,_=>False
theorem bh {P:Program} {f:FuncId} {fn:Func} {c:Code} {args:List Value} {w:World} {Q:Value->World->Prop} (hf:P.funcs[f]? =some fn) (hb:fn.body=some c) {n:Nat} (hn:fn.ntmps=n)
  (h:T P none n c (vX 0 args) [] w (yp P fn Q)):Spec P f args.toArray w Q:=by
 refine(callsIn_wide (n:=0)).1 (callsIn_of_wp hf hb trivial ?_);refine wpIn_mono (h.run _ ⟨?_,G,?_⟩) ?_
 ·simp[hn];omega
 ·intro t v ht;obtain⟨_,h2⟩:=B5 args 0 t v ht;simp only[Nat.sub_zero]at h2;have eZ:t<args.length:=(List.getElem?_eq_some_iff.1 h2).1;simp only;rw[Array.getElem?_append_left (by simpa using eZ)];simpa using h2
 ·rintro e a w' ⟨L,ds,ha,hK⟩
  cases e with
  |normal=>obtain⟨h1,h2⟩:=hK;obtain⟨v,h3,h4⟩:=h2 a ha.at_;exact⟨ha.defers.trans h1,v,h3,v,G,h4⟩
  |ret=>obtain⟨h1,h2⟩:=hK;obtain⟨v,h3,h4⟩:=h2 a ha.at_;exact⟨ha.defers.trans h1,v,h3,v,G,h4⟩
  |exit id=>exact hK.elim
  |goto id=>exact hK.elim
  |panic c=>exact hK.elim
  |outgrown=>exact hK.elim
section
variable {P:Program} {fn:Func} {L:Sl} {w:World} {Q:Value->World->Prop}
theorem aK {t:Nat} {v:Value} (hr:fn.results= #[.tmp t]) (hv:lk L t=some v) (h:Q v w):
  yp P fn Q .ret L [] w:=
 ⟨rfl,λa ha=>⟨v,by simp[results,hr,ha t v hv],h⟩⟩
theorem EK (hr:fn.results= #[]) (h:Q (.tuple #[]) w):
  yp P fn Q .ret L [] w:=
 ⟨rfl,λa ha=>⟨_,by simp[results,hr],h⟩⟩
theorem fA {t u:Nat} {x y:Value} (hr:fn.results= #[.tmp t,.tmp u]) (hx:lk L t=some x) (hy:lk L u=some y) (h:Q (.tuple #[x,y]) w):
  yp P fn Q .ret L [] w:=
 ⟨rfl,λa ha=>⟨_,by simp[results,hr,ha _ _ hx,ha _ _ hy],h⟩⟩
theorem rT {t u s:Nat} {x y z:Value} (hr:fn.results= #[.tmp t,.tmp u,.tmp s]) (hx:lk L t=some x) (hy:lk L u=some y) (hz:lk L s=some z) (h:Q (.tuple #[x,y,z]) w):
  yp P fn Q .ret L [] w:=
 ⟨rfl,λa ha=>⟨_,by simp[results,hr,ha _ _ hx,ha _ _ hy,ha _ _ hz],h⟩⟩
end
section
variable {P:Program} {r:Option Nat} {n:Nat} {L:Sl} {ds:List Deferred} {w:World} {K:Kt} {ops:Array Oper}
theorem Rg.dh {F:Sl->Prop} (h:F L):Rg P r n ops [] L ds w (λe L' p9 w'=>e=.normal/\p9=ds/\w'=w/\F L'):=Rg.nil ⟨rfl,rfl,rfl,h⟩
theorem T.aQ {id:Nat} {l:List Oper} {y:Code} (h:Rg P r n l.toArray l L ds w (Db (λL ds w=>T P r n y L ds w K) K)):T P r n (.seq (.region id l.toArray false) y) L ds w K:=T.seq (T.region h)
end
end Go.K
namespace Go.K
open Go.RowKit (Below)
abbrev aM:=Nat->Prop
def aC:aM:=λ_=>False
def ins (M:aM) (b:Nat):aM:=λk=>k=b\/M k
def Le (M:aM) (w:World) (M':aM) (w':World):Prop:=∀b,b<w.heap.size->¬M b->¬M' b/\w'.heap[b]? =w.heap[b]?
theorem ae {w:World} {b:Nat} {o:Obj} (h:w.heap[b]? =some o):b<w.heap.size:=(Array.getElem?_eq_some_iff.1 h).1
theorem Le.refl (M:aM) (w:World):Le M w M w:=λ_ _ h=>⟨h,rfl⟩
theorem Le.trans {M1 M2 M3:aM} {w1 w2 w3:World} (h:Le M1 w1 M2 w2) (h':Le M2 w2 M3 w3):Le M1 w1 M3 w3:=λb hb hm=>by
 obtain⟨h1,h2⟩:=h b hb hm
 have EL:b<w2.heap.size:=by
  have:w1.heap[b]? =some w1.heap[b]:=Array.getElem?_eq_getElem hb;exact ae (h2.trans this)
 obtain⟨h3,h4⟩:=h' b EL h1;exact⟨h3,h4.trans h2⟩
def Lt (M:aM) (w:World):Prop:=∀b,M b->b<w.heap.size
theorem Lt.none (w:World):Lt aC w:=λ_ h=>h.elim
structure Step (M:aM) (w:World) (M':aM) (w':World) (N:aM):Prop where
 lt:Lt M w->Lt M' w'
 os:w'.os=w.os
 tape:w'.tape=w.tape
 output:w'.output=w.output
 size:w.heap.size<=w'.heap.size
 mem:∀b,b<w.heap.size->(M' b↔M b)
 same:∀b,b<w.heap.size->¬N b->w'.heap[b]? =w.heap[b]?
 sub:∀b,N b->M b
theorem Step.refl (M:aM) (w:World):Step M w M w aC:=⟨id,rfl,rfl,rfl,Nat.le_refl _,λ_ _=>Iff.rfl,λ_ _ _=>rfl,λ_ h=>h.elim⟩
theorem Step.le {M M' N:aM} {w w':World} (h:Step M w M' w' N):Le M w M' w':=λb hb hm=>⟨λyY=>hm ((h.mem b hb).1 yY),h.same b hb λhn=>hm (h.sub b hn)⟩
theorem Step.trans {M1 M2 M3 N N':aM} {w1 w2 w3:World} (h:Step M1 w1 M2 w2 N) (h':Step M2 w2 M3 w3 N') (hN:∀b,b<w1.heap.size->N' b->N b):Step M1 w1 M3 w3 N:=
 ⟨λh0=>h'.lt (h.lt h0),h'.os.trans h.os,h'.tape.trans h.tape,h'.output.trans h.output,Nat.le_trans h.size h'.size,
  λb hb=>(h'.mem b (Nat.lt_of_lt_of_le hb h.size)).trans (h.mem b hb),
  λb hb hn=>(h'.same b (Nat.lt_of_lt_of_le hb h.size) (λh2=>hn (hN b hb h2))).trans (h.same b hb hn),h.sub⟩
theorem Step.aw {M1 M2 M3 N:aM} {w1 w2 w3:World} (h:Step M1 w1 M2 w2 N) (h':Step M2 w2 M3 w3 aC):Step M1 w1 M3 w3 N:=h.trans h' λ_ _ h=>h.elim
theorem Step.eI {M M' N N':aM} {w w':World} (h:Step M w M' w' N) (hN:∀b,N b->N' b) (hs:∀b,N' b->M b):Step M w M' w' N':=
 ⟨h.lt,h.os,h.tape,h.output,h.size,h.mem,λb hb hn=>h.same b hb λh2=>hn (hN b h2),hs⟩
theorem Step.any {M M':aM} {w w':World} (h:Step M w M' w' aC) (M1:aM):Step M1 w M1 w' aC:=
 ⟨λh0 b hb=>Nat.lt_of_lt_of_le (h0 b hb) h.size,h.os,h.tape,h.output,h.size,λ_ _=>Iff.rfl,h.same,λ_ h=>h.elim⟩
theorem Step.back {M M' N:aM} {w w':World} (h:Step M w M' w' N):Step M w M w' N:=⟨λh0 b hb=>Nat.lt_of_lt_of_le (h0 b hb) h.size,h.os,h.tape,h.output,h.size,λ_ _=>Iff.rfl,h.same,h.sub⟩
theorem Step.below {M:aM} {M':aM} {w w':World} (h:Step M w M' w' aC):Below w.heap.size w w':=⟨h.os,h.tape,h.output,h.size,λk hk=>h.same k hk λh=>h.elim⟩
theorem Step.aF {M M':aM} {w w':World} (h:Step M w M' w' aC) {b:Nat} {o:Obj} (hb:w.heap[b]? =some o):w'.heap[b]? =some o:=(h.same b (ae hb) λh=>h.elim).trans hb
theorem Step.bU {M M' N:aM} {w w':World} (h:Step M w M' w' N) {b:Nat} {o:Obj} (hb:w.heap[b]? =some o) (hn: ¬N b):w'.heap[b]? =some o:=(h.same b (ae hb) hn).trans hb
theorem Le.close {M0 M N:aM} {w0 w:World} (hl:Lt M0 w0) (s:Step M0 w0 M w N):Le M w M0 w:=λb _ hm=>
 ⟨λh0=>hm ((s.mem b (hl b h0)).2 h0),rfl⟩
theorem ei (M:aM) (w:World) (o:Obj):Step M w M (w.alloc o) aC:=
 ⟨λh b hb=>Nat.lt_of_lt_of_le (h b hb) (by simp),rfl,rfl,rfl,by simp,λ_ _=>Iff.rfl,λk hk _=>Below.heap_alloc w o k hk,λ_ h=>h.elim⟩
theorem nV (M:aM) (w:World):Step M w M w.drew aC:=⟨λh=>h,rfl,rfl,rfl,Nat.le_refl _,λ_ _=>Iff.rfl,λ_ _ _=>rfl,λ_ h=>h.elim⟩
theorem Step.own {M M' N:aM} {w w':World} (s:Step M w M' w' N) {b:Nat} (hb:w.heap.size<=b) (Ev:b<w'.heap.size):Step M w (ins M' b) w' N:=
 ⟨λh k hk=>by
  rcases hk with rfl|hk
  ·exact Ev
  ·exact s.lt h k hk,s.os,s.tape,s.output,s.size,λk hk=>⟨λh=>by
  rcases h with rfl|h
  ·omega
  ·exact(s.mem k hk).1 h,λh=> .inr ((s.mem k hk).2 h)⟩,s.same,s.sub⟩
structure RT (α:Type) where
 n:Nat
 agg:Bool
 R:aM->World->α->List Value->Prop
 len:∀{M w x vs},R M w x vs->vs.length=n
 one:∀{M w x vs},R M w x vs->∀v∈vs,v.oneCell'=true
 le:∀{M w M' w' x vs},Le M w M' w'→R M w x vs->R M' w' x vs
def RT.val {α:Type} (A:RT α) (vs:List Value):Value:=if A.agg then .agg vs.toArray else vs.headD undef
def RT.V {α:Type} (A:RT α) (M:aM) (w:World) (x:α) (v:Value):Prop:=∃vs,A.R M w x vs/\v=A.val vs
theorem RT.V.le {α:Type} {A:RT α} {M M':aM} {w w':World} {x:α} {v:Value} (hl:Le M w M' w') (h:A.V M w x v):A.V M' w' x v:=by
 obtain⟨vs,h1,h2⟩:=h;exact⟨vs,A.le hl h1,h2⟩
def RT.int (k:IntKind):RT Int where
 n:=1
 agg:=false
 R:=λ_ _ x vs=>vs=[.int k x]/\k.min<=x/\x<=k.max
 len:=by rintro _ _ x vs ⟨rfl,_⟩;rfl
 one:=by rintro _ _ x vs ⟨rfl,_⟩ v hv;simp at hv;subst hv;rfl
 le:=λ_ h=>h
def RT.u8:RT UInt8 where
 n:=1
 agg:=false
 R:=λ_ _ x vs=>vs=[.int .u8 x.toNat]
 len:=by rintro _ _ x vs rfl;rfl
 one:=by rintro _ _ x vs rfl v hv;simp at hv;subst hv;rfl
 le:=λ_ h=>h
def RT.bool:RT Bool where
 n:=1
 agg:=false
 R:=λ_ _ x vs=>vs=[.bool x]
 len:=by rintro _ _ x vs rfl;rfl
 one:=by rintro _ _ x vs rfl v hv;simp at hv;subst hv;rfl
 le:=λ_ h=>h
def RT.str:RT (List UInt8) where
 n:=1
 agg:=false
 R:=λ_ _ x vs=>vs=[.string ⟨x.toArray⟩]/\x.length<=140737488355328
 len:=by rintro _ _ x vs ⟨rfl,_⟩;rfl
 one:=by rintro _ _ x vs ⟨rfl,_⟩ v hv;simp at hv;subst hv;rfl
 le:=λ_ h=>h
theorem sM {M M':aM} {w w':World} (hl:Le M w M' w') {b o:Nat} {vs:List Value} (hm: ¬M b) (h:w.rangeAt b o vs):w'.rangeAt b o vs:=by
 intro j v hv;have hc:=h j v hv;have hb:b<w.heap.size:=World.block_lt_of_cell? w ⟨b,o+j,none⟩ hc;rw[World.cell?_of_block (w:=w) (hl b hb hm).2];exact hc
def vY {α:Type} (A:RT α) (M:aM) (w:World) (a:Option Addr) (xs:List α):Prop:=
 xs=[]\/∃b o,a=some ⟨b,o,none⟩/\¬M b/\∀i x,xs[i]? =some x->∃vs,A.R M w x vs/\w.rangeAt b (o+i*A.n) vs
theorem vY.le {α:Type} {A:RT α} {M M':aM} {w w':World} {a:Option Addr} {xs:List α} (hn:0<A.n) (hl:Le M w M' w') (h:vY A M w a xs):vY A M' w' a xs:=by
 rcases h with h|⟨b,o,h1,h2,h3⟩
 ·exact .inl h
 ·cases xs with
  |nil=>exact .inl rfl
  |cons x xs=>
   obtain⟨vs,hv,hr⟩:=h3 0 x rfl;have yZ:0<vs.length:=by rw[A.len hv];exact hn
   have hc:=hr 0 vs[0] (List.getElem?_eq_getElem yZ);have hb:b<w.heap.size:=World.block_lt_of_cell? w _ hc;refine .inr ⟨b,o,h1,(hl b hb h2).1,λi x hi=> ?_⟩;obtain⟨vs,hv,hr⟩:=h3 i x hi;exact⟨vs,A.le hl hv,sM hl h2 hr⟩
def RT.sl {α:Type} (A:RT α) (hn:0<A.n:=by decide):RT (List α) where
 n:=1
 agg:=false
 R:=λM w xs vs=>∃a cap,vs=[.slice a xs.length cap]/\xs.length<=cap/\xs.length<=140737488355328/\vY A M w a xs
 len:=by rintro _ _ x vs ⟨a,cap,rfl,_⟩;rfl
 one:=by rintro _ _ x vs ⟨a,cap,rfl,_⟩ v hv;simp at hv;subst hv;rfl
 le:=by
  rintro M w M' w' xs vs hl ⟨a,cap,h1,h2,h3,h4⟩;exact⟨a,cap,h1,h2,h3,h4.le hn hl⟩
def RT.pair {α β:Type} (A:RT α) (B:RT β):RT (α×β) where
 n:=A.n+B.n
 agg:=true
 R:=λM w x vs=>∃va vb,vs=va++vb/\A.R M w x.1 va/\B.R M w x.2 vb
 len:=by rintro _ _ x vs ⟨va,vb,rfl,h1,h2⟩;rw[List.length_append,A.len h1,B.len h2]
 one:=by
  rintro _ _ x vs ⟨va,vb,rfl,h1,h2⟩ v hv;rcases List.mem_append.1 hv with hv|hv
  ·exact A.one h1 v hv
  ·exact B.one h2 v hv
 le:=by rintro M w M' w' x vs hl ⟨va,vb,h0,h1,h2⟩;exact⟨va,vb,h0,A.le hl h1,B.le hl h2⟩
def RT.Xk {α β:Type} (A:RT α) (f:β->α):RT β where
 n:=A.n
 agg:=A.agg
 R:=λM w x vs=>A.R M w (f x) vs
 len:=A.len
 one:=A.one
 le:=A.le
theorem NS {k:IntKind} {M:aM} {w:World} {x:Int} {v:Value}:(RT.int k).V M w x v↔v= .int k x/\k.min<=x/\x<=k.max:=
 ⟨fun⟨_,⟨h1,h2⟩,h3⟩=>by subst h1;exact⟨h3,h2⟩,fun⟨h1,h2⟩=>⟨_,⟨G,h2⟩,h1⟩⟩
theorem Xl {M:aM} {w:World} {x:UInt8} {v:Value}:RT.u8.V M w x v↔v= .int .u8 x.toNat:=⟨fun⟨_,h1,h2⟩=>by cases h1;exact h2,λh=>⟨_,G,h⟩⟩
theorem HB {M:aM} {w:World} {x:Bool} {v:Value}:RT.bool.V M w x v↔v= .bool x:=⟨fun⟨_,h1,h2⟩=>by cases h1;exact h2,λh=>⟨_,G,h⟩⟩
theorem mc {M:aM} {w:World} {x:List UInt8} {v:Value}:RT.str.V M w x v↔v= .string ⟨x.toArray⟩/\x.length<=140737488355328:=
 ⟨fun⟨_,⟨h1,h2⟩,h3⟩=>by subst h1;exact⟨h3,h2⟩,fun⟨h1,h2⟩=>⟨_,⟨G,h2⟩,h1⟩⟩
theorem iV {α:Type} {A:RT α} {hn:0<A.n} {M:aM} {w:World} {xs:List α} {v:Value}:
  (A.sl hn).V M w xs v↔∃a cap,v= .slice a xs.length cap/\xs.length<=cap/\xs.length<=140737488355328/\vY A M w a xs:=
 ⟨fun⟨_,⟨a,cap,h1,h2⟩,h3⟩=>by subst h1;exact⟨a,cap,h3,h2⟩,fun⟨a,cap,h1,h2⟩=>⟨_,⟨a,cap,G,h2⟩,h1⟩⟩
theorem gZ {α:Type} {A:RT α} {hn:0<A.n} {M:aM} {w:World}:(A.sl hn).V M w [] (.slice none 0 0):=iV.2 ⟨none,0,rfl,Nat.zero_le _,Nat.zero_le _,.inl rfl⟩
theorem cU {α:Type} {A:RT α} {hn:0<A.n} {M:aM} {w:World} {xs:List α} {v:Value} (h:(A.sl hn).V M w xs v):xs.length<=140737488355328:=by
 obtain⟨_,_,_,_,h,_⟩:=iV.1 h;exact h
def fN {α:Type} (A:RT α) (M:aM) (w:World):List α->List Value->Prop
 |[],C=>C=[]
 |x::xs,C=>∃vs rest,C=vs++rest/\A.R M w x vs/\fN A M w xs rest
theorem fN.le {α:Type} {A:RT α} {M M':aM} {w w':World} (hl:Le M w M' w'):∀{xs:List α} {C:List Value},fN A M w xs C->fN A M' w' xs C
 |[],_,h=>h
 |_::_,_,⟨vs,rest,h1,h2,h3⟩=>⟨vs,rest,h1,A.le hl h2,fN.le hl h3⟩
theorem fN.length {α:Type} {A:RT α} {M:aM} {w:World}:∀{xs:List α} {C:List Value},fN A M w xs C->C.length=xs.length*A.n
 |[],_,h=>by cases h;simp
 |x::xs,_,⟨vs,rest,h1,h2,h3⟩=>by subst h1;rw[List.length_append,A.len h2,fN.length h3,List.length_cons,Nat.add_mul];omega
theorem fN.one {α:Type} {A:RT α} {M:aM} {w:World}:∀{xs:List α} {C:List Value},fN A M w xs C->∀u∈C,u.oneCell'=true
 |[],_,h,u,hu=>by cases h;cases hu
 |x::xs,_,⟨vs,rest,h1,h2,h3⟩,u,hu=>by
  subst h1;rcases List.mem_append.1 hu with hu|hu
  ·exact A.one h2 u hu
  ·exact fN.one h3 u hu
theorem fN.append {α:Type} {A:RT α} {M:aM} {w:World} {ys:List α} {D:List Value} (hd:fN A M w ys D):∀{xs:List α} {C:List Value},fN A M w xs C->fN A M w (xs++ys) (C++D)
 |[],_,h=>by cases h;simpa using hd
 |_::_,_,⟨vs,rest,h1,h2,h3⟩=>⟨vs,rest++D,by subst h1;simp,h2,fN.append hd h3⟩
theorem fN.at_ {α:Type} {A:RT α} {M:aM} {w:World}:∀{xs:List α} {C:List Value},fN A M w xs C->∀i x,xs[i]? =some x->∃vs,A.R M w x vs/\∀j v,vs[j]? =some v->C[i*A.n+j]? =some v
 |[],_,_,i,x,hi=>by simp at hi
 |y::xs,_,⟨vs,rest,h1,h2,h3⟩,0,x,hi=>by
  simp at hi;subst hi;subst h1;refine ⟨vs,h2,λj v hv=> ?_⟩;have hj:j<vs.length:=(List.getElem?_eq_some_iff.1 hv).1;rw[Nat.zero_mul,Nat.zero_add,List.getElem?_append_left hj];exact hv
 |y::xs,_,⟨vs,rest,h1,h2,h3⟩,i+1,x,hi=>by
  subst h1;obtain⟨us,hu,hr⟩:=fN.at_ h3 i x ah6;refine ⟨us,hu,λj v hv=> ?_⟩;have:=hr j v hv;have hl:=A.len h2;rw[List.getElem?_append_right (by rw[hl,Nat.add_mul];omega),hl,Nat.add_mul];rw[show i*A.n+1*A.n+j-A.n=i*A.n+j from by omega];exact this
theorem vY.all {α:Type} {A:RT α} {M:aM} {w:World} {b o:Nat}:∀{xs:List α},(∀i x,xs[i]? =some x->∃vs,A.R M w x vs/\w.rangeAt b (o+i*A.n) vs)->
  ∃C,fN A M w xs C/\w.rangeAt b o C:=by
 intro xs
 induction xs generalizing o with
 |nil=>intro _;exact⟨[],rfl,λj v hv=>by simp at hv⟩
 |cons x xs ih=>
  intro h;obtain⟨vs,hv,hr⟩:=h 0 x rfl
  obtain⟨C,hC,hD⟩:=ih (o:=o+A.n) (λi y hi=>by
   obtain⟨us,hu,hs⟩:=h (i+1) y ah6;refine ⟨us,hu,?_⟩;rw[show o+A.n+i*A.n=o+(i+1)*A.n from by rw[Nat.add_mul];omega];exact hs)
  refine ⟨vs++C,⟨vs,C,G,hv,hC⟩,λj v hj=> ?_⟩;have hl:=A.len hv;rcases Nat.lt_or_ge j vs.length with eZ|tS
  ·rw[List.getElem?_append_left eZ]at hj;have:=hr j v hj;simpa using this
  ·rw[List.getElem?_append_right tS]at hj;have:=hD (j-vs.length) v hj;rw[show o+A.n+(j-vs.length)=o+j from by omega]at this;exact this
structure Own {α:Type} (A:RT α) (e:TypeId) (M:aM) (w:World) (base:Nat) (v:Value) (xs:List α):Prop where
 row:∃C,w.ownsRow base e A.n v xs.length C/\fN A M w xs C
 mut_:∀b,v.ownBlock=some b->M b
theorem Own.nil {α:Type} (A:RT α) (e:TypeId) (M:aM) (w:World) (base:Nat):Own A e M w base (.slice none 0 0) []:=
 ⟨⟨[],World.ownsRow_nil w base e A.n,rfl⟩,λb h=>by simp[Value.ownBlock]at h⟩
theorem Own.isSlice {α:Type} {A:RT α} {e:TypeId} {M:aM} {w:World} {base:Nat} {v:Value} {xs:List α} (h:Own A e M w base v xs):∃a cap,v= .slice a xs.length cap/\xs.length<=cap:=by
 obtain⟨⟨C,hr,_⟩,_⟩:=h;rcases hr.2 with⟨h1,h2⟩|⟨g,cap,cur,h1,_,_,h4,_⟩
 ·exact⟨none,0,by rw[h1,h2],by omega⟩
 ·exact⟨_,cap,h1,h4⟩
theorem Own.base {α:Type} {A:RT α} {e:TypeId} {M:aM} {w:World} {base:Nat} {v:Value} {xs:List α} (h:Own A e M w base v xs):∀b,v.ownBlock=some b->base<=b/\b<w.heap.size:=by
 obtain⟨⟨C,hr,_⟩,_⟩:=h;exact hr.lt
theorem Own.step {α:Type} {A:RT α} {e:TypeId} {M M' N:aM} {w w':World} {base:Nat} {v:Value} {xs:List α} (h:Own A e M w base v xs) (s:Step M w M' w' N)
  (hn:∀b,v.ownBlock=some b->¬N b):Own A e M' w' base v xs:=by
 obtain⟨⟨C,hr,ha⟩,hm⟩:=h;refine⟨⟨C,⟨hr.1,?_⟩,ha.le s.le⟩,λb hb=>(s.mem b (hr.lt b hb).2).2 (hm b hb)⟩;rcases hr.2 with h1|⟨g,cap,cur,h1,h2,h3,h4⟩
 ·exact .inl h1
 ·exact .inr ⟨g,cap,cur,h1,h2,s.bU h3 (hn g (by rw[h1];rfl)),h4⟩
theorem Own.bP {α:Type} {A:RT α} {e:TypeId} {M M':aM} {w w':World} {base:Nat} {v:Value} {xs:List α} (h:Own A e M w base v xs) (s:Step M w M' w' aC):Own A e M' w' base v xs:=h.step s λ_ _ h=>h
theorem Own.sl {α:Type} {A:RT α} {hn:0<A.n} {e:TypeId} {M:aM} {w:World} {base:Nat} {v:Value} {xs:List α} (h:Own A e M w base v xs) {M0:aM} (hle:Le M w M0 w)
  (hb:∀b,v.ownBlock=some b->¬M0 b) (hlen:xs.length<=140737488355328):(A.sl hn).V M0 w xs v:=by
 obtain⟨⟨C,hr,ha⟩,hm⟩:=h;rcases hr.2 with⟨h1,h2⟩|⟨g,cap,cur,h1,h2,h3,h4,h5,h6,h7⟩
 ·have:xs=[]:=List.eq_nil_of_length_eq_zero h2;subst this;subst h1;exact gZ
 ·subst h1;refine iV.2 ⟨_,cap,G,h4,hlen,.inr ⟨g,0,G,hb g G,λi x hi=>?_⟩⟩;obtain⟨vs,hv,hj⟩:=ha.at_ i x hi;refine ⟨vs,A.le hle hv,λj u hu=> ?_⟩;have h8:=hj j u hu;rw[<-h7,List.getElem?_take]at h8
  split at h8
  ·simp only[World.cell?,h3];simpa using h8
  ·cases h8
theorem Own.close {α:Type} {A:RT α} {hn:0<A.n} {e:TypeId} {M0 M N:aM} {w0 w:World} {v:Value} {xs:List α} (hl:Lt M0 w0) (s:Step M0 w0 M w N) (h:Own A e M w w0.heap.size v xs)
  (hlen:xs.length<=140737488355328):(A.sl hn).V M0 w xs v:=
 h.sl (Le.close hl s) (λb hb h0=>by have:=(h.base b hb).1;have:=hl b h0;omega) hlen
def TI (P:Program) (t:TypeId) (z:Value) (size bytes:Nat):Prop:=(P.info? t).map (λi=>(i.zero,i.size,i.bytes))=some (some z,size,bytes)
theorem TI.get {P:Program} {t:TypeId} {z:Value} {size bytes:Nat} (h:TI P t z size bytes):∃i,P.info? t=some i/\i.zero=some z/\i.size=size/\i.bytes=bytes:=by
 unfold TI at h
 cases hi:P.info? t with
 |none=>simp[hi]at h
 |some i=>simp[hi]at h;exact⟨i,G,h.1,h.2.1,h.2.2⟩
theorem TI.sizeOf {P:Program} {t:TypeId} {z:Value} {size bytes:Nat} (h:TI P t z size bytes) (w:World):(Go.sizeOf t).run P w= .ok size w:=by
 obtain⟨i,h1,h2,h3,h4⟩:=h.get;simp[Go.sizeOf,typeInfo,h1,h3]
end Go.K
namespace Go.K
theorem bS {M:aM} {w:World}:Le M w M w:=Le.refl M w
theorem aV {M:aM} {w:World}:Step M w M w aC:=Step.refl M w
section
variable {P:Program} {r:Option Nat} {n:Nat} {L:Sl} {ds:List Deferred} {w:World} {K:Kt} {ops:Array Oper} {rest:List Oper}
variable {d:Nat} {ty:TypeId} {pos:String} {af:Array Edge} {x y z:Operand}
theorem Rg.eqv {d:Nat} {v v':Value} (h:v=v') (k:Rg P r n ops rest ((d,v')::L) ds w K):Rg P r n ops rest ((d,v)::L) ds w K:=by subst h;exact k
theorem Rg.move {v:Value} (hx:ev L x=some v) (hd:Nat.blt d n=true) (k:Rg P r n ops rest ((d,v)::L) ds w K):
  Rg P r n ops ({dst:=some d,op:= .move x,type:=ty,pos,after:=af,guard:=none}::rest) L ds w K:=
 .op a05 rfl rfl hd v w (λρ h=>by simp only[execOp];rw[h x v hx];simp) k
theorem Rg.assign {v:Value} (hx:ev L x=some v) (hd:Nat.blt d n=true) (k:Rg P r n ops rest ((d,v)::L) ds w K):
  Rg P r n ops ({dst:=some d,op:= .assign x,type:=ty,pos,after:=af,guard:=none}::rest) L ds w K:=
 .op a05 rfl rfl hd v w (λρ h=>by simp only[execOp];rw[h x v hx];simp) k
theorem Rg.b7 {v:Value} (hx:ev L x=some (.bool true)) (hy:ev L y=some v) (hd:Nat.blt d n=true) (k:Rg P r n ops rest ((d,v)::L) ds w K):
  Rg P r n ops ({dst:=some d,op:= .pick x y z,type:=ty,pos,after:=af,guard:=none}::rest) L ds w K:=
 .op a05 rfl rfl hd v w (λρ h=>by simp only[execOp];rw[h x _ hx,h y v hy];simp[asBool]) k
theorem Rg.bH {v:Value} (hx:ev L x=some (.bool false)) (hz:ev L z=some v) (hd:Nat.blt d n=true) (k:Rg P r n ops rest ((d,v)::L) ds w K):
  Rg P r n ops ({dst:=some d,op:= .pick x y z,type:=ty,pos,after:=af,guard:=none}::rest) L ds w K:=
 .op a05 rfl rfl hd v w (λρ h=>by simp only[execOp];rw[h x _ hx,h z v hz];simp[asBool]) k
theorem Rg.not {b:Bool} {xt:TypeId} (hx:ev L x=some (.bool b)) (hd:Nat.blt d n=true) (k:Rg P r n ops rest ((d,.bool (!b))::L) ds w K):
  Rg P r n ops ({dst:=some d,op:= .unOp .not xt x,type:=ty,pos,after:=af,guard:=none}::rest) L ds w K:=
 .op a05 rfl rfl hd _ w (λρ h=>by simp only[execOp];rw[h x _ hx];simp[Op.unary]) k
theorem Th {op:BinOp} {k:IntKind} {p q:Int} {t:TypeId} {x y:Operand} {v:Value} {s:Sem Value} (hs:binOp op t (.int k p) (.int k q)=s) (hr:s.run P w= .ok v w):
  Sem.run P (do eqGuard op t x y (.int k p) (.int k q);binOp op t (.int k p) (.int k q)) w= .ok v w:=by
 rw[hs];have:(eqGuard op t x y (.int k p) (.int k q)).run P w= .ok () w:=by unfold eqGuard;cases op<;>simp
 simp[Sem.run_bind,this,hr]
theorem Rg.bin {op:BinOp} {t t':TypeId} {k:IntKind} {p q:Int} {v:Value} (hx:ev L x=some (.int k p)) (hy:ev L y=some (.int k q)) (hd:Nat.blt d n=true)
  (hr:(binOp op t (.int k p) (.int k q)).run P w= .ok v w) (kk:Rg P r n ops rest ((d,v)::L) ds w K):
  Rg P r n ops ({dst:=some d,op:= .binOp op t x y t',type:=ty,pos,after:=af,guard:=none}::rest) L ds w K:=
 .op a05 rfl rfl hd v w (λρ h=>by
  simp only[execOp];rw[h x _ hx,h y _ hy,Sem.run_bind,Th rfl hr];simp) kk
theorem Rg.cT {t t':TypeId} {p q:Int} (hx:ev L x=some (.int .i64 p)) (hy:ev L y=some (.int .i64 q)) (hd:Nat.blt d n=true)
  (hb: -9223372036854775808<=p+q/\p+q<=9223372036854775807) (k:Rg P r n ops rest ((d,.int .i64 (p+q))::L) ds w K):
  Rg P r n ops ({dst:=some d,op:= .binOp .add t x y t',type:=ty,pos,after:=af,guard:=none}::rest) L ds w K:=
 .bin hx hy hd ai7 k
theorem Rg.me {t t':TypeId} {p q:Int} (hx:ev L x=some (.int .i64 p)) (hy:ev L y=some (.int .i64 q)) (hd:Nat.blt d n=true)
  (hb: -9223372036854775808<=p-q/\p-q<=9223372036854775807) (k:Rg P r n ops rest ((d,.int .i64 (p-q))::L) ds w K):
  Rg P r n ops ({dst:=some d,op:= .binOp .sub t x y t',type:=ty,pos,after:=af,guard:=none}::rest) L ds w K:=
 .bin hx hy hd ai7 k
theorem Rg.Xm {t t':TypeId} {p q:Int} (hx:ev L x=some (.int .i64 p)) (hy:ev L y=some (.int .i64 q)) (hd:Nat.blt d n=true)
  (hb: -9223372036854775808<=p*q/\p*q<=9223372036854775807) (k:Rg P r n ops rest ((d,.int .i64 (p*q))::L) ds w K):
  Rg P r n ops ({dst:=some d,op:= .binOp .mul t x y t',type:=ty,pos,after:=af,guard:=none}::rest) L ds w K:=
 .bin hx hy hd ai7 k
theorem Rg.y4 {t t':TypeId} {κ:IntKind} {p q:Int} (hx:ev L x=some (.int κ p)) (hy:ev L y=some (.int κ q)) (hd:Nat.blt d n=true)
  (k:Rg P r n ops rest ((d,.int κ (κ.wrap (p+q)))::L) ds w K):
  Rg P r n ops ({dst:=some d,op:= .binOp .add t x y t',type:=ty,pos,after:=af,guard:=none}::rest) L ds w K:= .bin hx hy hd (by simp[binOp,Op.intArith]) k
theorem Rg.Xn {t t':TypeId} {κ:IntKind} {p q:Int} (hx:ev L x=some (.int κ p)) (hy:ev L y=some (.int κ q)) (hd:Nat.blt d n=true)
  (k:Rg P r n ops rest ((d,.int κ (κ.wrap (p-q)))::L) ds w K):
  Rg P r n ops ({dst:=some d,op:= .binOp .sub t x y t',type:=ty,pos,after:=af,guard:=none}::rest) L ds w K:= .bin hx hy hd (by simp[binOp,Op.intArith]) k
theorem Rg.aiX {t t':TypeId} {κ:IntKind} {p q:Int} (hx:ev L x=some (.int κ p)) (hy:ev L y=some (.int κ q)) (hd:Nat.blt d n=true)
  (k:Rg P r n ops rest ((d,.int κ (κ.wrap (p*q)))::L) ds w K):
  Rg P r n ops ({dst:=some d,op:= .binOp .mul t x y t',type:=ty,pos,after:=af,guard:=none}::rest) L ds w K:= .bin hx hy hd (by simp[binOp,Op.intArith]) k
theorem Rg.yq {t t':TypeId} {p q:Int} (hx:ev L x=some (.int .i64 p)) (hy:ev L y=some (.int .i64 q)) (hd:Nat.blt d n=true)
  (hb:0<=p/\p<=9223372036854775807/\1<=q) (k:Rg P r n ops rest ((d,.int .i64 (p/q))::L) ds w K):
  Rg P r n ops ({dst:=some d,op:= .binOp .quo t x y t',type:=ty,pos,after:=af,guard:=none}::rest) L ds w K:=
 .bin hx hy hd (by simp[binOp,Op.intDiv,show q≠0 from by omega,IntWalk.i64_quo p q hb]) k
theorem Rg.vZ {t t':TypeId} {κ:IntKind} {p q:Int} (hx:ev L x=some (.int κ p)) (hy:ev L y=some (.int κ q)) (hd:Nat.blt d n=true)
  (hb:0<=p/\1<=q) (k:Rg P r n ops rest ((d,.int κ (p%q))::L) ds w K):
  Rg P r n ops ({dst:=some d,op:= .binOp .rem t x y t',type:=ty,pos,after:=af,guard:=none}::rest) L ds w K:=
 .bin hx hy hd (by simp[binOp,Op.intDiv,show q≠0 from by omega,IntWalk.rem_in p q hb.1]) k
theorem Rg.neg {xt:TypeId} {p:Int} (hx:ev L x=some (.int .i64 p)) (hd:Nat.blt d n=true) (hb: -9223372036854775808<= -p/\ -p<=9223372036854775807)
  (k:Rg P r n ops rest ((d,.int .i64 (-p))::L) ds w K):
  Rg P r n ops ({dst:=some d,op:= .unOp .neg xt x,type:=ty,pos,after:=af,guard:=none}::rest) L ds w K:=
 .op a05 rfl rfl hd _ w (λρ h=>by simp only[execOp];rw[h x _ hx];simp[Op.unary,Op.intArith,IntWalk.i64_in _ hb]) k
theorem Rg.shr {t t':TypeId} {κ κ':IntKind} {p q:Int} (hx:ev L x=some (.int κ p)) (hy:ev L y=some (.int κ' q)) (hd:Nat.blt d n=true) (hq:0<=q)
  (k:Rg P r n ops rest ((d,.int κ (p.fdiv (2^min q.toNat κ.bits)))::L) ds w K):
  Rg P r n ops ({dst:=some d,op:= .binOp .shr t x y t',type:=ty,pos,after:=af,guard:=none}::rest) L ds w K:=
 .op a05 rfl rfl hd _ w (λρ h=>by
  simp only[execOp];rw[h x _ hx,h y _ hy];simp[eqGuard,binOp,Op.shift,show¬q<0 from by omega]) k
theorem Rg.shl {t t':TypeId} {κ κ':IntKind} {p q:Int} (hx:ev L x=some (.int κ p)) (hy:ev L y=some (.int κ' q)) (hd:Nat.blt d n=true) (hq:0<=q)
  (k:Rg P r n ops rest ((d,.int κ (κ.wrap (p*2^min q.toNat κ.bits)))::L) ds w K):
  Rg P r n ops ({dst:=some d,op:= .binOp .shl t x y t',type:=ty,pos,after:=af,guard:=none}::rest) L ds w K:=
 .op a05 rfl rfl hd _ w (λρ h=>by
  simp only[execOp];rw[h x _ hx,h y _ hy];simp[eqGuard,binOp,Op.shift,show¬q<0 from by omega]) k
theorem Rg.and {t t':TypeId} {κ:IntKind} {p q:Int} (hx:ev L x=some (.int κ p)) (hy:ev L y=some (.int κ q)) (hd:Nat.blt d n=true)
  (k:Rg P r n ops rest ((d,.int κ (κ.wrap (BitVec.ofInt κ.bits p&&&BitVec.ofInt κ.bits q).toNat))::L) ds w K):
  Rg P r n ops ({dst:=some d,op:= .binOp .and t x y t',type:=ty,pos,after:=af,guard:=none}::rest) L ds w K:= .bin hx hy hd (by simp[binOp,Op.intBits]) k
theorem Rg.or {t t':TypeId} {κ:IntKind} {p q:Int} (hx:ev L x=some (.int κ p)) (hy:ev L y=some (.int κ q)) (hd:Nat.blt d n=true)
  (k:Rg P r n ops rest ((d,.int κ (κ.wrap (BitVec.ofInt κ.bits p|||BitVec.ofInt κ.bits q).toNat))::L) ds w K):
  Rg P r n ops ({dst:=some d,op:= .binOp .or t x y t',type:=ty,pos,after:=af,guard:=none}::rest) L ds w K:= .bin hx hy hd (by simp[binOp,Op.intBits]) k
theorem Rg.xor {t t':TypeId} {κ:IntKind} {p q:Int} (hx:ev L x=some (.int κ p)) (hy:ev L y=some (.int κ q)) (hd:Nat.blt d n=true)
  (k:Rg P r n ops rest ((d,.int κ (κ.wrap (BitVec.ofInt κ.bits p^^^BitVec.ofInt κ.bits q).toNat))::L) ds w K):
  Rg P r n ops ({dst:=some d,op:= .binOp .xor t x y t',type:=ty,pos,after:=af,guard:=none}::rest) L ds w K:= .bin hx hy hd (by simp[binOp,Op.intBits]) k
theorem Rg.andNot {t t':TypeId} {κ:IntKind} {p q:Int} (hx:ev L x=some (.int κ p)) (hy:ev L y=some (.int κ q)) (hd:Nat.blt d n=true)
  (k:Rg P r n ops rest ((d,.int κ (κ.wrap (BitVec.ofInt κ.bits p&&& ~~~ BitVec.ofInt κ.bits q).toNat))::L) ds w K):
  Rg P r n ops ({dst:=some d,op:= .binOp .andNot t x y t',type:=ty,pos,after:=af,guard:=none}::rest) L ds w K:= .bin hx hy hd (by simp[binOp,Op.intBits]) k
theorem Rg.mZ {t t':TypeId} {κ:IntKind} {p q:Int} (hx:ev L x=some (.int κ p)) (hy:ev L y=some (.int κ q)) (hd:Nat.blt d n=true)
  (k:Rg P r n ops rest ((d,.bool (decide (p=q)))::L) ds w K):
  Rg P r n ops ({dst:=some d,op:= .binOp .eql t x y t',type:=ty,pos,after:=af,guard:=none}::rest) L ds w K:=
 .bin hx hy hd (by simp[binOp,Op.intCmp];rfl) k
theorem Rg.nc {t t':TypeId} {κ:IntKind} {p q:Int} (hx:ev L x=some (.int κ p)) (hy:ev L y=some (.int κ q)) (hd:Nat.blt d n=true)
  (k:Rg P r n ops rest ((d,.bool (decide (p≠q)))::L) ds w K):
  Rg P r n ops ({dst:=some d,op:= .binOp .neq t x y t',type:=ty,pos,after:=af,guard:=none}::rest) L ds w K:=
 .bin hx hy hd (by simp[binOp,Op.intCmp];by_cases h:p=q<;>simp[h]) k
theorem Rg.fT {t t':TypeId} {κ:IntKind} {p q:Int} (hx:ev L x=some (.int κ p)) (hy:ev L y=some (.int κ q)) (hd:Nat.blt d n=true)
  (k:Rg P r n ops rest ((d,.bool (decide (p<q)))::L) ds w K):
  Rg P r n ops ({dst:=some d,op:= .binOp .lss t x y t',type:=ty,pos,after:=af,guard:=none}::rest) L ds w K:= .bin hx hy hd (by simp[binOp,Op.intCmp]) k
theorem Rg.oQ {t t':TypeId} {κ:IntKind} {p q:Int} (hx:ev L x=some (.int κ p)) (hy:ev L y=some (.int κ q)) (hd:Nat.blt d n=true)
  (k:Rg P r n ops rest ((d,.bool (decide (p<=q)))::L) ds w K):
  Rg P r n ops ({dst:=some d,op:= .binOp .leq t x y t',type:=ty,pos,after:=af,guard:=none}::rest) L ds w K:= .bin hx hy hd (by simp[binOp,Op.intCmp]) k
theorem Rg.lR {t t':TypeId} {κ:IntKind} {p q:Int} (hx:ev L x=some (.int κ p)) (hy:ev L y=some (.int κ q)) (hd:Nat.blt d n=true)
  (k:Rg P r n ops rest ((d,.bool (decide (q<p)))::L) ds w K):
  Rg P r n ops ({dst:=some d,op:= .binOp .gtr t x y t',type:=ty,pos,after:=af,guard:=none}::rest) L ds w K:= .bin hx hy hd (by simp[binOp,Op.intCmp]) k
theorem Rg.k4 {t t':TypeId} {κ:IntKind} {p q:Int} (hx:ev L x=some (.int κ p)) (hy:ev L y=some (.int κ q)) (hd:Nat.blt d n=true)
  (k:Rg P r n ops rest ((d,.bool (decide (q<=p)))::L) ds w K):
  Rg P r n ops ({dst:=some d,op:= .binOp .geq t x y t',type:=ty,pos,after:=af,guard:=none}::rest) L ds w K:= .bin hx hy hd (by simp[binOp,Op.intCmp]) k
theorem Rg.beq {t t':TypeId} {p q:Bool} (ht:P.underlying t=some .bool) (hx:ev L x=some (.bool p)) (hy:ev L y=some (.bool q)) (hd:Nat.blt d n=true)
  (k:Rg P r n ops rest ((d,.bool (decide (p=q)))::L) ds w K):
  Rg P r n ops ({dst:=some d,op:= .binOp .eql t x y t',type:=ty,pos,after:=af,guard:=none}::rest) L ds w K:=
 .op a05 rfl rfl hd _ w (λρ h=>by
  have h1:=run_eql_bool (P:=P) w t p q ht;have h2:(p==q)=decide (p=q):=by cases p<;>cases q<;>rfl
  rw[h2]at h1;simp only[execOp];rw[h x _ hx,h y _ hy,Sem.run_bind,Sem.run_bind];simp[eqGuard,h1]) k
theorem Rg.bne {t t':TypeId} {p q:Bool} (ht:P.underlying t=some .bool) (hx:ev L x=some (.bool p)) (hy:ev L y=some (.bool q)) (hd:Nat.blt d n=true)
  (k:Rg P r n ops rest ((d,.bool (decide (p≠q)))::L) ds w K):
  Rg P r n ops ({dst:=some d,op:= .binOp .neq t x y t',type:=ty,pos,after:=af,guard:=none}::rest) L ds w K:=
 .op a05 rfl rfl hd _ w (λρ h=>by
  have h1:=run_neq_bool (P:=P) w t p q ht;have h2:(!(p==q))=decide (p≠q):=by cases p<;>cases q<;>rfl
  rw[h2]at h1;simp only[execOp];rw[h x _ hx,h y _ hy,Sem.run_bind,Sem.run_bind];simp[eqGuard,h1]) k
theorem Rg.conv {s t:TypeId} {κ κ':IntKind} {p:Int} {u:TypeDesc} (hs:P.underlying s=some u) (ht:P.underlying t=some (.int κ')) (hx:ev L x=some (.int κ p)) (hd:Nat.blt d n=true)
  (k:Rg P r n ops rest ((d,.int κ' (κ'.wrap p))::L) ds w K):
  Rg P r n ops ({dst:=some d,op:= .convert s t x,type:=ty,pos,after:=af,guard:=none}::rest) L ds w K:=
 .op a05 rfl rfl hd _ w (λρ h=>by
  simp only[execOp];rw[h x _ hx];simp[convert,run_underlying hs,run_underlying ht,Conv.intToInt]) k
theorem Rg.wa {s t:TypeId} {κ:IntKind} {p:Int} {u:TypeDesc} (hs:P.underlying s=some u) (ht:P.underlying t=some (.int .i64)) (hx:ev L x=some (.int κ p)) (hd:Nat.blt d n=true)
  (hb: -9223372036854775808<=p/\p<=9223372036854775807) (k:Rg P r n ops rest ((d,.int .i64 p)::L) ds w K):
  Rg P r n ops ({dst:=some d,op:= .convert s t x,type:=ty,pos,after:=af,guard:=none}::rest) L ds w K:=
 .conv hs ht hx hd (by rw[IntWalk.i64_in _ hb];exact k)
theorem Rg.min2 {K5:Array TypeId} {κ κ':IntKind} {p q:Int} (hx:ev L x=some (.int κ p)) (hy:ev L y=some (.int κ' q)) (hd:Nat.blt d n=true)
  (k:Rg P r n ops rest ((d,.int κ (min p q))::L) ds w K):
  Rg P r n ops ({dst:=some d,op:= .call {callee:= .builtin .min,args:= #[x,y],argTypes:=K5},type:=ty,pos,after:=af,guard:=none}::rest) L ds w K:=
 .op a05 rfl rfl hd _ w (λρ h=>by
  simp only[execOp,resolve,List.map_toArray,List.map_cons,List.map_nil,h x _ hx,h y _ hy];simp[invoke,builtin,Builtin.min_,Builtin.min2];rw[Int.min_def];split<;>split<;>omega) k
theorem Rg.max2 {K5:Array TypeId} {κ κ':IntKind} {p q:Int} (hx:ev L x=some (.int κ p)) (hy:ev L y=some (.int κ' q)) (hd:Nat.blt d n=true)
  (k:Rg P r n ops rest ((d,.int κ (max p q))::L) ds w K):
  Rg P r n ops ({dst:=some d,op:= .call {callee:= .builtin .max,args:= #[x,y],argTypes:=K5},type:=ty,pos,after:=af,guard:=none}::rest) L ds w K:=
 .op a05 rfl rfl hd _ w (λρ h=>by
  simp only[execOp,resolve,List.map_toArray,List.map_cons,List.map_nil,h x _ hx,h y _ hy];simp[invoke,builtin,Builtin.max_,Builtin.max2];rw[Int.max_def];split<;>split<;>omega) k
theorem Rg.extract {vs:Array Value} {i:Nat} {v:Value} (hx:ev L x=some (.tuple vs)) (hv:vs[i]? =some v) (hd:Nat.blt d n=true) (k:Rg P r n ops rest ((d,v)::L) ds w K):
  Rg P r n ops ({dst:=some d,op:= .extract x i,type:=ty,pos,after:=af,guard:=none}::rest) L ds w K:=
 .op a05 rfl rfl hd v w (λρ h=>by simp only[execOp];rw[h x _ hx];simp[Instr.extract,hv]) k
theorem Rg.cy {t e:TypeId} {α:Type} {A:RT α} {hn:0<A.n} {M:aM} {w1:World} {xs:List α} {v:Value} (ht:P.underlying t=some (.slice e)) (hx:ev L x=some v) (hv:(A.sl hn).V M w1 xs v) (hd:Nat.blt d n=true)
  (k:Rg P r n ops rest ((d,.int .i64 xs.length)::L) ds w K):
  Rg P r n ops ({dst:=some d,op:= .call {callee:= .builtin .len,args:= #[x],argTypes:= #[t]},type:=ty,pos,after:=af,guard:=none}::rest) L ds w K:=by
 obtain⟨a,cap,rfl,_⟩:=iV.1 hv
 exact .op a05 G G hd _ w (λρ h=>by
  simp only[execOp,resolve,List.map_toArray,List.map_cons,List.map_nil,h x _ hx];simp[invoke,builtin,Builtin.len_,run_underlying ht,goInt]) k
theorem Rg.je {t e e':TypeId} {α:Type} {A:RT α} {M:aM} {w1:World} {base:Nat} {xs:List α} {v:Value} (ht:P.underlying t=some (.slice e)) (hx:ev L x=some v) (hv:Own A e' M w1 base v xs) (hd:Nat.blt d n=true)
  (k:Rg P r n ops rest ((d,.int .i64 xs.length)::L) ds w K):
  Rg P r n ops ({dst:=some d,op:= .call {callee:= .builtin .len,args:= #[x],argTypes:= #[t]},type:=ty,pos,after:=af,guard:=none}::rest) L ds w K:=by
 obtain⟨a,cap,rfl,_⟩:=hv.isSlice
 exact .op a05 G G hd _ w (λρ h=>by
  simp only[execOp,resolve,List.map_toArray,List.map_cons,List.map_nil,h x _ hx];simp[invoke,builtin,Builtin.len_,run_underlying ht,goInt]) k
theorem Rg.lF {t:TypeId} {s:ByteArray} (ht:P.underlying t=some .string) (hx:ev L x=some (.string s)) (hd:Nat.blt d n=true)
  (k:Rg P r n ops rest ((d,.int .i64 s.size)::L) ds w K):
  Rg P r n ops ({dst:=some d,op:= .call {callee:= .builtin .len,args:= #[x],argTypes:= #[t]},type:=ty,pos,after:=af,guard:=none}::rest) L ds w K:=
 .op a05 rfl rfl hd _ w (λρ h=>by
  simp only[execOp,resolve,List.map_toArray,List.map_cons,List.map_nil,h x _ hx];simp[invoke,builtin,Builtin.len_,run_underlying ht,goInt]) k
theorem ko (l:List UInt8):(⟨l.toArray⟩:ByteArray).toList=l:=by
 have key:∀(k i:Nat) (acc:List UInt8),i<=l.length->l.length-i=k->ByteArray.toList.loop ⟨l.toArray⟩ i acc=acc.reverse++l.drop i:=by
  intro k
  induction k with
  |zero=>
   intro i acc hi hk;unfold ByteArray.toList.loop;rw[if_neg (by simp[ByteArray.size];omega),List.drop_eq_nil_of_le q0];simp
  |succ k ih=>
   intro i acc hi hk;unfold ByteArray.toList.loop;rw[if_pos (by simp[ByteArray.size];omega),ih (i+1) _ q0 q0];have eZ:i<l.length:=by omega
   rw[List.drop_eq_getElem_cons eZ];simp[ByteArray.get!,getElem!_pos,eZ]
 have:=key l.length 0 [] (Nat.zero_le _) q0;simpa[ByteArray.toList]using this
theorem Rg.cat {t t':TypeId} {p q:List UInt8} (hx:ev L x=some (.string ⟨p.toArray⟩)) (hy:ev L y=some (.string ⟨q.toArray⟩)) (hd:Nat.blt d n=true) (hb:p.length+q.length<=9223372036854775807)
  (k:Rg P r n ops rest ((d,.string ⟨(p++q).toArray⟩)::L) ds w K):
  Rg P r n ops ({dst:=some d,op:= .binOp .add t x y t',type:=ty,pos,after:=af,guard:=none}::rest) L ds w K:=by
 have e:(⟨p.toArray⟩:ByteArray)++⟨q.toArray⟩=⟨(p++q).toArray⟩:=by apply ByteArray.ext;simp
 refine .op a05 G G hd _ w (λρ h=>?_) k;simp only[execOp];rw[h x _ hx,h y _ hy];have: ¬(IntKind.max .i64<((ByteArray.size ⟨p.toArray⟩+ByteArray.size ⟨q.toArray⟩:Nat):Int)):=by simp[ByteArray.size,IntKind.max,IntKind.signed,IntKind.bits];omega
 simp[eqGuard,binOp,Op.stringOp,this,e];simp[ByteArray.size];omega
theorem Rg.tT {t t':TypeId} {p q:List UInt8} (hx:ev L x=some (.string ⟨p.toArray⟩)) (hy:ev L y=some (.string ⟨q.toArray⟩)) (hd:Nat.blt d n=true)
  (k:Rg P r n ops rest ((d,.bool (decide (p=q)))::L) ds w K):
  Rg P r n ops ({dst:=some d,op:= .binOp .eql t x y t',type:=ty,pos,after:=af,guard:=none}::rest) L ds w K:=
 .op a05 rfl rfl hd _ w (λρ h=>by
  simp only[execOp];rw[h x _ hx,h y _ hy];simp[eqGuard,binOp,Op.stringOp,ko];by_cases h:p=q<;>simp[h]) k
theorem Rg.EM {t t':TypeId} {p q:List UInt8} (hx:ev L x=some (.string ⟨p.toArray⟩)) (hy:ev L y=some (.string ⟨q.toArray⟩)) (hd:Nat.blt d n=true)
  (k:Rg P r n ops rest ((d,.bool (decide (p≠q)))::L) ds w K):
  Rg P r n ops ({dst:=some d,op:= .binOp .neq t x y t',type:=ty,pos,after:=af,guard:=none}::rest) L ds w K:=
 .op a05 rfl rfl hd _ w (λρ h=>by
  simp only[execOp];rw[h x _ hx,h y _ hy];simp[eqGuard,binOp,Op.stringOp,ko];by_cases h:p=q<;>simp[h]) k
def Ti (L:Sl):List Operand->Option (List Value)
 |[]=>some []
 |x::xs=>match ev L x,Ti L xs with
  |some v,some vs=>some (v::vs)
  |_,_=>none
theorem rq {L:Sl} {ρ:Operand->Value} (h:∀x u,ev L x=some u->ρ x=u):∀{xs:List Operand} {vs:List Value},Ti L xs=some vs->xs.map ρ=vs
 |[],vs,he=>by simp only[Ti]at he;cases he;rfl
 |x::xs,vs,he=>by
  simp only[Ti]at he
  split at he
  ·rename_i v us h1 h2
   cases he;simp[h x v h1,rq h h2]
  ·cases he
def Enters (P:Program) (f:FuncId):Prop:=∀args w,(callFunc f args).run P w= .ok (.enter f args) w
theorem enters {f:FuncId} {fn:Func} (hf:P.funcs[f]? =some fn) (hb:fn.body.isNone=false) (hn:(fn.name== "runtime.NumGoroutine")=false):Enters P f:=λargs w=>by
 unfold callFunc;simp only[Sem.run_bind,program,Sem.run,Result.andThen,hf,hn];simp[hb]
theorem Rg.call {f:FuncId} {xs:List Operand} {vs:List Value} {K5:Array TypeId} {Q:Value->World->Prop} (lN:Ti L xs=some vs) (hd:Nat.blt d n=true) (he:Enters P f)
  (hs:Spec P f vs.toArray w Q) (k:∀v w',Q v w'→Rg P r n ops rest ((d,v)::L) ds w' K):
  Rg P r n ops ({dst:=some d,op:= .call {callee:= .value (.func f),args:=xs.toArray,argTypes:=K5},type:=ty,pos,after:=af,guard:=none}::rest) L ds w K:=
 .NP (w1:=w) a05 rfl rfl hd (λρ h=>by
  have h1:=rq h lN;have h2:ρ (.func f)= .func (.func f) #[] #[]:=h _ _ rfl;simp only[execOp,resolve,List.map_toArray,h1,h2];simpa[Deferred.ofValue,invoke]using he _ _) hs k
theorem Rg.mg {f:FuncId} {first captured:List Value} {xs:List Operand} {vs:List Value} {K5:Array TypeId} {Q:Value->World->Prop} (hx:ev L x=some (.func (.func f) first.toArray captured.toArray))
  (lN:Ti L xs=some vs) (hd:Nat.blt d n=true) (he:Enters P f)
  (hs:Spec P f (first++vs++captured).toArray w Q) (k:∀v w',Q v w'→Rg P r n ops rest ((d,v)::L) ds w' K):
  Rg P r n ops ({dst:=some d,op:= .call {callee:= .value x,args:=xs.toArray,argTypes:=K5},type:=ty,pos,after:=af,guard:=none}::rest) L ds w K:=
 .NP (w1:=w) a05 rfl rfl hd (λρ h=>by
  have h1:=rq h lN;simp only[execOp,resolve,List.map_toArray,h1,h x _ hx];simpa[Deferred.ofValue,invoke]using he _ _) hs k
theorem Rg.makeFunc {f:FuncId} {xs ys:List Operand} {vs us:List Value} (lN:Ti L xs=some vs) (Ew:Ti L ys=some us) (hd:Nat.blt d n=true)
  (k:Rg P r n ops rest ((d,.func (.func f) vs.toArray us.toArray)::L) ds w K):
  Rg P r n ops ({dst:=some d,op:= .makeFunc (.func f) xs.toArray ys.toArray,type:=ty,pos,after:=af,guard:=none}::rest) L ds w K:=
 .op a05 rfl rfl hd _ w (λρ h=>by
  simp only[execOp,List.map_toArray,rq h lN,rq h Ew];simp[Instr.makeFunc]) k
end
theorem Rg.aZ {P:Program} {r:Option Nat} {n:Nat} {L:Sl} {ds:List Deferred} {w:World} {K:Kt} {ops:Array Oper} {d:Nat} {x:Operand} {ty:TypeId} {pos:String} {af:Array Edge} {v:Value} (hx:ev L x=some v) (hd:Nat.blt d n=true) (h:K .normal ((d,v)::L) ds w):Rg P r n ops [{dst:=some d,op:= .assign x,type:=ty,pos,after:=af,guard:=none}] L ds w K:=Rg.assign hx hd (Rg.nil h)
def cO {α:Type} (A:RT α) (M:aM) (w:World) (v:Value) (x:α):Prop:=∃b o vs,v= .pointer (some ⟨b,o,none⟩)/\¬M b/\A.R M w x vs/\w.rangeAt b o vs
theorem cO.le {α:Type} {A:RT α} (hn:0<A.n) {M M':aM} {w w':World} {v:Value} {x:α} (hl:Le M w M' w') (h:cO A M w v x):cO A M' w' v x:=by
 obtain⟨b,o,vs,h1,h2,h3,h4⟩:=h;have hp:0<vs.length:=by rw[A.len h3];exact hn
 have hc:=h4 0 (vs[0]'hp) (List.getElem?_eq_getElem hp);exact⟨b,o,vs,h1,(hl b (World.block_lt_of_cell? w _ hc) h2).1,A.le hl h3,sM hl h2 h4⟩
structure Part {α β:Type} (A:RT α) (B:RT β) (f:α->β) (off:Nat):Prop where
 get:∀{M w x vs},A.R M w x vs->∃a b c,vs=a++b++c/\a.length=off/\B.R M w (f x) b
theorem Part.fst {α β:Type} (A:RT α) (B:RT β):Part (A.pair B) A Prod.fst 0:=⟨λ{_ _ _ _} ⟨va,vb,h0,h1,_⟩=>⟨[],va,vb,by simpa using h0,rfl,h1⟩⟩
theorem Part.snd {α β:Type} (A:RT α) (B:RT β):Part (A.pair B) B Prod.snd A.n:=⟨λ{_ _ _ _} ⟨va,vb,h0,h1,h2⟩=>⟨va,vb,[],by simpa using h0,A.len h1,h2⟩⟩
theorem Part.trans {α β γ:Type} {A:RT α} {B:RT β} {C:RT γ} {f:α->β} {g:β->γ} {i j:Nat} (h:Part A B f i) (h':Part B C g j):Part A C (g∘f) (i+j):=
 ⟨λ{_ _ _ _} hx=>by
  obtain⟨a,b,c,h1,h2,h3⟩:=h.get hx;obtain⟨a',b',c',h4,h5,h6⟩:=h'.get h3;exact⟨a++a',b',c'++c,by rw[h1,h4];simp,by rw[List.length_append,h2,h5],h6⟩⟩
theorem Part.Xk {α β γ:Type} {A:RT α} {B:RT γ} {f:α->γ} {i:Nat} (g:β->α) (h:Part A B f i):Part (A.Xk g) B (f∘g) i:=⟨λ{_ _ _ _} hx=>h.get hx⟩
theorem cO.part {α β:Type} {A:RT α} {B:RT β} {f:α->β} {off:Nat} (hp:Part A B f off) {M:aM} {w:World} {b o:Nat} {x:α} {vs:List Value} (hm: ¬M b) (hx:A.R M w x vs) (hr:w.rangeAt b o vs):
  cO B M w (.pointer (some ⟨b,o+off,none⟩)) (f x):=by
 obtain⟨a,c,e,h1,h2,h3⟩:=hp.get hx;refine ⟨b,o+off,c,G,hm,h3,λj v hv=> ?_⟩;have hj:j<c.length:=(List.getElem?_eq_some_iff.1 hv).1
 have:=hr (off+j) v (by
  rw[h1,List.append_assoc,List.getElem?_append_right q0,h2,List.getElem?_append_left q0];rw[show off+j-off=j from by omega];exact hv)
 rwa [show o+(off+j)=o+off+j from by omega]at this
def flat:TypeDesc->Bool
 |.struct _| .array _ _=>false
 |_=>true
theorem oU {P:Program} {w:World} {t:TypeId} {u:TypeDesc} (hu:P.underlying t=some u) (hf:flat u=true) {b o:Nat} {v:Value} (hc:w.cell? ⟨b,o,none⟩=some v):
  (Instr.loadAt t (.pointer (some ⟨b,o,none⟩))).run P w= .ok v w:=by
 have HC:(isAgg t).run P w= .ok false w:=by
  unfold isAgg;rw[Sem.run_bind,run_underlying hu w]
  cases u<;>simp_all [flat,Result.andThen]
 simp[Instr.loadAt,Instr.sureAddr,loadVar,HC,load,Sem.run,hc]
theorem rU {P:Program} {w:World} {t:TypeId} {z:Value} {bytes:Nat} (ht:TI P t z 1 bytes) {b o:Nat} {v:Value} (h1:v.oneCell'=true) (hc:(w.cell? ⟨b,o,none⟩).isSome=true) (hf:w.frozen? ⟨b,o,none⟩=false):
  (Instr.storeAt t (.pointer (some ⟨b,o,none⟩)) v).run P w= .ok () (w.setCell ⟨b,o,none⟩ v):=by
 obtain⟨u,hu⟩:=Option.isSome_iff_exists.1 hc;have hv:v.cells= #[v]:=by cases v<;>simp_all [Value.oneCell',Value.cells]
 simp only[Instr.storeAt,Instr.sureAddr,storeVar,Sem.run_bind,Sem.run_pure,Result.andThen_ok,ht.sizeOf,hv];simp only[List.size_toArray,List.length_cons,List.length_nil,ne_eq,not_true_eq_false,if_false,storeCells,Addr.add_mid]
 cases v<;>simp_all [store,Sem.run,Value.oneCell']
section
variable {P:Program} {r:Option Nat} {n:Nat} {L:Sl} {ds:List Deferred} {w:World} {K:Kt} {ops:Array Oper} {rest:List Oper}
variable {d:Nat} {ty:TypeId} {pos:String} {af:Array Edge} {x y z:Operand} {α:Type} {A:RT α}
theorem Rg.idx {t e:TypeId} {i:Operand} {κ:IntKind} {j:Int} {hn:0<A.n} {M M1:aM} {w1:World} {xs:List α} {v zv:Value} {bytes:Nat} (ht:P.underlying t=some (.slice e)) (hi:TI P e zv A.n bytes)
  (hx:ev L x=some v) (EN:ev L i=some (.int κ j)) (hd:Nat.blt d n=true) (hv:(A.sl hn).V M1 w1 xs v) (hle:Le M1 w1 M w) (hj:0<=j/\j<xs.length)
  (k:∀u a,xs[j.toNat]? =some a->cO A M w u a->Rg P r n ops rest ((d,u)::L) ds w K):
  Rg P r n ops ({dst:=some d,op:= .indexAddr t x i,type:=ty,pos,after:=af,guard:=none}::rest) L ds w K:=by
 obtain⟨a,cap,rfl,hc,hl,hs⟩:=iV.1 (hv.le hle);have eZ:j.toNat<xs.length:=by omega
 rcases hs with rfl|⟨b,o,rfl,hm,De⟩
 ·simp at eZ
 ·obtain⟨vs,h1,h2⟩:=De _ _ (List.getElem?_eq_getElem eZ);refine .op a05 G G hd (.pointer (some ⟨b,o+j.toNat*A.n,none⟩)) w (λρ h=>?_) (k _ xs[j.toNat] (List.getElem?_eq_getElem eZ) ⟨b,_,vs,G,hm,h1,h2⟩);simp only[execOp,h x _ hx,h i _ EN];simp[Instr.indexAt,run_underlying ht,asIntOf,hj,hi.sizeOf,Addr.add_mid]
theorem Rg.load {t:TypeId} {u:TypeDesc} {M M1:aM} {w1:World} {p:Value} {a:α} (hu:P.underlying t=some u) (hf:flat u=true) (hA:A.n=1) (hg:A.agg=false)
  (hx:ev L x=some p) (hd:Nat.blt d n=true) (hp:cO A M1 w1 p a) (hle:Le M1 w1 M w) (k:∀v,A.V M w a v->Rg P r n ops rest ((d,v)::L) ds w K):
  Rg P r n ops ({dst:=some d,op:= .load t x,type:=ty,pos,after:=af,guard:=none}::rest) L ds w K:=by
 obtain⟨b,o,vs,rfl,hm,h1,h2⟩:=hp.le q0 hle;have hl:=A.len h1
 match vs,hl with
 |[v],_=>
  refine .op a05 G G hd v w (λρ h=>?_) (k v ⟨[v],h1,by simp[RT.val,hg]⟩);simp only[execOp,h x _ hx];have:=oU (P:=P) hu hf (h2 0 v rfl);simp only[Nat.add_zero]at this;rw[Sem.run_bind,this];simp
 |[],hl=>simp at hl;omega
 |_::_::_,hl=>simp at hl;omega
theorem Rg.Tj {t:TypeId} {κ:IntKind} {M1:aM} {w1:World} {p:Value} {a:Int} (hu:P.underlying t=some (.int κ)) (hx:ev L x=some p) (hd:Nat.blt d n=true) {M:aM} (hp:cO (RT.int κ) M1 w1 p a)
  (hle:Le M1 w1 M w) (k:κ.min<=a->a<=κ.max->Rg P r n ops rest ((d,.int κ a)::L) ds w K):
  Rg P r n ops ({dst:=some d,op:= .load t x,type:=ty,pos,after:=af,guard:=none}::rest) L ds w K:=
 .load hu rfl rfl rfl hx hd hp hle λv hv=>by obtain⟨rfl,h1,h2⟩:=NS.1 hv;exact k h1 h2
theorem jl {hn:0<A.n} {M:aM} {w:World} {xs:List α} {v:Value} (h:(A.sl hn).V M w xs v):v.cells= #[v]:=by
 obtain⟨a,cap,rfl,_⟩:=iV.1 h;rfl
theorem hU {M:aM} {w:World} {x:Int} (h: -9223372036854775808<=x/\x<=9223372036854775807):(RT.int .i64).V M w x (.int .i64 x):=NS.2 ⟨rfl,h.1,h.2⟩
theorem Rg.cE {t:TypeId} {M1:aM} {w1:World} {p:Value} {a:Int} (hu:P.underlying t=some (.int .i64)) (hx:ev L x=some p) (hd:Nat.blt d n=true) {M:aM} (hp:cO (RT.int .i64) M1 w1 p a)
  (hle:Le M1 w1 M w) (k: -9223372036854775808<=a/\a<=9223372036854775807->Rg P r n ops rest ((d,.int .i64 a)::L) ds w K):
  Rg P r n ops ({dst:=some d,op:= .load t x,type:=ty,pos,after:=af,guard:=none}::rest) L ds w K:=
 .Tj hu hx hd hp hle λh1 h2=>k ⟨h1,h2⟩
theorem NT {hn:0<(RT.int .i64).n} {M:aM} {w:World} {xs:List Int} {v:Value} (h:((RT.int .i64).sl hn).V M w xs v) {i:Nat} {x:Int} (hx:xs[i]? =some x): -9223372036854775808<=x/\x<=9223372036854775807:=by
 obtain⟨a,cap,_,_,_,hs⟩:=iV.1 h;rcases hs with rfl|⟨b,o,_,_,De⟩
 ·simp at hx
 ·obtain⟨vs,h1,_⟩:=De i x hx;exact⟨h1.2.1,h1.2.2⟩
theorem Rg.Xo {t:TypeId} {M1:aM} {w1:World} {p:Value} {a:UInt8} (hu:P.underlying t=some (.int .u8)) (hx:ev L x=some p) (hd:Nat.blt d n=true) {M:aM} (hp:cO RT.u8 M1 w1 p a)
  (hle:Le M1 w1 M w) (k:Rg P r n ops rest ((d,.int .u8 a.toNat)::L) ds w K):
  Rg P r n ops ({dst:=some d,op:= .load t x,type:=ty,pos,after:=af,guard:=none}::rest) L ds w K:=
 .load hu rfl rfl rfl hx hd hp hle λv hv=>by rw[Xl.1 hv];exact k
theorem Rg.cq {t:TypeId} {fs:TypeDesc} {zv:Value} {bytes:Nat} {M M1:aM} {w1:World} {p:Value} {a:α} (hu:P.underlying t=some fs) (hf:fs.isRow=true) (hi:TI P t zv A.n bytes) (hA:0<A.n) (hg:A.agg=true)
  (hx:ev L x=some p) (hd:Nat.blt d n=true) (hp:cO A M1 w1 p a) (hle:Le M1 w1 M w) (k:∀v,A.V M w a v->Rg P r n ops rest ((d,v)::L) ds w K):
  Rg P r n ops ({dst:=some d,op:= .load t x,type:=ty,pos,after:=af,guard:=none}::rest) L ds w K:=by
 obtain⟨b,o,vs,rfl,hm,h1,h2⟩:=hp.le hA hle;refine .op a05 G G hd (.agg vs.toArray) w (λρ h=>?_) (k _ ⟨vs,h1,by simp[RT.val,hg]⟩);simp only[execOp,h x _ hx];obtain⟨i,Bt,_,Ex,_⟩:=hi.get;have:=run_loadAt_mid (P:=P) w b o t vs fs h2 hu hf (by simp[Bt,Ex,A.len h1]);simp[this]
theorem Rg.fieldAddr {β:Type} {B:RT β} {f:α->β} {off:Nat} {s:TypeId} {fs:Array Field} {fd:Field} {j:Nat} {zv:Value} {bytes:Nat} {M M1:aM} {w1:World} {p:Value} {a:α}
  (hu:P.underlying s=some (.struct fs)) (Xp:fs[j]? =some fd) (ho:fd.offset=off) (hi:TI P fd.type zv B.n bytes) (hB:0<B.n) (hp:Part A B f off)
  (hx:ev L x=some p) (hd:Nat.blt d n=true) (hA:0<A.n) (hpt:cO A M1 w1 p a) (hle:Le M1 w1 M w) (k:∀u,cO B M w u (f a)->Rg P r n ops rest ((d,u)::L) ds w K):
  Rg P r n ops ({dst:=some d,op:= .fieldAddr s x j,type:=ty,pos,after:=af,guard:=none}::rest) L ds w K:=by
 obtain⟨b,o,vs,rfl,hm,h1,h2⟩:=hpt.le hA hle;refine .op a05 G G hd _ w (λρ h=>?_) (k _ (cO.part hp hm h1 h2));simp only[execOp,h x _ hx];simp[Instr.fieldAt,run_underlying hu,Xp,Instr.sureAddr,fieldPlace,hi.sizeOf,show B.n≠0 from by omega,ho,Addr.add_mid]
theorem vY.slice {M:aM} {w:World} {a:Option Addr} {xs:List α} (lo hi cap m:Nat) (h1:lo<=hi) (h2:hi<=xs.length) (hm:hi<=m) (hs:vY A M w a xs):
  vY A M w (if m=lo then a else a.map (·.add (lo*A.n))) ((xs.take hi).drop lo):=by
 by_cases we:m=lo
 ·left;apply List.drop_eq_nil_of_le;rw[List.length_take];omega
 ·rw[if_neg we];rcases hs with rfl|⟨b,o,rfl,h3,h4⟩
  ·left;simp
  ·right;refine ⟨b,o+lo*A.n,by simp[Addr.add_mid],h3,λi x hx=> ?_⟩;rw[List.getElem?_drop,List.getElem?_take]at hx
   split at hx
   ·obtain⟨vs,h5,h6⟩:=h4 _ _ hx;refine ⟨vs,h5,?_⟩;rw[show o+lo*A.n+i*A.n=o+(lo+i)*A.n from by rw[Nat.add_mul];omega];exact h6
   ·cases hx
theorem jm {t e:TypeId} (ht:P.underlying t=some (.slice e)):P.underlying t=some (.slice (P.elem t)):=by simp[Program.elem,ht]
theorem oV {t e:TypeId} (ht:P.underlying t=some (.slice e)):P.elem t=e:=by simp[Program.elem,ht]
theorem Rg.EO {t e:TypeId} {l h:Operand} {κ κ':IntKind} {lo hi:Int} {hn:0<A.n} {M:aM} {w1:World} {xs:List α} {v zv:Value} {bytes:Nat} (ht:P.underlying t=some (.slice e)) (K6:TI P e zv A.n bytes)
  (hx:ev L x=some v) (hl:ev L l=some (.int κ lo)) (hh:ev L h=some (.int κ' hi)) (hd:Nat.blt d n=true) (hv:(A.sl hn).V M w1 xs v) (hb:0<=lo/\lo<=hi/\hi<=xs.length)
  (k:∀u,(A.sl hn).V M w1 ((xs.take hi.toNat).drop lo.toNat) u->Rg P r n ops rest ((d,u)::L) ds w K):
  Rg P r n ops ({dst:=some d,op:= .slice t x (some l) (some h) none,type:=ty,pos,after:=af,guard:=none}::rest) L ds w K:=by
 obtain⟨a,cap,rfl,hc,hlen,hs⟩:=iV.1 hv;have y5:((xs.take hi.toNat).drop lo.toNat).length=hi.toNat-lo.toNat:=by rw[List.length_drop,List.length_take];omega
 refine .op a05 G G hd (sliced a lo.toNat hi.toNat cap A.n) w (λρ hρ=>?_) (k _ (iV.2 ⟨_,cap-lo.toNat,?_,by omega,by omega,hs.slice lo.toNat hi.toNat cap cap q0 q0 q0⟩))
 ·simp only[execOp,hρ x _ hx,Option.map_some,Option.map_none,hρ l _ hl,hρ h _ hh];rw[Sem.run_bind,run_sliceAt_slice _ _ _ _ _ _ (jm ht),run_slice_lh _ _ _ _ _ (jm ht) _ _ _ _ hb.1 hb.2.1 q0,oV ht,K6.sizeOf];simp
 ·rw[y5];rfl
theorem Rg.Tk {t e:TypeId} {h:Operand} {κ':IntKind} {hi:Int} {hn:0<A.n} {M:aM} {w1:World} {xs:List α} {v zv:Value} {bytes:Nat} (ht:P.underlying t=some (.slice e)) (K6:TI P e zv A.n bytes)
  (hx:ev L x=some v) (hh:ev L h=some (.int κ' hi)) (hd:Nat.blt d n=true) (hv:(A.sl hn).V M w1 xs v) (hb:0<=hi/\hi<=xs.length)
  (k:∀u,(A.sl hn).V M w1 (xs.take hi.toNat) u->Rg P r n ops rest ((d,u)::L) ds w K):
  Rg P r n ops ({dst:=some d,op:= .slice t x none (some h) none,type:=ty,pos,after:=af,guard:=none}::rest) L ds w K:=by
 obtain⟨a,cap,rfl,hc,hlen,hs⟩:=iV.1 hv;have y5:(xs.take hi.toNat).length=hi.toNat:=by rw[List.length_take];omega
 have B6:=hs.slice (A:=A) 0 hi.toNat cap cap q0 q0 q0;rw[List.drop_zero]at B6;refine .op a05 G G hd (sliced a 0 hi.toNat cap A.n) w (λρ hρ=>?_) (k _ (iV.2 ⟨_,cap,?_,by omega,by omega,B6⟩))
 ·simp only[execOp,hρ x _ hx,Option.map_some,Option.map_none,hρ h _ hh];rw[Sem.run_bind,run_sliceAt_slice _ _ _ _ _ _ (jm ht),run_slice_h _ _ _ _ _ (jm ht) _ _ hb.1 q0,oV ht,K6.sizeOf];simp
 ·rw[y5];simp[sliced]
theorem Rg.oW {t e:TypeId} {l:Operand} {κ:IntKind} {lo:Int} {hn:0<A.n} {M:aM} {w1:World} {xs:List α} {v zv:Value} {bytes:Nat} (ht:P.underlying t=some (.slice e)) (K6:TI P e zv A.n bytes)
  (hx:ev L x=some v) (hl:ev L l=some (.int κ lo)) (hd:Nat.blt d n=true) (hv:(A.sl hn).V M w1 xs v) (hb:0<=lo/\lo<=xs.length)
  (k:∀u,(A.sl hn).V M w1 (xs.drop lo.toNat) u->Rg P r n ops rest ((d,u)::L) ds w K):
  Rg P r n ops ({dst:=some d,op:= .slice t x (some l) none none,type:=ty,pos,after:=af,guard:=none}::rest) L ds w K:=by
 obtain⟨a,cap,rfl,hc,hlen,hs⟩:=iV.1 hv;have y5:(xs.drop lo.toNat).length=xs.length-lo.toNat:=by rw[List.length_drop]
 have B6:=hs.slice (A:=A) lo.toNat xs.length cap cap q0 q0 q0;rw[List.take_length]at B6;refine .op a05 G G hd (sliced a lo.toNat xs.length cap A.n) w (λρ hρ=>?_) (k _ (iV.2 ⟨_,cap-lo.toNat,?_,by omega,by omega,B6⟩))
 ·simp only[execOp,hρ x _ hx,Option.map_some,Option.map_none,hρ l _ hl];rw[Sem.run_bind,run_sliceAt_slice _ _ _ _ _ _ (jm ht),run_slice_l _ _ _ _ _ (jm ht) _ _ hb.1 q0,oV ht,K6.sizeOf];simp
 ·rw[y5];rfl
theorem Rg.HD {t e:TypeId} {h m:Operand} {κ κ':IntKind} {hi mx:Int} {hn:0<A.n} {M:aM} {w1:World} {xs:List α} {v zv:Value} {bytes:Nat} (ht:P.underlying t=some (.slice e)) (K6:TI P e zv A.n bytes)
  (hx:ev L x=some v) (hh:ev L h=some (.int κ hi)) (hm:ev L m=some (.int κ' mx)) (hd:Nat.blt d n=true) (hv:(A.sl hn).V M w1 xs v) (hb:hi=xs.length/\mx=xs.length)
  (k:∀a,(A.sl hn).V M w1 xs (.slice a xs.length xs.length)->(a=none->xs=[])->Rg P r n ops rest ((d,.slice a xs.length xs.length)::L) ds w K):
  Rg P r n ops ({dst:=some d,op:= .slice t x none (some h) (some m),type:=ty,pos,after:=af,guard:=none}::rest) L ds w K:=by
 obtain⟨a,cap,rfl,hc,hlen,hs⟩:=iV.1 hv;obtain⟨rfl,rfl⟩:=hb;refine .op a05 G G hd (.slice a xs.length xs.length) w (λρ hρ=>?_) (k a (iV.2 ⟨_,xs.length,G,Nat.le_refl _,hlen,hs⟩) ?_)
 ·simp only[execOp,hρ x _ hx,Option.map_some,Option.map_none,hρ h _ hh,hρ m _ hm];rw[Sem.run_bind,run_sliceAt_slice _ _ _ _ _ _ (jm ht),run_slice_hm _ _ _ _ _ (jm ht) _ _ _ _ q0 q0 q0,oV ht,K6.sizeOf];simp only[Result.andThen_ok,sliced,Int.toNat_natCast,Nat.zero_mul,Nat.sub_zero,Sem.run_pure];by_cases h0:xs.length=0
  ·simp[h0]
  ·rw[if_neg h0];rcases hs with rfl|⟨b,o,rfl,_⟩
   ·simp at h0
   ·simp[Addr.add_mid]
 ·rintro rfl;rcases hs with h|⟨b,o,h,_⟩
  ·exact h
  ·cases h
theorem dE (w:World) (o:Obj):(w.alloc o).heap[w.heap.size]? =some o:=heap_alloc_new w o
theorem Rg.box {e:TypeId} {v:Value} (M:aM) (hx:ev L x=some v) (hd:Nat.blt d n=true)
  (k:∀b w',w.heap.size<=b->b<w'.heap.size->w'.heap[b]? =some (.cells v.cells e (0,0))->Step M w (ins M b) w' aC->Rg P r n ops rest ((d,.pointer (some ⟨b,0,none⟩))::L) ds w' K):
  Rg P r n ops ({dst:=some d,op:= .box e x,type:=ty,pos,after:=af,guard:=none}::rest) L ds w K:=by
 refine .op a05 G G hd _ (w.alloc (.cells v.cells e)) (λρ hρ=>?_) (k w.heap.size _ (Nat.le_refl _) (by simp) (dE w _) ((ei M w _).own (Nat.le_refl _) (by simp)));simp only[execOp,hρ x _ hx];simp[Instr.box,newVar,newRow,newObj,Sem.run]
theorem Rg.alloc {e:TypeId} {zv:Value} {size bytes:Nat} (M:aM) (hi:TI P e zv size bytes) (hd:Nat.blt d n=true)
  (k:∀b w',w.heap.size<=b->b<w'.heap.size->w'.heap[b]? =some (.cells zv.cells e (0,0))->Step M w (ins M b) w' aC->Rg P r n ops rest ((d,.pointer (some ⟨b,0,none⟩))::L) ds w' K):
  Rg P r n ops ({dst:=some d,op:= .alloc e,type:=ty,pos,after:=af,guard:=none}::rest) L ds w K:=by
 obtain⟨i,h1,h2,h3,h4⟩:=hi.get;refine .op a05 G G hd _ (w.alloc (.cells zv.cells e)) (λρ hρ=>?_) (k w.heap.size _ (Nat.le_refl _) (by simp) (dE w _) ((ei M w _).own (Nat.le_refl _) (by simp)));simp only[execOp];simp[Instr.alloc,zeroValue,typeInfo,h1,h2,newVar,newRow,newObj,Sem.run]
theorem gM {b o:Nat} {cs:Array Value} {e:TypeId} {fr:Nat×Nat} {v:Value} (hb:w.heap[b]? =some (.cells cs e fr)) (hv:cs[o]? =some v):w.cell? ⟨b,o,none⟩=some v:=by
 simp[World.cell?,hb,hv]
theorem Rg.bT {t:TypeId} {u:TypeDesc} {b o:Nat} {cs:Array Value} {e:TypeId} {fr:Nat×Nat} {v:Value} (hu:P.underlying t=some u) (hf:flat u=true) (hx:ev L x=some (.pointer (some ⟨b,o,none⟩))) (hd:Nat.blt d n=true)
  (hb:w.heap[b]? =some (.cells cs e fr)) (hv:cs[o]? =some v) (k:Rg P r n ops rest ((d,v)::L) ds w K):
  Rg P r n ops ({dst:=some d,op:= .load t x,type:=ty,pos,after:=af,guard:=none}::rest) L ds w K:=
 .op a05 rfl rfl hd v w (λρ hρ=>by
  simp only[execOp,hρ x _ hx];rw[Sem.run_bind,oU (P:=P) hu hf (gM hb hv)];simp) k
theorem y6 {b o:Nat} {cs:Array Value} {e:TypeId} {fr:Nat×Nat} {v:Value} (hb:w.heap[b]? =some (.cells cs e fr)):(w.setCell ⟨b,o,none⟩ v).heap[b]? =some (.cells (cs.setIfInBounds o v) e fr):=by
 simp[World.setCell,Array.getElem?_modify,hb]
theorem tU (M:aM) {b o:Nat} {v:Value} (hm:M b):Step M w M (w.setCell ⟨b,o,none⟩ v) (λk=>k=b):=
 ⟨λh b hb=>by simpa[World.setCell]using h b hb,rfl,rfl,rfl,by simp[World.setCell],λ_ _=>Iff.rfl,λk _ hn=>Go.RowKit.Below.heap_setCell w _ v k hn,λk hk=>by subst hk;exact hm⟩
theorem Rg.de {t:TypeId} {zv:Value} {bytes:Nat} {b o:Nat} {cs:Array Value} {e:TypeId} {u v:Value} {M:aM} (hi:TI P t zv 1 bytes) (hx:ev L x=some (.pointer (some ⟨b,o,none⟩))) (hy:ev L y=some v)
  (hb:w.heap[b]? =some (.cells cs e (0,0))) (hv:cs[o]? =some u) (h1:v.oneCell'=true) (hm:M b)
  (k:∀w',w'.heap[b]? =some (.cells (cs.setIfInBounds o v) e (0,0))->Step M w M w' (λk=>k=b)->Rg P r n ops rest L ds w' K):
  Rg P r n ops ({dst:=none,op:= .store t x y,type:=ty,pos,after:=af,guard:=none}::rest) L ds w K:=by
 refine .VH a05 G G (w.setCell ⟨b,o,none⟩ v) (λρ hρ=>?_) (k _ (y6 hb) (tU M hm));simp only[execOp,hρ x _ hx,hρ y _ hy];have:=rU (P:=P) hi (w:=w) (b:=b) (o:=o) h1 (by rw[gM hb hv];rfl) (by simp[World.frozen?,hb]);simp[this]
theorem NU (size:Nat) (zs vs:Array Value) (v:Value) (hz:zs.size=size) (hv:v.cells=vs) (hs:vs.size=size):Instr.fill (λi=>some (i*size,size)) zs [(0,v)]=some vs:=by
 simp only[Instr.fill,hv,hs,Nat.zero_mul,Nat.zero_add,hz];simp only[ne_eq,not_true_eq_false,decide_false,Bool.false_or,Nat.lt_irrefl,decide_false,gt_iff_lt,if_false,Bool.false_eq_true];congr 1
 have key:∀(l:List Value) (k:Nat) (cs:Array Value),k+l.length=cs.size->∀j:Nat,((l.zipIdx k).foldl (fun(cs:Array Value) (x:Value×Nat)=>cs.setIfInBounds x.2 x.1) cs)[j]? =if j<k then cs[j]? else l[j-k]? :=by
  intro l
  induction l with
  |nil=>
   intro k cs hk j;simp at hk ⊢;intro h;omega
  |cons a l ih=>
   intro k cs hk j;simp only[List.zipIdx_cons,List.foldl_cons];rw[ih (k+1) _ (by simp at hk ⊢;omega) j];rw[Array.getElem?_setIfInBounds];simp at hk;by_cases h1:j<k
   ·rw[if_pos q0,if_pos h1,if_neg q0]
   ·by_cases h2:j=k
    ·subst h2;rw[if_pos q0,if_pos rfl,if_neg h1];simp;omega
    ·rw[if_neg q0,if_neg h1,show j-k=(j-(k+1))+1 from by omega];simp
 apply Array.ext_getElem?;intro j;have:=key vs.toList 0 zs (by simp[hs,hz]) j;simp only[Nat.not_lt_zero,if_false,Nat.sub_zero,Array.getElem?_toList]at this;rw[<-this];rw[<-Array.foldl_toList];simp[Array.toList_zipIdx]
theorem Rg.nj {t e:TypeId} {zv v:Value} {bytes:Nat} {hn:0<A.n} {M:aM} {a:α} (ht:P.underlying t=some (.slice e)) (hi:TI P e zv A.n bytes) (Df:A.n<=1000) (hx:ev L x=some v) (hd:Nat.blt d n=true) (hm:Lt M w)
  (hv:A.V M w a v) (Ey:A.agg=true\/A.n=1/\A.agg=false) (k:∀u w',(A.sl hn).V M w' [a] u->Step M w M w' aC->Rg P r n ops rest ((d,u)::L) ds w' K):
  Rg P r n ops ({dst:=some d,op:= .buildSlice t 1 #[(0,x)],type:=ty,pos,after:=af,guard:=none}::rest) L ds w K:=by
 obtain⟨vs,h1,h2⟩:=hv;have hl:=A.len h1;have sN:=A.one h1
 have hc:v.cells=vs.toArray:=by
  subst h2;rcases Ey with hg|⟨h3,hg⟩
  ·simp[RT.val,hg,Value.cells]
  ·match vs,hl,h3 with
   |[u],_,_=>
    have:=sN u (by simp);simp only[RT.val,hg,List.headD_cons]
    cases u<;>simp_all [Value.cells,Value.oneCell']
   |[],hl,h3=>simp at hl;omega
   |_::_::_,hl,h3=>simp at hl;omega
 obtain⟨i,Bt,Ex,hi3,hi4⟩:=hi.get;have hs:=ei M w (.cells vs.toArray e)
 refine .op a05 G G hd (.slice (some ⟨w.heap.size,0,none⟩) 1 1) (w.alloc (.cells vs.toArray e)) (λρ hρ=>?_)
  (k _ _ (iV.2 ⟨_,1,rfl,Nat.le_refl _,by simp,.inr ⟨w.heap.size,0,rfl,λh=>by have:=hm _ h;omega,λi x hx=>?_⟩⟩) hs)
 ·simp only[execOp,List.map_toArray,List.map_cons,List.map_nil,hρ x _ hx];simp only[Instr.buildSlice,Sem.run_bind,run_underlying ht,Result.andThen_ok,hi.sizeOf,Nat.one_mul];rw[if_neg q0,if_neg q0];simp only[Sem.run_bind,zeroValue,typeInfo,program,Sem.run,Bt,Ex,Result.andThen_ok,Sem.run_pure];rw[NU A.n _ vs.toArray v (by simp) hc (by simpa using hl)];simp[newRow,newObj,Sem.run]
 ·cases i with
  |zero=>
   simp at hx;subst hx;refine ⟨vs,A.le hs.le h1,λj u hu=> ?_⟩;exact gM (dE w _) (by simpa using hu)
  |succ i=>simp at hx
theorem B7 (size:Nat) (zs:Array Value) (i:Nat) (v:Value) (vs:List Value) (rest:List (Nat×Value)) (hv:v.cells=vs.toArray) (hs:vs.length=size) (hz:i*size+size<=zs.size):
  ∃Tl,Instr.fill (λi=>some (i*size,size)) zs ((i,v)::rest)=Instr.fill (λi=>some (i*size,size)) Tl rest/\Tl.size=zs.size/\
   ∀j,Tl[j]? =if i*size<=j/\j<i*size+size then vs[j-i*size]? else zs[j]? :=by
 have key:∀(l:List Value) (k o:Nat) (cs:Array Value),o+k+l.length<=cs.size->((l.zipIdx k).foldl (fun(cs:Array Value) (x:Value×Nat)=>cs.setIfInBounds (o+x.2) x.1) cs).size=cs.size/\
   ∀j:Nat,((l.zipIdx k).foldl (fun(cs:Array Value) (x:Value×Nat)=>cs.setIfInBounds (o+x.2) x.1) cs)[j]? =if o+k<=j/\j<o+k+l.length then l[j-(o+k)]? else cs[j]? :=by
  intro l
  induction l with
  |nil=>
   intro k o cs hk;refine ⟨G,λj=> ?_⟩;simp;intro h1 h2;omega
  |cons a l ih=>
   intro k o cs hk;simp only[List.zipIdx_cons,List.foldl_cons];simp only[List.length_cons]at hk;obtain⟨h1,h2⟩:=ih (k+1) o (cs.setIfInBounds (o+k) a) a11;refine ⟨by rw[h1];simp,λj=> ?_⟩;rw[h2 j,Array.getElem?_setIfInBounds,List.length_cons];by_cases h3:o+(k+1)<=j/\j<o+(k+1)+l.length
   ·rw[if_pos h3,if_pos q0,show j-(o+k)=(j-(o+(k+1)))+1 from by omega];simp
   ·rw[if_neg h3];by_cases h4:o+k=j
    ·subst h4;rw[if_pos rfl,if_pos q0,if_pos q0];simp
    ·rw[if_neg h4,if_neg q0]
 obtain⟨k1,k2⟩:=key vs 0 (i*size) zs q0;refine⟨_,?_,k1,λj=>?_⟩
 ·conv=>lhs;rw[Instr.fill]
  simp only[hv,hs];simp[hs,show¬(zs.size<i*size+size) by omega]
 ·rw[k2 j,Nat.add_zero,hs]
def Xq {α:Type} (A:RT α) (M:aM) (w:World) (L:List (Nat×Value)):Nat->List (Nat×Operand)->List α->Prop
 |_,[],xs=>xs=[]
 |i,p::ps,xs=>∃a aa v,xs=a::aa/\p.1=i/\ev L p.2=some v/\A.V M w a v/\Xq A M w L (i+1) ps aa
theorem NV {α:Type} {A:RT α} {M:aM} {w:World} {a:α} {vs:List Value} (h1:A.R M w a vs) (Ey:A.agg=true\/A.n=1/\A.agg=false):(A.val vs).cells=vs.toArray:=by
 have hl:=A.len h1;have sN:=A.one h1;rcases Ey with hg|⟨h3,hg⟩
 ·simp[RT.val,hg,Value.cells]
 ·match vs,hl,h3 with
  |[u],_,_=>
   have:=sN u (by simp);simp only[RT.val,hg,List.headD_cons]
   cases u<;>simp_all [Value.cells,Value.oneCell']
  |[],hl,h3=>simp at hl;omega
  |_::_::_,hl,h3=>simp at hl;omega
theorem EP {α:Type} {A:RT α} {M:aM} {w:World} {L:List (Nat×Value)} (Ey:A.agg=true\/A.n=1/\A.agg=false):∀(ps:List (Nat×Operand)) (i:Nat) (xs:List α) (zs:Array Value),
  Xq A M w L i ps xs->zs.size=(i+xs.length)*A.n->
  ∃(gS:List (Nat×Value)) (C:List Value) (Tl:Array Value),(∀ρ:Operand->Value,(∀x v,ev L x=some v->ρ x=v)->ps.map (λp=>(p.1,ρ p.2))=gS)/\fN A M w xs C/\Instr.fill (λi=>some (i*A.n,A.n)) zs gS=some Tl/\Tl.size=zs.size/\
   ∀j,Tl[j]? =if i*A.n<=j then C[j-i*A.n]? else zs[j]?
 |[],i,xs,zs,hp,hz=>by
  cases hp;refine ⟨[],[],zs,λρ _=>G,G,G,G,λj=> ?_⟩
  split
  ·simp at hz ⊢;omega
  ·rfl
 |p::ps,i,xs,zs,hp,hz=>by
  obtain⟨a,aa,v,rfl,hpi,Nq,hv,hr⟩:=hp;obtain⟨vs,h1,h2⟩:=hv;have hc:=NV h1 Ey;rw[<-h2]at hc;have hl:=A.len h1;have hmul:(i+(a::aa).length)*A.n=i*A.n+A.n+aa.length*A.n:=by rw[List.length_cons,Nat.add_mul,Nat.add_mul];omega
  obtain⟨z1,e1,e2,e3⟩:=B7 A.n zs i v vs (ps.map λ_=>(0,undef)) hc hl (by rw[hz,hmul];omega);obtain⟨gS,C,z2,f1,f2,f3,f4,f5⟩:=EP Ey ps (i+1) aa z1 hr (by rw[e2,hz,List.length_cons,show i+1+aa.length=i+(aa.length+1)from by omega]);obtain⟨z1',e1',e2',e3'⟩:=B7 A.n zs i v vs gS hc hl (by rw[hz,hmul];omega);have hzz:z1=z1':=Array.ext_getElem? λj=>by rw[e3 j,e3' j]
  subst hzz;refine ⟨(i,v)::gS,vs++C,z2,λρ hρ=>by rw[List.map_cons,f1 ρ hρ,hpi,hρ _ _ Nq],⟨vs,C,rfl,h1,f2⟩,by rw[e1',f3],by rw[f4,e2],λj=> ?_⟩;rw[f5 j,e3 j,Nat.add_mul,Nat.one_mul];by_cases h3:i*A.n+A.n<=j
  ·rw[if_pos h3,if_pos q0,List.getElem?_append_right q0,hl,show j-i*A.n-A.n=j-(i*A.n+A.n)from by omega]
  ·rw[if_neg h3];by_cases h4:i*A.n<=j
   ·rw[if_pos q0,if_pos h4,List.getElem?_append_left q0]
   ·rw[if_neg q0,if_neg h4]
theorem Rg.NW {t e:TypeId} {zv:Value} {bytes nn:Nat} {ps:Array (Nat×Operand)} {hn:0<A.n} {M:aM} {xs:List α} (ht:P.underlying t=some (.slice e)) (hi:TI P e zv A.n bytes) (hz:zv.cells.size=A.n) (Df:nn*A.n<=16777216) (Tn:nn=xs.length) (sO:Xq A M w L 0 ps.toList xs) (hd:Nat.blt d n=true) (hm:Lt M w)
  (Ey:A.agg=true\/A.n=1/\A.agg=false) (hnz:0<nn) (k:∀u w',(A.sl hn).V M w' xs u->Step M w M w' aC->Rg P r n ops rest ((d,u)::L) ds w' K):
  Rg P r n ops ({dst:=some d,op:= .buildSlice t nn ps,type:=ty,pos,after:=af,guard:=none}::rest) L ds w K:=by
 subst Tn;obtain⟨i,Bt,Ex,hi3,hi4⟩:=hi.get;obtain⟨gS,C,Tl,f1,f2,f3,f4,f5⟩:=EP Ey ps.toList 0 xs (Array.map (λx=>zv.cells[x%zv.cells.size]!) (Array.range (xs.length*A.n))) sO (by simp);have hzC:Tl=C.toArray:=Array.ext_getElem? λj=>by rw[f5 j,Nat.zero_mul,if_pos (Nat.zero_le _),Nat.sub_zero];simp
 subst hzC;have hs:=ei M w (.cells C.toArray e);have yZ:0<xs.length*A.n:=Nat.mul_pos hnz hn;have hlen:xs.length<=16777216:=Nat.le_trans (by have:=Nat.mul_le_mul_left xs.length hn;omega) Df
 refine .op a05 G G hd (.slice (some ⟨w.heap.size,0,none⟩) xs.length xs.length) (w.alloc (.cells C.toArray e)) (λρ hρ=>?_)
  (k _ _ (iV.2 ⟨_,_,rfl,Nat.le_refl _,by omega,.inr ⟨w.heap.size,0,rfl,λh=>by have:=hm _ h;omega,λi x hx=>?_⟩⟩) hs)
 ·have hmp:(ps.map fun(i,x)=>(i,ρ x)).toList=gS:=by rw[Array.toList_map];exact f1 ρ hρ
  simp only[execOp];simp only[Instr.buildSlice,Sem.run_bind,run_underlying ht,Result.andThen_ok,hi.sizeOf];rw[if_neg q0,if_neg q0];simp only[Sem.run_bind,zeroValue,typeInfo,program,Sem.run,Bt,Ex,Result.andThen_ok,Sem.run_pure];rw[hmp,f3];simp[newRow,newObj,Sem.run]
 ·obtain⟨us,h1,h2⟩:=(f2.le hs.le).at_ i x hx;exact⟨us,h1,λj u hu=>by rw[Nat.zero_add];exact gM (dE w _) (by simpa using h2 j u hu)⟩
def mh (M:aM) (v:Value):aM:=λk=>v.ownBlock=some k\/M k
def ng (v:Value):aM:=λk=>v.ownBlock=some k
theorem yG {M:aM} {w':World} {v':Value} (hs:w.heap.size<=w'.heap.size) (hv:∀b,v'.ownBlock=some b->b<w'.heap.size) (h:Lt M w):Lt (mh M v') w':=λb hb=>by
 rcases hb with hb|hb
 ·exact hv b hb
 ·exact Nat.lt_of_lt_of_le (h b hb) hs
theorem HE {M:aM} {w':World} {v v':Value} (hg:w.grownBy w' v.ownBlock) (hm:∀b,v.ownBlock=some b->M b) (hv:∀b,v'.ownBlock=some b->w.heap.size<=b\/v.ownBlock=some b) (eZ:∀b,v'.ownBlock=some b->b<w'.heap.size):
  Step M w (mh M v') w' (ng v):=
 ⟨yG hg.size eZ,hg.os,hg.tape,hg.output,hg.size,λb hb=>⟨λh=>by
  rcases h with h|h
  ·rcases hv b h with h2|h2
   ·omega
   ·exact hm b h2
  ·exact h,λh=> .inr h⟩,λb hb hn=>hg.block b hb (λh=>hn h.symm),λb hb=>hm b hb⟩
theorem pU {t ty e:TypeId} {zv:Value} {size bytes:Nat} (ht:P.underlying t=some (.slice e)) (hi:TI P e zv size bytes) (a:Option Addr) (l cap c:Nat) (b:Option Addr) (hl:l<=cap):
  (Builtin.append_ #[t,t] ty #[.slice a l cap,.slice b 0 c]).run P w= .ok (.slice a l cap) w:=by
 obtain⟨i,h1,h2,h3,h4⟩:=hi.get
 cases a<;>cases b<;>simp[Builtin.append_,run_underlying ht,sizeOf,typeInfo,h1,Builtin.lenOf,hl,Builtin.firstCells,loadCells,loadCellsFrom,storeCells]
theorem Own.nk {t ty e:TypeId} {zv:Value} {bytes:Nat} {hn:0<A.n} {M M2:aM} {base:Nat} {v u:Value} {xs ys:List α} (ht:P.underlying t=some (.slice e)) (hi:TI P e zv A.n bytes) (hz:zv.cells.size=A.n)
  (h:Own A e M w base v xs) (hle:Le M2 w M w) (hu:(A.sl hn).V M2 w ys u) (hlen:xs.length+ys.length<=140737488355328) (hb:(xs.length+ys.length)*bytes<=140737488355328) (lg:base<=w.heap.size):
  ∃v' w',(Builtin.append_ #[t,t] ty #[v,u]).run P w= .ok v' w'∧Own A e (mh M v') w' base v' (xs++ys)/\Step M w (mh M v') w' (ng v)/\(∀b,v'.ownBlock=some b->w.heap.size<=b\/v.ownBlock=some b):=by
 obtain⟨a,c,rfl,hc,hl,hs⟩:=iV.1 hu;obtain⟨i,h1,h2,h3,h4⟩:=hi.get;have NX:xs.length+ys.length<=maxLen:=by unfold maxLen;omega
 rcases hs with rfl|⟨b,o,rfl,hmb,De⟩
 ·obtain⟨a',cap,rfl,sT⟩:=h.isSlice;refine⟨_,w,pU ht hi a' xs.length cap c a sT,?_,?_,λb hb=> .inr hb⟩
  ·rw[List.append_nil];obtain⟨⟨C,hr,ha⟩,hm⟩:=h;have hs:Step M w (mh M (.slice a' xs.length cap)) w aC:=⟨yG (Nat.le_refl _) (λb hb=>(hr.lt b hb).2),rfl,rfl,rfl,Nat.le_refl _,λb _=>⟨λh=>h.elim (hm b) id,λh=> .inr h⟩,λ_ _ _=>rfl,λ_ h=>h.elim⟩;exact⟨⟨C,hr,ha.le hs.le⟩,λb hb=> .inl hb⟩
  ·exact⟨yG (Nat.le_refl _) (λb hb=>(h.base b hb).2),G,G,G,Nat.le_refl _,λb _=>⟨λh'=>h'.elim (h.mut_ b) id,λh=> .inr h⟩,λ_ _ _=>G,λb hb=>h.mut_ b hb⟩
 ·obtain⟨D,hD,hDr⟩:=vY.all De;have K7:=hD.length;have B8:∀j u,D[j]? =some u->w.cell? ((⟨b,o,none⟩:Addr).add j)=some u:=λj u hj=>by rw[Addr.add_mid];exact hDr j u hj
  have hD1:=hD.one;obtain⟨⟨C,hr,ha⟩,hm⟩:=h;have hr':=hr;obtain⟨Xr,Bu⟩:=hr'
  have fin:∀v' w',w'.ownsRow base e A.n v' (xs.length+ys.length) (C++D)->w.grownBy w' v.ownBlock->(∀b,v'.ownBlock=some b->w.heap.size<=b\/v.ownBlock=some b)->
    Own A e (mh M v') w' base v' (xs++ys)/\Step M w (mh M v') w' (ng v):=by
   intro v' w' ho hg rV;have jT:=HE (M:=M) hg hm rV (λb hb=>(ho.lt b hb).2);refine⟨⟨⟨C++D,by rw[List.length_append];exact ho,?_⟩,λb hb=> .inl hb⟩,jT⟩;exact fN.append (hD.le (hle.trans jT.le)) (ha.le jT.le)
  rcases Bu with⟨rfl,wg⟩|⟨g,cap,cur,rfl,hbg,hg,hnc,hcm,VI,abZ⟩
  ·have hx:xs=[]:=List.eq_nil_of_length_eq_zero wg;subst hx;have hC:C=[]:=List.eq_nil_of_length_eq_zero (by simpa using Xr);subst hC
   obtain⟨v',w',iz,ho,y9,_⟩:=run_append_own (P:=P) w w.heap.size t ty e i zv A.n bytes ht h1 h2 h3 h4 hz hn (.slice none 0 0) 0 [] (World.ownsRow_nil w _ e A.n) ⟨b,o,none⟩ ys.length c D K7 B8 hD1
    (by simpa using NX) (by simpa using hb) (Nat.le_refl _)
   obtain⟨q1,q2⟩:=fin v' w' (by
    obtain⟨p1,p2⟩:=ho;refine ⟨by simpa using p1,p2.imp (λh=>by simpa using h) ?_⟩;rintro⟨g,cap,cur,p3,p4,p5⟩;exact⟨g,cap,cur,by simpa using p3,Nat.le_trans lg p4,by simpa using p5⟩) y9 (λk hk=> .inl (ho.lt k hk).1)
   exact⟨v',w',iz,q1,q2,λk hk=> .inl (ho.lt k hk).1⟩
  ·by_cases NY:xs.length+ys.length<=cap
   ·have ai4:xs.length*A.n+D.length<=cur.size:=by rw[K7,VI,<-Nat.add_mul];exact Nat.mul_le_mul_right _ NY
    have iz:=run_append_room (P:=P) w t ty e i ht h1 g xs.length cap cur hg ⟨b,o,none⟩ ys.length c D (by rw[K7,<-h3]) B8 hD1 NY (by rw[h3];exact ai4);rw[h3]at iz;have hCD:(C++D).length=(xs.length+ys.length)*A.n:=by rw[List.length_append,Xr,K7,Nat.add_mul]
    obtain⟨To,Xs⟩:∃c,c=(cur.toList.take (xs.length*A.n)++D++cur.toList.drop (xs.length*A.n+D.length)).toArray:=⟨_,rfl⟩;rw[<-Xs]at iz
    have e1:To.size=cap*A.n:=by
     rw[Xs];simp only[List.size_toArray,List.length_append,List.length_take,List.length_drop,Array.length_toList];omega
    have e2:To.toList.take ((xs.length+ys.length)*A.n)=C++D:=by
     rw[Xs];simp only[abZ];rw[<-hCD];exact List.take_left
    obtain⟨q1,q2⟩:=fin (.slice (some ⟨g,0,none⟩) (xs.length+ys.length) cap) (w.setRow g To)
     ⟨hCD,.inr ⟨g,cap,To,rfl,hbg,setRow_heap w g cur _ e _ hg,NY,hcm,e1,e2⟩⟩
     ⟨rfl,rfl,rfl,by simp,λk _ hk=>setRow_other w g k _ (λe=>hk (by simp[Value.ownBlock,e]))⟩ (λk hk=> .inr hk)
    exact⟨_,_,iz,q1,q2,λk hk=> .inr hk⟩
   ·have holds:∀j u,C[j]? =some u->w.cell? ((⟨g,0,none⟩:Addr).add j)=some u:=hr.cells (g:=g) rfl;obtain⟨v',w',iz,ho,y9⟩:=run_append_arg_grows (P:=P) w t ty e i zv A.n bytes ht h1 h2 h3 h4 hz hn ⟨g,0,none⟩ xs.length cap C Xr holds ⟨b,o,none⟩ ys.length c D K7 B8 q0 NX hb
    obtain⟨q1,q2⟩:=fin v' w' ⟨ho.1,ho.2.imp id (fun⟨g',Tp,ab0,p3,p4,p5⟩=>⟨g',Tp,ab0,p3,Nat.le_trans lg p4,p5⟩)⟩
     ⟨y9.os,y9.tape,y9.output,y9.size,λk hk _=>y9.block k hk (by simp)⟩ (λk hk=> .inl (ho.lt k hk).1)
    exact⟨v',w',iz,q1,q2,λk hk=> .inl (ho.lt k hk).1⟩
theorem Own.append {t ty e:TypeId} {zv:Value} {bytes:Nat} {hn:0<A.n} {M M2:aM} {base:Nat} {v u:Value} {xs ys:List α} (ht:P.underlying t=some (.slice e)) (hi:TI P e zv A.n bytes) (hz:zv.cells.size=A.n)
  (h:Own A e M w base v xs) (hle:Le M2 w M w) (hu:(A.sl hn).V M2 w ys u) (hlen:xs.length+ys.length<=140737488355328) (hb:(xs.length+ys.length)*bytes<=140737488355328) (lg:base<=w.heap.size):
  ∃v' w',(Builtin.append_ #[t,t] ty #[v,u]).run P w= .ok v' w'∧Own A e (mh M v') w' base v' (xs++ys)/\Step M w (mh M v') w' (ng v):=by
 obtain⟨v',w',h1,h2,h3,_⟩:=Own.nk (ty:=ty) ht hi hz h hle hu hlen hb lg;exact⟨v',w',h1,h2,h3⟩
theorem Rg.nk {t e:TypeId} {zv:Value} {bytes:Nat} {hn:0<A.n} {M M2:aM} {w2:World} {base:Nat} {v u:Value} {xs ys:List α} (ht:P.underlying t=some (.slice e)) (hi:TI P e zv A.n bytes) (hz:zv.cells.size=A.n)
  (hx:ev L x=some v) (hy:ev L y=some u) (hd:Nat.blt d n=true) (h:Own A e M w base v xs) (hu:(A.sl hn).V M2 w2 ys u) (hle:Le M2 w2 M w) (hlen:xs.length+ys.length<=140737488355328)
  (hb:(xs.length+ys.length)*bytes<=140737488355328) (lg:base<=w.heap.size)
  (k:∀v' w',Own A e (mh M v') w' base v' (xs++ys)->Step M w (mh M v') w' (ng v)->(∀b,v'.ownBlock=some b->w.heap.size<=b\/v.ownBlock=some b)->Rg P r n ops rest ((d,v')::L) ds w' K):
  Rg P r n ops ({dst:=some d,op:= .call {callee:= .builtin .append,args:= #[x,y],argTypes:= #[t,t]},type:=ty,pos,after:=af,guard:=none}::rest) L ds w K:=by
 obtain⟨v',w',iz,h1,h2,h3⟩:=Own.nk (ty:=ty) ht hi hz h (Le.refl M w) (hu.le hle) hlen hb lg;refine .op a05 G G hd v' w' (λρ hρ=>?_) (k v' w' h1 h2 h3);simp only[execOp,resolve,List.map_toArray,List.map_cons,List.map_nil,hρ x _ hx,hρ y _ hy];simp[invoke,builtin,iz]
def kE (v u:Value):Prop:=∀b,v.ownBlock=some b->u.ownBlock≠some b
theorem kE.symm {v u:Value} (h:kE v u):kE u v:=λb h1 h2=>h b h2 h1
theorem kE.nil (v:Value):kE v (.slice none 0 0):=λb _ h=>by cases h
theorem kE.grown {v v' u:Value} (h:kE v u) (hF:∀b,v'.ownBlock=some b->w.heap.size<=b\/v.ownBlock=some b) (hu:∀b,u.ownBlock=some b->b<w.heap.size):kE v' u:=λb h1 h2=>by
 rcases hF b h1 with h3|h3
 ·have:=hu b h2;omega
 ·exact h b h3 h2
theorem Rg.append {t e:TypeId} {zv:Value} {bytes:Nat} {hn:0<A.n} {M M2:aM} {w2:World} {base:Nat} {v u:Value} {xs ys:List α} (ht:P.underlying t=some (.slice e)) (hi:TI P e zv A.n bytes) (hz:zv.cells.size=A.n)
  (hx:ev L x=some v) (hy:ev L y=some u) (hd:Nat.blt d n=true) (h:Own A e M w base v xs) (hu:(A.sl hn).V M2 w2 ys u) (hle:Le M2 w2 M w) (hlen:xs.length+ys.length<=140737488355328)
  (hb:(xs.length+ys.length)*bytes<=140737488355328) (lg:base<=w.heap.size)
  (k:∀v' M' w',Own A e M' w' base v' (xs++ys)->Step M w M' w' (ng v)->Rg P r n ops rest ((d,v')::L) ds w' K):
  Rg P r n ops ({dst:=some d,op:= .call {callee:= .builtin .append,args:= #[x,y],argTypes:= #[t,t]},type:=ty,pos,after:=af,guard:=none}::rest) L ds w K:=by
 obtain⟨v',w',iz,h1,h2⟩:=Own.append (ty:=ty) ht hi hz h (Le.refl M w) (hu.le hle) hlen hb lg;refine .op a05 G G hd v' w' (λρ hρ=>?_) (k v' _ w' h1 h2);simp only[execOp,resolve,List.map_toArray,List.map_cons,List.map_nil,hρ x _ hx,hρ y _ hy];simp[invoke,builtin,iz]
theorem Rg.zc {t e:TypeId} {zv:Value} {bytes:Nat} {hn:0<A.n} {M M2:aM} {w2:World} {a:Option Addr} {u:Value} {xs ys:List α} (ht:P.underlying t=some (.slice e)) (hi:TI P e zv A.n bytes) (hz:zv.cells.size=A.n)
  (hx:ev L x=some (.slice a xs.length xs.length)) (hy:ev L y=some u) (hd:Nat.blt d n=true) (h:(A.sl hn).V M w xs (.slice a xs.length xs.length)) (tV:a=none->xs=[]) (hu:(A.sl hn).V M2 w2 ys u) (hle:Le M2 w2 M w)
  (fw:0<ys.length) (hlen:xs.length+ys.length<=140737488355328) (hb:(xs.length+ys.length)*bytes<=140737488355328)
  (k:∀v' M' w',Own A e M' w' w.heap.size v' (xs++ys)->Step M w M' w' aC->Rg P r n ops rest ((d,v')::L) ds w' K):
  Rg P r n ops ({dst:=some d,op:= .call {callee:= .builtin .append,args:= #[x,y],argTypes:= #[t,t]},type:=ty,pos,after:=af,guard:=none}::rest) L ds w K:=by
 obtain⟨a2,c,rfl,hc,hl,hs⟩:=iV.1 (hu.le hle);obtain⟨i,h1,h2,h3,h4⟩:=hi.get;have NX:xs.length+ys.length<=maxLen:=by unfold maxLen;omega
 rcases hs with rfl|⟨b,o,rfl,hmb,De⟩
 ·simp at fw
 obtain⟨D,hD,hDr⟩:=vY.all De;have K7:=hD.length;have B8:∀j u,D[j]? =some u->w.cell? ((⟨b,o,none⟩:Addr).add j)=some u:=λj u hj=>by rw[Addr.add_mid];exact hDr j u hj
 have hD1:=hD.one
 have hold:∃C,fN A M w xs C/\∃v' w',(Builtin.append_ #[t,t] ty #[.slice a xs.length xs.length,.slice (some ⟨b,o,none⟩) ys.length c]).run P w= .ok v' w'∧w'.ownsRow w.heap.size e A.n v' (xs.length+ys.length) (C++D)/\w.grownBy w' none:=by
  cases a with
  |none=>
   have:=tV rfl;subst this
   obtain⟨v',w',iz,ho,y9,_⟩:=run_append_own (P:=P) w w.heap.size t ty e i zv A.n bytes ht h1 h2 h3 h4 hz hn (.slice none 0 0) 0 [] (World.ownsRow_nil w _ e A.n) ⟨b,o,none⟩ ys.length c D K7 B8 hD1
    (by simpa using NX) (by simpa using hb) (Nat.le_refl _)
   exact⟨[],rfl,v',w',iz,by simpa using ho,⟨y9.os,y9.tape,y9.output,y9.size,λk hk _=>y9.block k hk (by simp[Value.ownBlock])⟩⟩
  |some p=>
   obtain⟨_,_,he,_,_,VJ⟩:=iV.1 h
   cases he
   have hC:∃C,fN A M w xs C/\∀j u,C[j]? =some u->w.cell? (p.add j)=some u:=by
    rcases VJ with rfl|⟨b1,o1,h5,VK,ai5⟩
    ·exact⟨[],rfl,λj u hj=>by simp at hj⟩
    ·cases h5;obtain⟨C,hC,hCr⟩:=vY.all ai5;exact⟨C,hC,λj u hj=>by rw[Addr.add_mid];exact hCr j u hj⟩
   obtain⟨C,hC,hCr⟩:=hC;obtain⟨v',w',iz,ho,y9⟩:=run_append_arg_grows (P:=P) w t ty e i zv A.n bytes ht h1 h2 h3 h4 hz hn p xs.length xs.length C hC.length hCr ⟨b,o,none⟩ ys.length c D K7 B8 q0 NX hb;exact⟨C,hC,v',w',iz,ho,y9⟩
 obtain⟨C,hC,v',w',iz,ho,y9⟩:=hold
 have jT:Step M w (mh M v') w' aC:=⟨yG y9.size (λb hb=>(ho.lt b hb).2),y9.os,y9.tape,y9.output,y9.size,λk hk=>⟨λh=>by
   rcases h with h|h
   ·have:=(ho.lt k h).1;omega
   ·exact h,λh=> .inr h⟩,λk hk _=>y9.block k hk (by simp),λ_ h=>h.elim⟩
 refine .op a05 G G hd v' w' (λρ hρ=>?_) (k v' _ w' ⟨⟨C++D,by rw[List.length_append];exact ho,fN.append (hD.le jT.le) (hC.le jT.le)⟩,λb hb=> .inl hb⟩ jT);simp only[execOp,resolve,List.map_toArray,List.map_cons,List.map_nil,hρ x _ hx,hρ y _ hy];simp[invoke,builtin,iz]
def lS (M:aM) (base:Nat):aM:=λk=>base<=k/\M k
theorem Step.mi {M0 M M' N:aM} {w0 w w':World} {base:Nat} (h:Step M0 w0 M w N) (h':Step M w M' w' (lS M base)) (hb:w0.heap.size<=base):Step M0 w0 M' w' N:=
 h.trans h' λb h1 h2=>absurd h2.1 q0
theorem Step.dX {e:TypeId} {M0 M M1 M' N:aM} {w0 w w1 w':World} {base:Nat} {v:Value} {xs:List α} (h:Step M0 w0 M w N) (h':Step M w M' w' (ng v)) (ho:Own A e M1 w1 base v xs) (hb:w0.heap.size<=base):Step M0 w0 M' w' N:=
 h.trans h' λb h1 h2=>absurd (ho.base b h2).1 q0
theorem Step.cr {M0 M M' N N':aM} {w0 w w':World} (h:Step M0 w0 M w N) (h':Step M w M' w' N') (hb:∀b,N' b->w0.heap.size<=b):Step M0 w0 M' w' N:=
 h.trans h' λb h1 h2=>absurd (hb b h2) q0
def Grow {α:Type} (A:RT α) (hn:0<A.n) (e:TypeId) (M:aM) (w:World) (base:Nat) (v:Value) (xs:List α):Prop:=
 Own A e M w base v xs\/∃a,v= .slice a xs.length xs.length/\(a=none->xs=[])/\(A.sl hn).V M w xs v
theorem Grow.le {hn:0<A.n} {e:TypeId} {M M':aM} {w':World} {base:Nat} {v:Value} {xs:List α} (h:Grow A hn e M w base v xs) (s:Step M w M' w' aC):Grow A hn e M' w' base v xs:=
 h.imp (·.bP s) fun⟨a,h1,h2,h3⟩=>⟨a,h1,h2,h3.le s.le⟩
theorem Rg.JV {t e:TypeId} {zv:Value} {bytes:Nat} {hn:0<A.n} {M M2:aM} {w2:World} {base:Nat} {v u:Value} {xs ys:List α} (ht:P.underlying t=some (.slice e)) (hi:TI P e zv A.n bytes) (hz:zv.cells.size=A.n)
  (hx:ev L x=some v) (hy:ev L y=some u) (hd:Nat.blt d n=true) (h:Grow A hn e M w base v xs) (hu:(A.sl hn).V M2 w2 ys u) (hle:Le M2 w2 M w) (fw:0<ys.length) (hlen:xs.length+ys.length<=140737488355328)
  (hb:(xs.length+ys.length)*bytes<=140737488355328) (lg:base<=w.heap.size)
  (k:∀v' M' w',Own A e M' w' base v' (xs++ys)->Step M w M' w' (lS M base)->Rg P r n ops rest ((d,v')::L) ds w' K):
  Rg P r n ops ({dst:=some d,op:= .call {callee:= .builtin .append,args:= #[x,y],argTypes:= #[t,t]},type:=ty,pos,after:=af,guard:=none}::rest) L ds w K:=by
 rcases h with h|⟨a,rfl,tV,h⟩
 ·exact .append ht hi hz hx hy hd h hu hle hlen hb lg λv' M' w' h1 h2=>k v' M' w' h1 (h2.eI (λb hb=>⟨(h.base b hb).1,h.mut_ b hb⟩) λb hb=>hb.2)
 ·refine .zc ht hi hz hx hy hd h tV hu hle fw hlen hb λv' M' w' h1 h2=>k v' M' w' ?_ (h2.eI (λb hb=>hb.elim) λb hb=>hb.2)
  obtain⟨⟨C,hr,ha⟩,hm⟩:=h1;exact⟨⟨C,⟨hr.1,hr.2.imp id fun⟨g,cap,cur,p3,p4,p5⟩=>⟨g,cap,cur,p3,Nat.le_trans lg p4,p5⟩⟩,ha⟩,hm⟩
def rm (M:aM) (v:Value):aM:=λk=>M k/\v.ownBlock≠some k
theorem tW (M:aM) (v:Value) (w:World):Le M w (rm M v) w:=λ_ _ h=>⟨λh2=>h h2.1,rfl⟩
theorem Own.view {hn:0<A.n} {e:TypeId} {M:aM} {base:Nat} {v:Value} {xs:List α} (h:Own A e M w base v xs) (hlen:xs.length<=140737488355328):(A.sl hn).V (rm M v) w xs v:=
 h.sl (tW M v w) (λ_ hb h2=>h2.2 hb) hlen
theorem Lt.rm {M:aM} {w:World} (h:Lt M w) (v:Value):Lt (rm M v) w:=λb hb=>h b hb.1
theorem Step.freeze {M0 M N:aM} {w0 w:World} (h:Step M0 w0 M w N) {v:Value} (hv:∀b,v.ownBlock=some b->w0.heap.size<=b):Step M0 w0 (rm M v) w N:=
 ⟨λh0=>(h.lt h0).rm v,h.os,h.tape,h.output,h.size,λb hb=>⟨λh1=>(h.mem b hb).1 h1.1,λh1=>⟨(h.mem b hb).2 h1,λh2=>by have:=hv b h2;omega⟩⟩,h.same,h.sub⟩
theorem Own.jf {e:TypeId} {M:aM} {base base':Nat} {v:Value} {xs:List α} (h:Own A e M w base v xs) (hb:base'≤base):Own A e M w base' v xs:=by
 obtain⟨⟨C,hr,ha⟩,hm⟩:=h;exact⟨⟨C,⟨hr.1,hr.2.imp id fun⟨g,cap,cur,p3,p4,p5⟩=>⟨g,cap,cur,p3,Nat.le_trans hb p4,p5⟩⟩,ha⟩,hm⟩
theorem B9 {M:aM} {w:World}:∀{xs:List UInt8} {C:List Value},fN RT.u8 M w xs C->C=xs.map λb=> .int .u8 (b.toNat:Int)
 |[],_,h=>h
 |x::xs,_,⟨vs,rest,h1,h2,h3⟩=>by
  have Hs:vs=[.int .u8 x.toNat]:=h2;subst h1;rw[Hs,B9 h3];rfl
theorem Rg.b2s {s t e:TypeId} {hn:0<RT.u8.n} {M:aM} {xs:List UInt8} {v:Value} (hs:P.underlying s=some (.slice e)) (he:P.underlying e=some (.int .u8)) (ht:P.underlying t=some .string) (hx:ev L x=some v) (hd:Nat.blt d n=true)
  {M1:aM} {w1:World} (hv:(RT.u8.sl hn).V M1 w1 xs v) (hle:Le M1 w1 M w) (k:Rg P r n ops rest ((d,.string ⟨xs.toArray⟩)::L) ds w K):
  Rg P r n ops ({dst:=some d,op:= .convert s t x,type:=ty,pos,after:=af,guard:=none}::rest) L ds w K:=by
 obtain⟨a,cap,rfl,hc,hl,rK⟩:=iV.1 (hv.le hle);refine .op a05 G G hd _ w (λρ hρ=>?_) k;simp only[execOp,hρ x _ hx];rw[Sem.run_bind,run_convert_bytes_string (P:=P) w s t e a xs.length cap hs he ht]
 cases a with
 |none=>
  rcases rK with rfl|⟨b,o,h,_⟩
  ·simp[Conv.bytesToString];rfl
  ·cases h
 |some p=>
  have ab2:(loadCells p xs.length).run P w= .ok ((xs.map λb=>(b.toNat:Int)).map (Value.int .u8)).toArray w:=by
   rcases rK with rfl|⟨b,o,h,hm,De⟩
   ·simp[loadCells,loadCellsFrom]
   ·cases h;obtain⟨C,hC,hCr⟩:=vY.all De;have hCe:=B9 hC;have:=run_loadCells_list (P:=P) w ⟨b,o,none⟩ C (λj u hj=>by rw[Addr.add_mid];exact hCr j u hj);rw[hC.length,show xs.length*RT.u8.n=xs.length from Nat.mul_one _]at this;rw[this,hCe];simp
  rw[run_bytesToString (P:=P) w p xs.length cap _ ab2]
  have key:∀(l:List UInt8) (acc:ByteArray),(l.map λb=>(b.toNat:Int)).foldl (λr n=>r.push (UInt8.ofNat n.toNat)) acc=⟨acc.data++l.toArray⟩:=by
   intro l
   induction l with
   |nil=>intro acc;simp
   |cons b l ih=>
    intro acc;simp only[List.map_cons,List.foldl_cons,ih];congr 1;simp[ByteArray.push]
  simp[key]
end
end Go.K
namespace Go.K
open Go.ChangeShapes Go.WideShapes Go.ChangeAt Go.RowKit
def iv {α:Type} (P:Program) (t:TypeId) (A:RT α):Prop:=
 ∀{H:Type} {enc:TypeId×Value->H} {w:World} {base fuel:Nat} {spare:Nat->Bool} {cs:List Value} {d:DataW H} {ps:List MemPlace},
  DataW.trod enc P w base spare true fuel t cs=some (d,ps)->(∀n∈DataW.weights P t d,n<=reachBytes)->∃x,A.R aC w x cs
theorem iv.int {P:Program} {t:TypeId} {k:IntKind} (ht:P.underlying t=some (.int k)):iv P t (RT.int k):=by
 intro H enc w base fuel spare cs d ps h hw
 cases fuel with
 |zero=>simp[DataW.trod]at h
 |succ n=>
  unfold DataW.trod at h;rw[ht]at h
  split at h<;>simp_all
  obtain⟨⟨h1,h2⟩,_⟩:=h;simp only[Lit.wf,Bool.and_eq_true,decide_eq_true_eq]at h2;exact⟨_,G,h2.1,h2.2⟩
theorem iv.bool {P:Program} {t:TypeId} (ht:P.underlying t=some .bool):iv P t RT.bool:=by
 intro H enc w base fuel spare cs d ps h hw
 cases fuel with
 |zero=>simp[DataW.trod]at h
 |succ n=>
  unfold DataW.trod at h;rw[ht]at h
  split at h<;>simp_all
  have key:∀b:Bool,RT.bool.R aC w false [Value.bool b]\/RT.bool.R aC w true [Value.bool b]:=λb=>by cases b<;>first|exact .inl rfl|exact .inr rfl
  exact key _
theorem iv.str {P:Program} {t:TypeId} (ht:P.underlying t=some .string):iv P t RT.str:=by
 intro H enc w base fuel spare cs d ps h hw
 cases fuel with
 |zero=>simp[DataW.trod]at h
 |succ n=>
  unfold DataW.trod at h;rw[ht]at h
  split at h<;>simp_all
  rename_i s
  obtain⟨h1,h2,h3⟩:=h;subst h2;have:=hw s.data.toList.length (by simp[DataW.weights]);have hr:reachBytes<=140737488355328:=by decide
  refine⟨s.data.toList,?_,Nat.le_trans this hr⟩;simp
theorem NZ (a:Addr) (i:Nat) (h:a.spot=none):a.add i=⟨a.block,a.off+i,none⟩:=by
 unfold Addr.add
 split
 ·next h0=>subst h0;cases a;simp_all
 ·rfl
theorem iv.sl {P:Program} {t e:TypeId} {α:Type} {A:RT α} {hn:0<A.n} (ht:P.underlying t=some (.slice e)) {nb:Nat} (hc:P.cellsOf e=A.n) (VL:P.bytesOf e=nb) (Nr:nb≠0) (hA:iv P e A):iv P t (A.sl hn):=by
 have Tq:P.bytesOf e≠0:=by rw[VL];exact Nr
 intro H enc w base fuel spare cs d ps h hw;rcases DataW.trod_slice ht h with⟨h1,h2⟩|⟨a,len,cap,elems,rest,n,_,rfl,hx,hb,hl,hm,hlen,De,Xt,hns⟩
 ·exact⟨[],none,0,by rw[h1];rfl,Nat.le_refl _,Nat.zero_le _,.inl rfl⟩
 ·injection hx with hd sO
  have tX:DataW.weights P t d=(elems.length+rest.length)*P.bytesOf e::(DataW.weightsAll P e (elems.map (·.1))++DataW.weightsAll P e (rest.map (·.1))):=by
   rw[hd];simp[DataW.weights,ht]
  have h1:(elems.length+rest.length)*P.bytesOf e<=reachBytes:=hw _ (by rw[tX];exact List.mem_cons_self ..)
  have h2:elems.length<=140737488355328:=by
   have hr:reachBytes<=140737488355328:=by decide
   have:=Nat.le_mul_of_pos_right (elems.length+rest.length) (Nat.pos_of_ne_zero Tq);omega
  have gD:∀y∈elems,∀n∈DataW.weights P e y.1,n<=reachBytes:=λy hy n hn=>by
   refine hw n ?_;rw[tX];refine List.mem_cons_of_mem _ (List.mem_append_left _ ?_);clear tX hw h1 h2 Xt hns De hlen hd h sO
   induction elems with
   |nil=>cases hy
   |cons z zs ih=>
    simp only[List.map_cons,DataW.weightsAll,List.mem_append];rcases List.mem_cons.1 hy with rfl|hy
    ·exact .inl hn
    ·exact .inr (ih hy)
  have hex:∀i,i<len->∃x vs,A.R aC w x vs/\∀j:Nat,j<A.n->w.cell? (a.add (i*A.n+j))=vs[j]? :=λi hi=>by
   have h3:=De i hi;rw[List.getElem?_eq_getElem q0,Option.bind_eq_some_iff]at h3;obtain⟨vs,h4,h5⟩:=h3;obtain⟨x,h6⟩:=hA (d:=elems[i].1) (ps:=elems[i].2) h5 (gD _ (List.getElem_mem ..));obtain⟨_,h7,h8⟩:=World.cells?_some h4;rw[hc]at h8 h7;refine ⟨x,vs,h6,λj hj=> ?_⟩;rw[<-h8 j hj];unfold Addr.add;by_cases Xu:j=0
   ·subst Xu;simp
   ·by_cases N0:i*A.n=0
    ·simp[N0,Xu]
    ·rw[if_neg q0,if_neg N0,if_neg Xu];simp[Nat.add_assoc]
  rcases Nat.eq_zero_or_pos len with h0|yZ
  ·subst h0;exact⟨[],some a,cap,G,Nat.zero_le _,Nat.zero_le _,.inl G⟩
  ·obtain⟨x0,v0,wg,hc0⟩:=hex 0 yZ;have qA:0<v0.length:=by rw[A.len wg];exact hn
   have hs:=hc0 0 hn;rw[List.getElem?_eq_getElem qA,Nat.zero_mul,Nat.zero_add]at hs
   have N1:a.spot=none:=by
    unfold Addr.add at hs;rw[if_pos rfl]at hs;unfold World.cell? at hs
    cases hh:a.spot with
    |none=>rfl
    |some s=>rw[hh]at hs;split at hs<;>simp_all
   let f:Nat->α:=λi=>if h:i<len then(hex i h).choose else x0
   have hf:∀i,i<len->∃vs,A.R aC w (f i) vs/\∀j:Nat,j<A.n->w.cell? (a.add (i*A.n+j))=vs[j]? :=λi hi=>by
    have:f i=(hex i hi).choose:=dif_pos hi;rw[this];exact(hex i hi).choose_spec
   refine⟨(List.range len).map f,some a,cap,by simp,by simpa using hl,by simp;omega,.inr ⟨a.block,a.off,by cases a;simp_all,λh=>h.elim,λi x EN=>?_⟩⟩;have hi:i<len:=by have:=(List.getElem?_eq_some_iff.1 EN).1;simpa using this
   obtain⟨vs,h3,h4⟩:=hf i hi;have hxe:x=f i:=by simp[hi]at EN;exact EN.symm
   subst hxe;refine ⟨vs,h3,λj v hj=> ?_⟩;have oX:j<A.n:=by rw[<-A.len h3];exact(List.getElem?_eq_some_iff.1 hj).1
   rw[<-hj,<-h4 j oX,NZ _ _ N1,Nat.add_assoc]
theorem iv.pair {P:Program} {t:TypeId} {fs:Array Field} {f0 f1:Field} {α β:Type} {A:RT α} {B:RT β} (ht:P.underlying t=some (.struct fs)) (Nt:fs[0]? =some f0) (K8:fs[1]? =some f1) (Xv:fs.size=2) (h0:f0.offset=0) (h1:f1.offset=A.n)
  (c0:P.cellsOf f0.type=A.n) (c1:P.cellsOf f1.type=B.n) (ct:P.cellsOf t=A.n+B.n) (hA:iv P f0.type A) (hB:iv P f1.type B):iv P t (A.pair B):=by
 intro H enc w base fuel spare cs d ps h hw;obtain⟨xs,n,_,hx,hl,hlen,hf⟩:=DataW.trod_struct ht h;injection hx with hd sO
 have xF:xs.length=2:=by omega
 match xs,xF with
 |[y0,y1],_=>
  have g0:=hf 0 f0 Nt;have g1:=hf 1 f1 K8;rw[h0,c0]at g0;rw[h1,c1]at g1
  have hty:fs.toList.map (λx=>x.type)=[f0.type,f1.type]:=by
   have Ht:fs.toList.length=2:=by simpa using Xv
   match yH:fs.toList,Ht with
   |[a,b],_=>
    have e0:fs.toList[0]? =some f0:=by simpa using Nt
    have e1:fs.toList[1]? =some f1:=by simpa using K8
    rw[yH]at e0 e1;simp at e0 e1;simp[e0,e1]
  have tX:DataW.weights P t d=DataW.weightsEach P [f0.type,f1.type] [y0.1,y1.1]:=by
   rw[hd];simp[DataW.weights,ht,hty]
  obtain⟨x0,e0⟩:=hA (d:=y0.1) (ps:=y0.2) g0 (λm hm=>hw m (by rw[tX];exact DataW.weights_mem_each (j:=0) G G m hm));obtain⟨x1,e1⟩:=hB (d:=y1.1) (ps:=y1.2) g1 (λm hm=>hw m (by rw[tX];exact DataW.weights_mem_each (j:=1) G G m hm));refine⟨(x0,x1),_,_,?_,e0,e1⟩;rw[List.drop_zero,List.take_of_length_le (l:=cs.drop A.n) (by rw[List.length_drop,hl,ct];omega),List.take_append_drop]
theorem iv.arg {P:Program} {α:Type} {A:RT α} {t:TypeId} {H:Type} {enc:TypeId×Value->H} {w:World} {base:Nat} {spare:Nat->Bool} {v:Value} {d:DataW H} {ps:List MemPlace} (hA:iv P t A)
  (h:DataW.Trod enc P w base spare true t v d ps) (hv:∀vs,vs.length=A.n->v.cells.toList=vs->(∀u∈vs,u.oneCell'=true)->v=A.val vs) (hw:∀n∈DataW.weights P t d,n<=reachBytes):∃x,A.V aC w x v:=by
 obtain⟨fuel,hf⟩:=h;obtain⟨x,hx⟩:=hA hf hw;exact⟨x,_,hx,hv _ (A.len hx) G (A.one hx)⟩
theorem N2 {P:Program} {f:FuncId} {args:Array Value} {w:World} (h:Spec P f args w (λv' w'=>v'= .bool true/\Step aC w aC w' aC)):Calls P f args w λe w'=>e= .returned (.bool true)/\Below w.heap.size w w':=
 Calls.mono h λ_ _ ⟨_,he,hv,s⟩=>⟨by rw[he,hv],s.below⟩
end Go.K
namespace Go.K
theorem ER {P:Program} {w:World} {nm:String} {g:Nat} {cs:Array Value} (hg:P.globalNamed nm=some g) (h:w.var? P nm=some cs):∃e fr,w.heap[g]? =some (.cells cs e fr):=by
 simp only[World.var?,hg,Option.bind_some]at h
 split at h
 ·rename_i c e fr hh
  obtain rfl:=Option.some.inj h;exact⟨e,fr,hh⟩
 ·cases h
theorem HF {H:Type} {enc:TypeId×Value->H} {P:Program} {w:World} {base fuel:Nat} {spare:Nat->Bool} {held:Bool} {t e:TypeId} {n:Nat} {cs:Array Value} {l:List Nat} {p:List MemPlace} {d:DataW H}
  (ht:P.underlying t=some (.array n e)) (he:P.underlying e=some (.int .u8)) (hc:P.cellsOf e=1) (hct:P.cellsOf t=n)
  (h:DataW.trod enc P w base spare held fuel t cs.toList=some (d,p)) (hd:d= .agg (l.map fun(k:Nat)=> .lit (.int .u8 (k:Int))):=by rfl):(l.map fun(k:Nat)=>Value.int .u8 (k:Int)).toArray=cs:=by
 subst hd;obtain⟨xs,m,rfl,hx,hl,hn,De⟩:=DataW.trod_array ht h;rw[hc]at De;simp only[Prod.mk.injEq,DataW.agg.injEq]at hx
 have N4:l.length=n:=by
  have:=congrArg List.length hx.1;rw[List.length_map,List.length_map,hn]at this;exact this
 suffices hs:l.map (fun(k:Nat)=>Value.int .u8 (k:Int))=cs.toList by rw[hs]
 refine List.ext_getElem? λi=>?_
 rcases Nat.lt_or_ge i n with hi|hi
 ·have hE:=De i hi;obtain⟨x,VM⟩:∃x,xs[i]? =some x:=⟨_,List.getElem?_eq_getElem q0⟩;obtain⟨k,hk⟩:∃k,l[i]? =some k:=⟨_,List.getElem?_eq_getElem q0⟩;rw[VM,Nat.mul_one]at hE;obtain⟨z,e1,e2,_⟩:=DataW.trod_int he hE;have h1:(l.map fun(k:Nat)=>(DataW.lit (.int .u8 (k:Int)):DataW H))[i]? =some (.lit (.int .u8 (k:Int))):=by rw[List.getElem?_map,hk];rfl
  rw[hx.1,List.getElem?_map,VM,e2]at h1;have hz:z=(k:Int):=by simpa using h1
  have h2:((cs.toList.drop i).take 1)[0]? =cs.toList[i]? :=by rw[List.getElem?_take,if_pos Tg,List.getElem?_drop,Nat.add_zero]
  rw[e1]at h2;rw[<-h2,List.getElem?_map,hk,hz];rfl
 ·rw[List.getElem?_eq_none (by rw[List.length_map];omega),List.getElem?_eq_none (by rw[hl,hct];omega)]
structure cj (M:aM) where
 p:Value->World->Prop
 U:aM
 mono:∀{v w w' N},p v w->Step M w M w' N->(∀b,N b->U b)->p v w'
def K9:aM:=λ_=>True
def cj.eq {M:aM} (c:Value):cj M:=⟨λv _=>v=c,K9,λh _ _=>h⟩
def cj.V {M:aM} {α:Type} (A:RT α) (x:α):cj M:=⟨λv w=>A.V M w x v,K9,λh s _=>h.le s.le⟩
def cj.ptr {M:aM} {α:Type} (A:RT α) (x:α) (hn:0<A.n:=by decide):cj M:=⟨λv w=>cO A M w v x,K9,λh s _=>h.le hn s.le⟩
def cj.pure {M:aM} (q:Value->Prop):cj M:=⟨λv _=>q v,K9,λh _ _=>h⟩
def cj.mk' {M:aM} (p:Value->World->Prop) (mono:∀{v w w'},p v w->Step M w M w' aC->p v w'):cj M:=⟨p,aC,λh s hN=>mono h (s.eI hN λ_ hb=>hb.elim)⟩
def jP:List aM->aM
 |[]=>aC
 |[N]=>N
 |N::Ns=>λb=>N b\/jP Ns b
theorem fR:∀{Ns:List aM} {b:Nat},jP Ns b↔∃N∈Ns,N b
 |[],b=>by simp[jP,aC]
 |[N],b=>by simp[jP]
 |N::N'::Ns,b=>by
  have:=fR (Ns:=N'::Ns) (b:=b);simp only[jP];rw[this];simp
def dg (o:Oper):List Nat:=(o.after.toList.filter (Region.binds .any)).map (·.on)
def lh (l:List Oper) (j t:Nat):Bool:=l.all λo=> !(o.dst==some t)||(dg o).contains j
def kq (l:List Oper) (j:Nat) (L:Sl):Sl:=L.filter λp=>lh l j p.1
def La (d:Option Nat) (v:Value) (L:Sl):Sl:=match d with|some d=>(d,v)::L|none=>L
def fq:List Oper->Nat->Bool
 |[],_=>true
 |o::l,k=>(dg o).all (Nat.blt · k)&&(match o.dst with|some d=>l.all (λo'=> !(o'.dst==some d))|none=>true)&&fq l (k+1)
def Tr (E:List (Nat×aM)) (j:Nat):aM:=jP ((E.filter λp=>p.1==j).map (·.2))
def ab6 (l:List Oper) (E:List (Nat×aM)) (j:Nat):aM:=jP ((E.filter λp=> !(p.1==j)&& !((l[p.1]?.map dg).getD []).contains j).map (·.2))
def rr {M:aM} (E:List (Nat×aM)):List Oper->List (cj M)->Nat->Prop
 |o::os,s::ss,i=>(∀p∈E.filter (λp=> !(p.1==i)&& !(dg o).contains p.1),∀b,p.2 b->s.U b)/\rr E os ss (i+1)
 |_,_,_=>True
theorem rr.get {M:aM} {E:List (Nat×aM)}:∀{os:List Oper} {ss:List (cj M)} {k:Nat},rr E os ss k->∀i o s,os[i]? =some o->ss[i]? =some s->∀p∈E,p.1≠k+i->¬p.1∈dg o->∀b,p.2 b->s.U b
 |[],_,_,_,i,_,_,h,_,_,_,_,_,_,_=>by simp at h
 |_::_,[],_,_,i,_,_,_,h,_,_,_,_,_,_=>by simp at h
 |x::os,y::ss,k,h,0,o,s,ho,hs,p,hp,h1,h2,b,hb=>by
  simp at ho hs;subst ho;subst hs;exact h.1 p (List.mem_filter.2 ⟨hp,by simp;exact⟨h1,h2⟩⟩) b hb
 |x::os,y::ss,k,h,i+1,o,s,ho,hs,p,hp,h1,h2,b,hb=>rr.get h.2 i o s (by simpa using ho) (by simpa using hs) p hp q0 h2 b hb
def ES {M:aM} (F:List (Nat×aM)) (l:List Oper) (S:List (cj M)):Prop:=
 ∀i o s j oj sj,l[i]? =some o->S[i]? =some s->l[j]? =some oj->S[j]? =some sj->j≠i->¬j∈dg o->∀v vj w w',s.p v w->Step M w M w' (Tr F j)->sj.p vj w'→s.p v w'
theorem N5 {F:List (Nat×aM)} {j b:Nat} (hb:Tr F j b):∃p∈F,p.1=j/\p.2 b:=by
 obtain⟨N,hN,Ez⟩:=fR.1 hb;obtain⟨p,hp,rfl⟩:=List.mem_map.1 hN;obtain⟨h1,h2⟩:=List.mem_filter.1 hp;exact⟨p,h1,by simpa using h2,Ez⟩
theorem rr.st {M:aM} {F:List (Nat×aM)} {l:List Oper} {S:List (cj M)} (h:rr F l S 0):ES F l S:=λi o s j oj sj ho hs _ _ fw hnp v vj w w' hp st _=>
 s.mono hp st λb hb=>by
  obtain⟨p,h1,h6,h7⟩:=N5 hb;exact h.get i o s ho hs p h1 q0 (by rw[h6];exact hnp) b h7
def ab7 {M:aM} (E:List (Nat×aM)) (j:Nat) (d:Option Nat) (s:cj M) (w0:World) (L:Sl) (ds:List Deferred):Kt:=λe L' p9 w'=>e= .normal/\p9=ds/\∃v,L'=La d v L/\s.p v w'∧Step M w0 M w' (Tr E j)
def mj {M:aM} (l:List Oper) (S:List (cj M)) (w:World) (k:Sl->Prop):List Nat->Sl->Prop
 |[],acc=>k acc
 |i::is,acc=>match l[i]?,S[i]? with
  |some o,some s=>match o.dst with
   |some d=>∀v,s.p v w->mj l S w k is ((d,v)::acc)
   |none=>∀v,s.p v w->mj l S w k is acc
  |_,_=>mj l S w k is acc
def iH {M:aM} (w:World) (k:Sl->Prop):List Oper->List (cj M)->Sl->Prop
 |o::os,s::ss,acc=>match o.dst with
  |some d=>∀v,s.p v w->iH w k os ss ((d,v)::acc)
  |none=>∀v,s.p v w->iH w k os ss acc
 |_,_,acc=>k acc
def Obl (P:Program) (r:Option Nat) (n:Nat) {M:aM} (F:List (Nat×aM)) (w:World) (l:List Oper) (S:List (cj M)) (ds:List Deferred) (L:Sl) (j:Nat) (o:Oper) (s:cj M):Prop:=
 ∀w' E,Step M w M w' (ab6 l F j)->mj l S w' (λacc=>Rg P r n l.toArray [o] (acc++(kq l j L++E)) ds w' (ab7 F j o.dst s w' (acc++(kq l j L++E)) ds)) (dg o) []
def cf (P:Program) (r:Option Nat) (n:Nat) {M:aM} (F:List (Nat×aM)) (w:World) (l:List Oper) (S:List (cj M)) (ds:List Deferred) (L:Sl):List Oper->List (cj M)->Nat->Prop
 |o::os,s::ss,j=>Obl P r n F w l S ds L j o s/\cf P r n F w l S ds L os ss (j+1)
 |[],_,_=>True
 |_::_,[],_=>False
theorem cf.cons {P:Program} {r:Option Nat} {n:Nat} {M:aM} {F:List (Nat×aM)} {w:World} {l:List Oper} {S:List (cj M)} {ds:List Deferred} {L:Sl} {o:Oper} {os:List Oper} {s:cj M} {ss:List (cj M)} {j:Nat}
  (h:Obl P r n F w l S ds L j o s) (h':cf P r n F w l S ds L os ss (j+1)):cf P r n F w l S ds L (o::os) (s::ss) j:=⟨h,h'⟩
theorem cf.nil {P:Program} {r:Option Nat} {n:Nat} {M:aM} {F:List (Nat×aM)} {w:World} {l:List Oper} {S:List (cj M)} {ds:List Deferred} {L:Sl} {ss:List (cj M)} {j:Nat}:cf P r n F w l S ds L [] ss j:=by
 unfold cf;trivial
section
variable {P:Program} {r:Option Nat} {n:Nat} {L:Sl} {ds:List Deferred} {w:World} {K:Kt} {M:aM} {F:List (Nat×aM)}
theorem l2 {A B:Sl} {t:Nat} {v:Value} (h:lk (A++B) t=some v):lk A t=some v\/lk B t=some v:=by
 induction A with
 |nil=>exact .inr h
 |cons p A ih=>
  obtain⟨k,u⟩:=p;simp only[List.cons_append,lk]at h ⊢
  cases hb:Nat.beq k t with
  |true=>rw[hb]at h;exact .inl h
  |false=>rw[hb]at h;exact ih h
theorem qB {A B:Sl} {t:Nat} (h:∃v,lk B t=some v):∃v,lk (A++B) t=some v:=by
 induction A with
 |nil=>exact h
 |cons p A ih=>
  obtain⟨k,u⟩:=p;simp only[List.cons_append,lk]
  cases hb:Nat.beq k t with
  |true=>exact⟨u,rfl⟩
  |false=>exact ih
theorem j7 {f:Nat->Bool} {A:Sl} {t:Nat} {v:Value} (h:lk (A.filter λp=>f p.1) t=some v):f t=true/\lk A t=some v:=by
 induction A with
 |nil=>simp[lk]at h
 |cons p A ih=>
  obtain⟨k,u⟩:=p;rw[List.filter_cons]at h
  split at h
  ·rename_i hf
   simp only[lk]at h ⊢
   cases hb:Nat.beq k t with
   |true=>
    rw[hb]at h;rw[<-Nat.eq_of_beq_eq_true hb];exact⟨hf,h⟩
   |false=>rw[hb]at h;exact ih h
  ·rename_i hf
   obtain⟨h1,h2⟩:=ih h;refine ⟨h1,?_⟩;simp only[lk]
   cases hb:Nat.beq k t with
   |true=>rw[Nat.eq_of_beq_eq_true hb]at hf;exact absurd h1 hf
   |false=>exact h2
def Lb (a:Act):Sl:=(List.range a.tmps.size).map λt=>(t,a.tmps.getD t undef)
theorem xG (f:Nat->Value):∀(m s t:Nat) (v:Value),lk ((List.range' s m).map λt=>(t,f t)) t=some v->s<=t/\t<s+m/\v=f t
 |0,s,t,v,h=>by simp[lk]at h
 |m+1,s,t,v,h=>by
  simp only[List.range'_succ,List.map_cons,lk]at h
  cases hb:Nat.beq s t with
  |true=>rw[hb]at h;cases h;have:=Nat.eq_of_beq_eq_true hb;subst this;exact⟨Nat.le_refl _,by omega,rfl⟩
  |false=>
   rw[hb]at h;obtain⟨h1,h2,h3⟩:=xG f m (s+1) t v h;exact⟨by omega,by omega,h3⟩
theorem tY (f:Nat->Value):∀(m s t:Nat),s<=t->t<s+m->∃v,lk ((List.range' s m).map λt=>(t,f t)) t=some v
 |0,s,t,h1,h2=>by omega
 |m+1,s,t,h1,h2=>by
  simp only[List.range'_succ,List.map_cons,lk]
  cases hb:Nat.beq s t with
  |true=>exact⟨_,rfl⟩
  |false=>
   have:s≠t:=λe=>by subst e;simp[Nat.beq_refl]at hb
   exact tY f m (s+1) t q0 q0
def VN (F:List (Nat×aM)) (D:Nat->Prop):aM:=λb=>∃p∈F,D p.1/\p.2 b
structure Inv (F:List (Nat×aM)) (S:List (cj M)) (l:List Oper) (w0:World) (L:Sl) (ds:List Deferred) (n:Nat) (D:Nat->Prop) (a:Act) (w:World):Prop where
 step:Step M w0 M w (VN F D)
 fin:∀i o s,l[i]? =some o->S[i]? =some s->D i->o.dst=none->∃v,s.p v w
 size:n<=a.tmps.size
 defers:a.defers=ds
 done:∀i o s d,l[i]? =some o->S[i]? =some s->D i->o.dst=some d->∃v,a.tmps[d]? =some v/\s.p v w
 base:∀t v,lk L t=some v->(∀i o,l[i]? =some o->D i->o.dst≠some t)->a.tmps[t]? =some v
 closed:∀i o,l[i]? =some o->D i->∀k∈dg o,D k
theorem dM:∀{l:List Oper} {k:Nat},fq l k=true->∀i o,l[i]? =some o->∀j∈dg o,j<k+i
 |[],_,_,i,o,h,_,_=>by simp at h
 |x::l,k,hl,0,o,h,j,hj=>by
  simp at h;subst h;simp only[fq,Bool.and_eq_true,List.all_eq_true]at hl;have:=hl.1.1 j hj;simpa[Nat.blt_eq]using this
 |x::l,k,hl,i+1,o,h,j,hj=>by
  simp only[fq,Bool.and_eq_true]at hl;have:=dM hl.2 i o a86 j hj;omega
theorem wh:∀{l:List Oper} {k:Nat},fq l k=true->∀(i j:Nat) (o o':Oper) (d:Nat),l[i]? =some o->l[j]? =some o'→i≠j->o.dst=some d->o'.dst≠some d
 |[],_,_,i,_,_,_,_,h,_,_,_=>by simp at h
 |x::l,k,hl,0,0,_,_,_,_,_,fw,_=>absurd rfl fw
 |x::l,k,hl,0,j+1,o,o',d,hi,hj,_,hd=>by
  simp at hi;subst hi;simp only[fq,Bool.and_eq_true,hd,List.all_eq_true]at hl;have hm:o'∈l:=List.mem_of_getElem? a97;have:=hl.1.2 o' hm;simpa using this
 |x::l,k,hl,i+1,0,o,o',d,hi,hj,_,hd=>by
  simp at hj;subst hj;intro VO;simp only[fq,Bool.and_eq_true,VO,List.all_eq_true]at hl;have hm:o∈l:=List.mem_of_getElem? ah6;have:=hl.1.2 o hm;simp[hd]at this
 |x::l,k,hl,i+1,j+1,o,o',d,hi,hj,fw,hd=>by
  simp only[fq,Bool.and_eq_true]at hl;exact wh hl.2 i j o o' d ah6 a97 q0 hd
theorem cf.get {w:World} {l:List Oper} {S:List (cj M)} {ds:List Deferred} {L:Sl}:∀{os:List Oper} {ss:List (cj M)} {k:Nat},cf P r n F w l S ds L os ss k->∀i o,os[i]? =some o->∃s,ss[i]? =some s/\Obl P r n F w l S ds L (k+i) o s
 |[],_,_,_,i,o,h=>by simp at h
 |x::os,[],_,h,_,_,_=>by simp[cf]at h
 |x::os,s::ss,k,h,0,o,hi=>by simp at hi;subst hi;exact⟨s,G,h.1⟩
 |x::os,s::ss,k,h,i+1,o,hi=>by
  obtain⟨s',h1,h2⟩:=cf.get h.2 i o ah6;exact⟨s',by simpa using h1,by rwa [show k+(i+1)=k+1+i from by omega]⟩
theorem mj.use {l:List Oper} {S:List (cj M)} {w:World} {k:Sl->Prop} {a:Act} {js:List Nat} (hf:∀(i:Nat) (o:Oper) (s:cj M),l[i]? =some o->S[i]? =some s->o.dst=none->i∈js->∃v,s.p v w) (hd:∀(i:Nat) (o:Oper) (s:cj M) (d:Nat),l[i]? =some o->S[i]? =some s->o.dst=some d->i∈js->∃v,a.tmps[d]? =some v/\s.p v w):
  ∀(is:List Nat) (acc:Sl),(∀i∈is,i∈js)->(∀t v,lk acc t=some v->a.tmps[t]? =some v)->mj l S w k is acc->∃N6,k N6/\∀t v,lk N6 t=some v->a.tmps[t]? =some v
 |[],acc,_,ha,h=>⟨acc,h,ha⟩
 |i::is,acc,hm,ha,h=>by
  have yY:∀i∈is,i∈js:=λx hx=>hm x (List.mem_cons_of_mem _ hx)
  simp only[mj]at h
  split at h
  ·rename_i o s ho hs
   split at h
   ·rename_i d Dg
    obtain⟨v,h1,h2⟩:=hd i o s d ho hs Dg (hm i (List.mem_cons_self ..));refine mj.use hf hd is _ yY ?_ (h v h2);intro t u hu;simp only[lk]at hu
    cases hb:Nat.beq d t with
    |true=>rw[hb]at hu;cases hu;rw[<-Nat.eq_of_beq_eq_true hb];exact h1
    |false=>rw[hb]at hu;exact ha t u hu
   ·rename_i Dg
    obtain⟨v,h2⟩:=hf i o s ho hs Dg (hm i (List.mem_cons_self ..));exact mj.use hf hd is _ yY ha (h v h2)
  ·exact mj.use hf hd is _ yY ha h
theorem iH.use {w:World} {k:Sl->Prop} {a:Act}:∀(os:List Oper) (ss:List (cj M)) (acc:Sl),(∀(i:Nat) (o:Oper) (s:cj M),os[i]? =some o->ss[i]? =some s->o.dst=none->∃v,s.p v w)->(∀(i:Nat) (o:Oper) (s:cj M) (d:Nat),os[i]? =some o->ss[i]? =some s->o.dst=some d->∃v,a.tmps[d]? =some v/\s.p v w)->
  (∀t v,lk acc t=some v->a.tmps[t]? =some v)->iH w k os ss acc->∃N6,k N6/\∀t v,lk N6 t=some v->a.tmps[t]? =some v
 |[],_,acc,_,_,ha,h=>⟨acc,by simpa[iH]using h,ha⟩
 |_::_,[],acc,_,_,ha,h=>⟨acc,by simpa[iH]using h,ha⟩
 |o::os,s::ss,acc,hf,hd,ha,h=>by
  have hf':∀(i:Nat) (o:Oper) (s:cj M),os[i]? =some o->ss[i]? =some s->o.dst=none->∃v,s.p v w:=λi o s h1 h2=>hf (i+1) o s (by simpa using h1) (by simpa using h2)
  have VO:∀(i:Nat) (o:Oper) (s:cj M) (d:Nat),os[i]? =some o->ss[i]? =some s->o.dst=some d->∃v,a.tmps[d]? =some v/\s.p v w:=λi o s d h1 h2=>hd (i+1) o s d (by simpa using h1) (by simpa using h2)
  simp only[iH]at h
  split at h
  ·rename_i d Dg
   obtain⟨v,h1,h2⟩:=hd 0 o s d rfl rfl Dg;refine iH.use os ss _ hf' VO ?_ (h v h2);intro t u hu;simp only[lk]at hu
   cases hb:Nat.beq d t with
   |true=>rw[hb]at hu;cases hu;rw[<-Nat.eq_of_beq_eq_true hb];exact h1
   |false=>rw[hb]at hu;exact ha t u hu
  ·rename_i Dg
   obtain⟨v,h2⟩:=hf 0 o s rfl rfl Dg;exact iH.use os ss _ hf' VO ha (h v h2)
theorem np {F:Fence} {m:Nat} {ops:Array Oper} {Q:Exit->Act->World->Prop} {i:Nat} {rest:List Nat} {o:Oper} {a:Act} {w:World} (ho:ops[i]? =some o)
  (h:wpListIn F m P ops (λe a' w'=>e= .normal/\wpOpsIn F m P ops Q rest a' w') [o] a w):wpOpsIn F m P ops Q (i::rest) a w:=by
 simp only[wpOpsIn,ho];simp only[wpListIn]at h
 split
 ·rename_i hw
  rw[if_pos hw]at h;obtain⟨h1,h2⟩:=h;refine ⟨h1,?_⟩;generalize (o.semAt F.round a.eval).run P w=res at h2 ⊢
  have ab8:∀{f args w'},CallsIn F (m-1) P f args w' (fun
    |.returned v,zd=>(True/\wpOpsIn F m P ops Q rest (a.put o.dst v) zd)
    |.panicked chain,zd=>(Exit.panic chain= .normal/\wpOpsIn F m P ops Q rest a zd)
    |.outgrown,_=>LetsOut (λe a' w'=>e= .normal/\wpOpsIn F m P ops Q rest a' w'))->CallsIn F (m-1) P f args w' (fun
    |.returned v,zd=>wpOpsIn F m P ops Q rest (a.put o.dst v) zd
    |.panicked chain,zd=>Q (.panic chain) a zd
    |.outgrown,_=>LetsOut Q):=λh=>h.mono λe zd he=>by
   cases e with
   |returned v=>exact he.2
   |panicked c=>exact absurd he.1 (by simp)
   |outgrown=>obtain⟨a,w,h,_⟩:=he;exact absurd h (by simp)
  cases res with
  |ok nx w'=>
   cases nx with
   |value v=>exact h2.2
   |skip=>exact h2.2
   |defer d=>exact h2.2
   |enter f args=>exact⟨h2.1,ab8 h2.2⟩
   |row row args=>exact⟨h2.1,h2.2.mono λ_ _ he=>he.2⟩
   |round l f tmps sU body=>exact⟨h2.1,h2.2.mono λe zd he=>by
     cases e with
     |returned v=>exact he.2
     |panicked c=>exact absurd he.1 (by simp)
     |outgrown=>obtain⟨a,w,h,_⟩:=he;exact absurd h (by simp)⟩
   |_=>exact h2.elim
  |halt x w'=>
   cases x with
   |panic v=>exact absurd h2.1 (by simp)
   |_=>exact h2.elim
 ·rename_i hw
  rw[if_neg hw]at h;exact⟨h.1,h.2.2⟩
theorem ze {F:Fence} {m:Nat} {ops:Array Oper} {Q Q':Exit->Act->World->Prop} {o:Oper} {a:Act} {w:World} (h:wpListIn F m P ops Q [o] a w) (hq:∀e a w,Q e a w->Q' e a w):wpListIn F m P ops Q' [o] a w:=by
 simp only[wpListIn]at h ⊢
 split
 ·rename_i hw
  rw[if_pos hw]at h;obtain⟨h1,h2⟩:=h;refine ⟨h1,?_⟩;generalize (o.semAt F.round a.eval).run P w=res at h2 ⊢
  cases res with
  |ok nx w'=>
   cases nx with
   |value v=>exact hq _ _ _ h2
   |skip=>exact hq _ _ _ h2
   |defer d=>exact hq _ _ _ h2
   |enter f args=>exact⟨h2.1,h2.2.mono λe zd he=>by
     cases e with
     |returned v=>exact hq _ _ _ he
     |panicked c=>exact hq _ _ _ he
     |outgrown=>obtain⟨a,w,h⟩:=he;exact⟨a,w,hq _ _ _ h⟩⟩
   |row row args=>exact⟨h2.1,h2.2.mono λ_ _ he=>hq _ _ _ he⟩
   |round l f tmps sU body=>exact⟨h2.1,h2.2.mono λe zd he=>by
     cases e with
     |returned v=>exact hq _ _ _ he
     |panicked c=>exact hq _ _ _ he
     |outgrown=>obtain⟨a,w,h⟩:=he;exact⟨a,w,hq _ _ _ h⟩⟩
   |_=>exact h2.elim
  |halt x w'=>
   cases x with
   |panic v=>exact hq _ _ _ h2
   |_=>exact h2.elim
 ·rename_i hw
  rw[if_neg hw]at h;exact⟨h.1,hq _ _ _ h.2⟩
theorem Inv.next {w0:World} {l:List Oper} {S:List (cj M)} {D:Nat->Prop} {a:Act} {w:World} (hi:Inv F S l w0 L ds n D a w) (dP:fq l 0=true) (xH:ES F l S) (qC:∀p∈F,∀b,p.2 b->M b)
  {j:Nat} {o:Oper} (hY:∃s,S[j]? =some s/\Obl P r n F w0 l S ds L j o s) (hj:l[j]? =some o) (nW: ¬D j) (hp:∀k∈dg o,D k) {Q:Exit->Act->World->Prop} {rest:List Nat}
  (hk:∀a' w',Inv F S l w0 L ds n (λi=>i=j\/D i) a' w'→wpOpsIn (FW r) 0 P l.toArray Q rest a' w'):wpOpsIn (FW r) 0 P l.toArray Q (j::rest) a w:=by
 obtain⟨s,hs,ho⟩:=hY
 have Lc:Step M w0 M w (ab6 l F j):=hi.step.eI (λb ⟨p,hp,hD,hb⟩=>fR.2 ⟨p.2,List.mem_map.2 ⟨p,List.mem_filter.2 ⟨hp,by
   simp only[Bool.and_eq_true,Bool.not_eq_true',beq_eq_false_iff_ne,ne_eq];refine ⟨λe=>nW (e▸hD),?_⟩
   cases hl:l[p.1]? with
   |none=>rfl
   |some oi=>
    simp only[Option.map_some,Option.getD_some]
    cases hc:(dg oi).contains j with
    |false=>rfl
    |true=>exact absurd (hi.closed p.1 oi hl hD j (by simpa using hc)) nW⟩,rfl⟩,hb⟩)
  (λb hb=>by
   obtain⟨N,hN,Ez⟩:=fR.1 hb;obtain⟨p,hp,rfl⟩:=List.mem_map.1 hN;exact qC p (List.mem_filter.1 hp).1 b Ez)
 have sV:∀b,Tr F j b->∃p∈F,p.1=j/\p.2 b:=λb hb=>by
  obtain⟨N,hN,Ez⟩:=fR.1 hb;obtain⟨p,hp,rfl⟩:=List.mem_map.1 hN;obtain⟨h1,h2⟩:=List.mem_filter.1 hp;exact⟨p,h1,by simpa using h2,Ez⟩
 have Xw:Step M w0 M w (VN F λi=>i=j\/D i):=hi.step.eI (λb ⟨p,hp,hD,hb⟩=>⟨p,hp,.inr hD,hb⟩) (λb ⟨p,hp,_,hb⟩=>qC p hp b hb);refine np (o:=o) a97 ?_;obtain⟨acc,BB,Xx⟩:=mj.use (a:=a) (js:=dg o) (λi o' s' h1 h2 h3 h4=>hi.fin i o' s' h1 h2 (hp i h4) h3) (λi o' s' d h1 h2 h3 h4=>hi.done i o' s' d h1 h2 (hp i h4) h3) (dg o) [] (λ_ h=>h) (λt v h=>by simp[lk]at h) (ho w (Lb a) Lc)
 have gD:∀t v,lk (acc++(kq l j L++Lb a)) t=some v->a.tmps[t]? =some v:=by
  intro t v h;rcases l2 h with h|h
  ·exact Xx t v h
  rcases l2 h with h|h
  ·obtain⟨h1,h2⟩:=j7 (f:=lh l j) h;refine hi.base t v h2 λi o' k9 hD hd=> ?_
   simp only[lh,List.all_eq_true]at h1;have:=h1 o' (List.mem_of_getElem? k9);simp only[hd,beq_self_eq_true,Bool.not_true,Bool.false_or,List.contains_iff_mem]at this;exact nW (hi.closed i o' k9 hD j this)
  ·simp only[Lb,List.range_eq_range']at h;obtain⟨_,h2,h3⟩:=xG _ _ _ _ _ h;rw[h3,Array.getD_eq_getD_getElem?,Array.getElem?_eq_getElem q0];rfl
 have VP:∀t,t<a.tmps.size->∃v,lk (acc++(kq l j L++Lb a)) t=some v:=λt ht=>by
  refine qB (qB ?_);simp only[Lb,List.range_eq_range'];exact tY _ _ _ _ (Nat.zero_le _) q0
 have h1:=BB.run a ⟨hi.size,hi.defers,gD⟩
 have key:∀e a' w',up n (ab7 F j o.dst s w (acc++(kq l j L++Lb a)) ds) e a' w'→e= .normal/\wpOpsIn (FW r) 0 P l.toArray Q rest a' w':=by
  rintro e a' w' ⟨L',p9,rJ,rfl,rfl,v,rfl,hsv,jT⟩;refine⟨rfl,hk a' w' ⟨Xw.trans jT λb _ hb=>by obtain⟨p,h1,h2,h3⟩:=sV b hb;exact⟨p,h1,.inl h2,h3⟩,?_,rJ.size,rJ.defers,?_,?_,?_⟩⟩
  ·intro i o' s' h2 h3 h4 h5;by_cases jr:i=j
   ·subst jr;rw[hj]at h2;cases h2;rw[hs]at h3;cases h3;exact⟨v,hsv⟩
   ·have EA:D i:=h4.resolve_left jr;obtain⟨u,dY⟩:=hi.fin i o' s' h2 h3 EA h5;exact⟨u,xH i o' s' j o s h2 h3 hj hs (λe=>jr e.symm) (λXg=>nW (hi.closed i o' h2 EA j Xg)) u v w w' dY jT hsv⟩
  ·intro i o' s' d h2 h3 h4 h5;by_cases jr:i=j
   ·subst jr;rw[hj]at h2;cases h2;rw[hs]at h3;cases h3;exact⟨v,rJ.at_ d v (by rw[h5];simp[La,lk,Nat.beq_refl]),hsv⟩
   ·have EA:D i:=h4.resolve_left jr;obtain⟨u,gh,dY⟩:=hi.done i o' s' d h2 h3 EA h5;refine⟨u,?_,xH i o' s' j o s h2 h3 hj hs (λe=>jr e.symm) (λXg=>nW (hi.closed i o' h2 EA j Xg)) u v w w' dY jT hsv⟩;have Xy:d<a.tmps.size:=(Array.getElem?_eq_some_iff.1 gh).1;obtain⟨u',Ld⟩:=VP d Xy;have e1:=gD d u' Ld;rw[gh]at e1;cases e1;refine rJ.at_ d u ?_
    cases hod:o.dst with
    |none=>simpa[La]using Ld
    |some d'=>
     have fw:d'≠d:=λe=>wh dP i j o' o d h2 hj jr h5 (by rw[hod,e])
     have hb:Nat.beq d' d=false:=by
      cases hb:Nat.beq d' d with
      |false=>rfl
      |true=>exact absurd (Nat.eq_of_beq_eq_true hb) fw
     simp only[La,lk,hb];exact Ld
  ·intro t u ht Xz;have jt:o.dst≠some t:=Xz j o hj (.inl rfl);have e1:=hi.base t u ht λi o' h2 h3=>Xz i o' h2 (.inr h3)
   have Xy:t<a.tmps.size:=(Array.getElem?_eq_some_iff.1 e1).1;obtain⟨u',Ld⟩:=VP t Xy;have e2:=gD t u' Ld;rw[e1]at e2;cases e2;refine rJ.at_ t u ?_
   cases hod:o.dst with
   |none=>simpa[La]using Ld
   |some d'=>
    have fw:d'≠t:=λe=>jt (by rw[hod,e])
    have hb:Nat.beq d' t=false:=by
     cases hb:Nat.beq d' t with
     |false=>rfl
     |true=>exact absurd (Nat.eq_of_beq_eq_true hb) fw
    simp only[La,lk,hb];exact Ld
  ·intro i o' h2 h3 k qa;rcases h3 with rfl|h3
   ·rw[hj]at h2;cases h2;exact .inr (hp k qa)
   ·exact .inr (hi.closed i o' h2 h3 k qa)
 clear hk ho xH;simp only[wpListIn]at h1 ⊢
 split
 ·rename_i hw
  rw[if_pos hw]at h1;obtain⟨h3,h4⟩:=h1;refine ⟨h3,?_⟩;generalize (o.semAt (FW r).round a.eval).run P w=res at h4 ⊢
  cases res with
  |ok nx w'=>
   cases nx with
   |value v=>exact⟨trivial,(key _ _ _ h4).2⟩
   |skip=>exact⟨trivial,(key _ _ _ h4).2⟩
   |defer d=>exact⟨trivial,(key _ _ _ h4).2⟩
   |enter f args=>exact⟨h4.1,h4.2.mono λe zd he=>by
     cases e with
     |returned v=>exact⟨trivial,(key _ _ _ he).2⟩
     |panicked c=>exact key _ _ _ he
     |outgrown=>obtain⟨a,w,h⟩:=he;exact⟨a,w,key _ _ _ h⟩⟩
   |row row args=>exact⟨h4.1,h4.2.mono λ_ _ he=>⟨trivial,(key _ _ _ he).2⟩⟩
   |round l f tmps sU body=>exact⟨h4.1,h4.2.mono λe zd he=>by
     cases e with
     |returned v=>exact⟨trivial,(key _ _ _ he).2⟩
     |panicked c=>exact key _ _ _ he
     |outgrown=>obtain⟨a,w,h⟩:=he;exact⟨a,w,key _ _ _ h⟩⟩
   |_=>exact h4.elim
  |halt x w'=>
   cases x with
   |panic v=>exact key _ _ _ h4
   |_=>exact h4.elim
 ·rename_i hw
  rw[if_neg hw]at h1;exact⟨h1.1,trivial,(key _ _ _ h1.2).2⟩
theorem nq:∀{bs:List Bool},bs.countP (!·)=0->∀i,i<bs.length->bs[i]? =some true
 |[],_,i,h=>by simp at h
 |b::bs,h,0,_=>by
  cases b with
  |true=>rfl
  |false=>simp at h
 |b::bs,h,i+1,hi=>by
  cases b with
  |true=>simpa using nq (bs:=bs) a86 i ah6
  |false=>simp at h
theorem oY:∀{bs:List Bool} {i:Nat},bs[i]? =some false->(bs.set i true).countP (!·)+1=bs.countP (!·)
 |[],i,h=>by simp at h
 |b::bs,0,h=>by simp at h;subst h;simp
 |b::bs,i+1,h=>by
  have:=oY (bs:=bs) (i:=i) a86;rw[List.set_cons_succ,List.countP_cons,List.countP_cons];omega
theorem sY {bs:List Bool} (h:0<bs.countP (!·)):∃i:Nat,bs[i]? =some false/\∀k:Nat,k<i->bs[k]? =some true:=by
 induction bs with
 |nil=>simp at h
 |cons b bs ih=>
  cases b with
  |false=>exact⟨0,rfl,λk hk=>by omega⟩
  |true=>
   obtain⟨i,h1,h2⟩:=ih a86
   exact⟨i+1,by simpa using h1,λk hk=>by
    cases k with
    |zero=>rfl
    |succ k=>simpa using h2 k q0⟩
theorem Tt {w0:World} {l:List Oper} {o₁:Oper} {S:List (cj M)} (dP:fq (l++[o₁]) 0=true) (jU:(List.range l.length).all (λi=>(dg o₁).contains i||(dg o₁).any (λk=>(((l++[o₁])[k]?.map dg).getD []).contains i))=true) (Ca:S.length=l.length) (hY:cf P r n F w0 (l++[o₁]) S ds L l S 0) (xH:ES F (l++[o₁]) S) (qC:∀p∈F,∀b,p.2 b->M b) {Q:Exit->Act->World->Prop}
  (j1:∀a w,Inv F S (l++[o₁]) w0 L ds n (λi=>i<l.length) a w->wpListIn (FW r) 0 P (l++[o₁]).toArray (λe a' w'=>e= .normal/\Q .normal a' w') [o₁] a w):∀(fuel t:Nat) (listed:Array Bool) (a:Act) (w:World),listed.size=(l++[o₁]).length->listed.toList.countP (!·)=fuel->listed[l.length]? =some false->
  Inv F S (l++[o₁]) w0 L ds n (λi=>listed[i]? =some true) a w->wpOpsIn (FW r) 0 P (l++[o₁]).toArray Q (Region.linearise.go .any (l++[o₁]).toArray fuel t listed []) a w:=by
 intro fuel
 induction fuel with
 |zero=>
  intro t listed a w lC hc EB hi;have:=nq hc l.length (by simp[lC]);have h2:listed.toList[l.length]? =some false:=by simpa using EB
  rw[h2]at this;cases this
 |succ fuel ih=>
  intro t listed a w lC hc EB hi;have N4:(l++[o₁]).length=l.length+1:=by simp
  have ta:∀j,j∈Region.ready .any (l++[o₁]).toArray listed->∃o,(l++[o₁])[j]? =some o/\listed[j]? =some false/\∀k∈dg o,listed[k]? =some true:=by
   intro j hj;simp only[Region.ready,List.mem_filter,List.mem_range,Bool.and_eq_true]at hj;obtain⟨h1,h2,h3⟩:=hj;have eZ:j<(l++[o₁]).length:=by simpa using h1
   refine⟨(l++[o₁])[j],List.getElem?_eq_getElem eZ,?_,?_⟩
   ·rw[Array.getElem?_eq_getElem q0];simp only[Array.getD_eq_getD_getElem?,Array.getElem?_eq_getElem (show j<listed.size by omega),Option.getD_some,Bool.not_eq_true']at h2;rw[h2]
   ·intro k hk;simp only[dg,List.mem_map,List.mem_filter]at hk;obtain⟨e,⟨XA,XB⟩,rfl⟩:=hk;have h4:(l++[o₁]).toArray[j]? =some (l++[o₁])[j]:=by rw[List.getElem?_toArray];exact List.getElem?_eq_getElem eZ
    rw[h4]at h3;simp only[Option.map_some,Option.getD_some,Array.all_eq_true_iff_forall_mem]at h3;have h5:=h3 e (by simpa using XA);rw[XB]at h5;simp only[Bool.not_true,Bool.false_or,Array.getD_eq_getD_getElem?]at h5
    cases hx:listed[e.on]? with
    |none=>simp[hx]at h5
    |some b=>simp[hx]at h5;rw[h5]
  have fw:Region.ready .any (l++[o₁]).toArray listed≠[]:=by
   obtain⟨i,h1,h2⟩:=sY (bs:=listed.toList) q0
   have eZ:i<(l++[o₁]).length:=by
    have:=(List.getElem?_eq_some_iff.1 h1).1;simp only[Array.length_toList]at this;omega
   intro nX
   have ia:i∈Region.ready .any (l++[o₁]).toArray listed:=by
    simp only[Region.ready,List.mem_filter,List.mem_range,Bool.and_eq_true];refine⟨by simpa using eZ,?_,?_⟩
    ·have:listed[i]? =some false:=by simpa using h1
     simp[Array.getD_eq_getD_getElem?,this]
    ·have h4:(l++[o₁]).toArray[i]? =some (l++[o₁])[i]:=by rw[List.getElem?_toArray];exact List.getElem?_eq_getElem eZ
     rw[h4];simp only[Option.map_some,Option.getD_some,Array.all_eq_true_iff_forall_mem];intro e he
     cases hb:Region.binds .any e with
     |false=>rfl
     |true=>
      have hk:e.on∈dg (l++[o₁])[i]:=by
       simp only[dg,List.mem_map,List.mem_filter];exact⟨e,⟨by simpa using he,hb⟩,rfl⟩
      have ab9:=dM dP i (l++[o₁])[i] (List.getElem?_eq_getElem eZ) _ hk;have:listed[e.on]? =some true:=by simpa using h2 e.on q0
      simp[Array.getD_eq_getD_getElem?,this]
   rw[nX]at ia;cases ia
  simp only[Region.linearise.go]
  change wpOpsIn (FW r) 0 P (l++[o₁]).toArray Q (match (Region.ready .any (l++[o₁]).toArray listed)[t%(Region.ready .any (l++[o₁]).toArray listed).length]? with
   |some i=>Region.linearise.go .any (l++[o₁]).toArray fuel (t/(Region.ready .any (l++[o₁]).toArray listed).length) (listed.setIfInBounds i true) [i]
   |none=>[].reverse) a w
  have eZ:t%(Region.ready .any (l++[o₁]).toArray listed).length<(Region.ready .any (l++[o₁]).toArray listed).length:=Nat.mod_lt _ (List.length_pos_iff.2 fw);rw[List.getElem?_eq_getElem eZ];have ia:=List.getElem_mem eZ;generalize (Region.ready .any (l++[o₁]).toArray listed)[t%(Region.ready .any (l++[o₁]).toArray listed).length]=j at ia;obtain⟨o,h1,h2,h3⟩:=ta j ia;simp only[];rw[linearise_go_acc,List.reverse_singleton,List.singleton_append];have oX:j<l.length+1:=by have:=(List.getElem?_eq_some_iff.1 h1).1;omega
  have Hs:listed.toList[j]? =some false:=by simpa using h2
  have ai8:=oY Hs;by_cases Hu:j=l.length
  ·subst Hu;have ho:o=o₁:=by simpa using h1.symm
   subst ho
   have zf:∀i,i<l.length->listed[i]? =some true:=λi k9=>by
    have:=List.all_eq_true.1 jU i (List.mem_range.2 k9);simp only[Bool.or_eq_true,List.contains_iff_mem,List.any_eq_true]at this;rcases this with h|⟨k,qt,Dh⟩
    ·exact h3 i h
    ·cases nh:(l++[o])[k]? with
     |none=>rw[nh]at Dh;simp at Dh
     |some ok=>rw[nh]at Dh;exact hi.closed k ok nh (h3 k qt) i (by simpa using Dh)
   have Nt:fuel=0:=by
    have hz:(listed.toList.set l.length true).countP (!·)=0:=by
     rw[List.countP_eq_zero];intro b hb;obtain⟨i,k9⟩:=List.mem_iff_getElem?.1 hb;rw[List.getElem?_set]at k9
     split at k9
     ·split at k9
      ·cases k9;simp
      ·cases k9
     ·have rL:=(List.getElem?_eq_some_iff.1 k9).1;simp only[Array.length_toList]at rL;have:=zf i q0;have h9:listed.toList[i]? =some true:=by simpa using this
      rw[k9]at h9;cases h9;simp
    omega
   subst Nt;simp only[Region.linearise.go,List.reverse_nil];refine np (o:=o) (by simp) ?_;refine j1 a w ⟨hi.step.eI (λb ⟨p,hp,hD,hb⟩=>⟨p,hp,?_,hb⟩) (λb ⟨p,hp,_,hb⟩=>qC p hp b hb),λi o s h1 h2 h3=>hi.fin i o s h1 h2 (zf i h3),hi.size,hi.defers,λi o s d h1 h2 h3=>hi.done i o s d h1 h2 (zf i h3),λt v h4 h5=>hi.base t v h4 λi o' h6 h7=>h5 i o' h6 ?_,λi o' h4 h5 k hk=>?_⟩
   ·have rL:=(Array.getElem?_eq_some_iff.1 hD).1;rcases Nat.lt_or_ge p.1 l.length with h|h
    ·exact h
    ·have:p.1=l.length:=by omega
     rw[this,EB]at hD;cases hD
   ·rcases Nat.lt_or_ge i l.length with h|h
    ·exact h
    ·have rL:=(List.getElem?_eq_some_iff.1 h6).1;have:i=l.length:=by omega
     rw[this,EB]at h7;cases h7
   ·have:=dM dP i o' h4 k hk;omega
  ·have hlj:l[j]? =some o:=by rwa [List.getElem?_append_left q0]at h1
   refine hi.next dP xH qC (by have:=hY.get j o hlj;rwa [Nat.zero_add]at this) h1 (by rw[h2];simp) h3 λa' w' k9=> ?_
   refine ih _ _ _ _ (by simpa using lC) ?_ ?_ ?_
   ·simp only[Array.toList_setIfInBounds];omega
   ·rw[Array.getElem?_setIfInBounds,if_neg Hu];exact EB
   ·have N7:j<listed.size:=(Array.getElem?_eq_some_iff.1 h2).1
    have rM:∀i,((listed.setIfInBounds j true)[i]? =some true)↔(i=j\/listed[i]? =some true):=by
     intro i;rw[Array.getElem?_setIfInBounds];by_cases jr:j=i
     ·subst jr;simp[N7]
     ·rw[if_neg jr];exact⟨.inr,λh=>h.resolve_left (λe=>jr e.symm)⟩
    exact⟨k9.step.eI (λb ⟨p,hp,hD,hb⟩=>⟨p,hp,(rM p.1).2 hD,hb⟩) (λb ⟨p,hp,_,hb⟩=>qC p hp b hb),λi o s h1 h2 h3=>k9.fin i o s h1 h2 ((rM i).1 h3),k9.size,k9.defers,λi o s d h1 h2 h3=>k9.done i o s d h1 h2 ((rM i).1 h3),λt v h1 h2=>k9.base t v h1 λi o h3 h4=>h2 i o h3 ((rM i).2 h4),λi o h1 h2 k hk=>(rM k).2 (k9.closed i o h1 ((rM i).1 h2) k hk)⟩
theorem T.N8 {id:Nat} {l:List Oper} {o₁:Oper} (hm:P.follows .mixedOrders=true) (F:List (Nat×aM)) (S:List (cj M)) (dP:fq (l++[o₁]) 0=true) (jU:(List.range l.length).all (λi=>(dg o₁).contains i||(dg o₁).any (λk=>(((l++[o₁])[k]?.map dg).getD []).contains i))=true) (Ca:S.length=l.length) (qC:∀p∈F,∀b,p.2 b->M b) (xH:rr F (l++[o₁]) S 0) (hY:cf P r n F w (l++[o₁]) S ds L l S 0)
  (j1:∀w',Step M w M w' (jP (F.map (·.2)))->iH w' (λacc=>Rg P r n (l++[o₁]).toArray [o₁] (acc++kq (l++[o₁]) (l.length+1) L) ds w' (λe L ds w=>e= .normal/\K .normal L ds w)) l S []):T P r n (.region id (l++[o₁]).toArray true) L ds w K:=by
 refine ⟨λa ha=>wpIn_region_draw λt=> ?_⟩;simp only[Region.schedule,hm,Bool.true_or,if_true,Region.linearise];have hd:Step M w M {w with drawn:=w.drawn+1} aC:=nV M w;refine Tt (w0:=w) (S:=S) dP jU Ca hY xH.st qC (Q:=up n K) ?_ _ t _ a _ (by simp) a96 (by simp[Array.getElem?_replicate]) ⟨hd.eI a30 (λb ⟨p,hp,_,hb⟩=>qC p hp b hb),?_,ha.size,ha.defers,?_,?_,?_⟩
 ·intro a' w' hi
  have iW:∀{i:Nat} {o:Oper},l[i]? =some o->(l++[o₁])[i]? =some o/\i<l.length:=λ{i o} h=>by
   have h1:=(List.getElem?_eq_some_iff.1 h).1;exact⟨by rw[List.getElem?_append_left h1];exact h,h1⟩
  obtain⟨acc,h1,h2⟩:=iH.use (a:=a') l S [] (λi o s h1 h2 h3=>hi.fin i o s (iW h1).1 h2 (iW h1).2 h3) (λi o s d h1 h2 h3=>hi.done i o s d (iW h1).1 h2 (iW h1).2 h3) (λt v h=>by simp[lk]at h)
   (j1 w' (hi.step.eI (λb ⟨p,hp,_,hb⟩=>fR.2 ⟨p.2,List.mem_map.2 ⟨p,hp,rfl⟩,hb⟩) (λb hb=>by
    obtain⟨N,hN,Ez⟩:=fR.1 hb;obtain⟨p,hp,rfl⟩:=List.mem_map.1 hN;exact qC p hp b Ez)))
  have h3:=h1.run a' ⟨hi.size,hi.defers,λt v h=>by
   rcases l2 h with h|h
   ·exact h2 t v h
   ·obtain⟨h3,h4⟩:=j7 (f:=lh (l++[o₁]) (l.length+1)) h;refine hi.base t v h4 λi o h5 _ h6=> ?_
    simp only[lh,List.all_eq_true]at h3;have:=h3 o (List.mem_of_getElem? h5);simp only[h6,beq_self_eq_true,Bool.not_true,Bool.false_or,List.contains_iff_mem]at this;have h7:=dM dP i o h5 _ this;have h8:=(List.getElem?_eq_some_iff.1 h5).1;simp at h8;omega⟩
  exact ze h3 λe a2 w2 ⟨L2,ds2,SO,he,hk⟩=>⟨he,L2,ds2,SO,hk⟩
 ·intro i o s h1 h2 h3;simp[Array.getElem?_replicate]at h3
 ·intro i o s d h1 h2 h3;simp[Array.getElem?_replicate]at h3
 ·intro t v h1 _;exact ha.at_ t v h1
 ·intro i o h1 h2;simp[Array.getElem?_replicate]at h2
def kJ (l:List Oper) (k:Nat):Bool:=(List.range' k (l.length-k)).all λj=>((l[j]?.map dg).getD []).contains (j-1)
theorem mq {l:List Oper} {k:Nat} (h:kJ l k=true) {j:Nat} {o:Oper} (hj:k<=j) (ho:l[j]? =some o):j-1∈dg o:=by
 have eZ:=(List.getElem?_eq_some_iff.1 ho).1;have:=List.all_eq_true.1 h j (List.mem_range'_1.2 ⟨hj,by omega⟩);rw[ho]at this;simpa using this
theorem Oa {l:List Oper} (dP:fq l 0=true):∀(fuel k t:Nat) (listed:Array Bool),listed.size=l.length->k+fuel=l.length->kJ l (k+1)=true->(∀i,i<k->listed[i]? =some true)->(∀i,k<=i->i<l.length->listed[i]? =some false)->(∀i o,l[i]? =some o->i=k->∀j∈dg o,j<k)->
  Region.linearise.go .any l.toArray fuel t listed []=List.range' k fuel:=by
 intro fuel
 induction fuel with
 |zero=>intro k t listed _ _ _ _ _ _;rfl
 |succ fuel ih=>
  intro k t listed lC hk BC h1 h2 h3
  have ta:Region.ready .any l.toArray listed=[k]:=by
   have ia:∀j,j∈Region.ready .any l.toArray listed↔j=k:=by
    intro j;simp only[Region.ready,List.mem_filter,List.mem_range,Bool.and_eq_true];constructor
    ·rintro⟨g1,g2,g3⟩;have oX:j<l.length:=by simpa using g1
     rcases Nat.lt_trichotomy j k with h|h|h
     ·have:=h1 j h;simp[Array.getD_eq_getD_getElem?,this]at g2
     ·exact h
     ·exfalso;have hp:=mq BC (j:=j) q0 (List.getElem?_eq_getElem oX);simp only[dg,List.mem_map,List.mem_filter]at hp;obtain⟨e,⟨XA,XB⟩,he3⟩:=hp;have h4:l.toArray[j]? =some l[j]:=by rw[List.getElem?_toArray];exact List.getElem?_eq_getElem oX
      rw[h4]at g3;simp only[Option.map_some,Option.getD_some,Array.all_eq_true_iff_forall_mem]at g3;have h5:=g3 e (by simpa using XA);rw[XB,he3]at h5;have:=h2 (j-1) q0 q0;simp[Array.getD_eq_getD_getElem?,this]at h5
    ·rintro rfl;have oX:j<l.length:=by omega
     refine⟨by simpa using oX,?_,?_⟩
     ·have:=h2 j (Nat.le_refl _) oX;simp[Array.getD_eq_getD_getElem?,this]
     ·have h4:l.toArray[j]? =some l[j]:=by rw[List.getElem?_toArray];exact List.getElem?_eq_getElem oX
      rw[h4];simp only[Option.map_some,Option.getD_some,Array.all_eq_true_iff_forall_mem];intro e he
      cases hb:Region.binds .any e with
      |false=>rfl
      |true=>
       have Tu:e.on∈dg l[j]:=by simp only[dg,List.mem_map,List.mem_filter];exact⟨e,⟨by simpa using he,hb⟩,rfl⟩
       have:=h1 _ (h3 j l[j] (List.getElem?_eq_getElem oX) rfl _ Tu);simp[Array.getD_eq_getD_getElem?,this]
   have mY:(Region.ready .any l.toArray listed).Nodup:=by unfold Region.ready;exact List.Pairwise.filter _ List.nodup_range
   cases hr:Region.ready .any l.toArray listed with
   |nil=>have:=(ia k).2 rfl;rw[hr]at this;cases this
   |cons x xs=>
    have hx:x=k:=(ia x).1 (by rw[hr];exact List.mem_cons_self ..)
    cases xs with
    |nil=>rw[hx]
    |cons y ys=>
     have hy:y=k:=(ia y).1 (by rw[hr];simp);rw[hr]at mY;simp[hx,hy]at mY
  simp only[Region.linearise.go]
  change(match (Region.ready .any l.toArray listed)[t%(Region.ready .any l.toArray listed).length]? with
   |some i=>Region.linearise.go .any l.toArray fuel (t/(Region.ready .any l.toArray listed).length) (listed.setIfInBounds i true) [i]
   |none=>[].reverse)=_
  rw[ta];simp only[List.length_singleton,Nat.mod_one,List.getElem?_cons_zero];rw[linearise_go_acc,List.reverse_singleton,List.singleton_append];have zg:k<listed.size:=by omega
  rw[ih (k+1) _ _ (by simpa using lC) q0 (by
   simp only[kJ,List.all_eq_true]at BC ⊢;intro j hj;exact BC j (by rw[List.mem_range'_1]at hj ⊢;omega)) ?_ ?_ ?_]
  ·rfl
  ·intro i hi;rw[Array.getElem?_setIfInBounds];by_cases e:k=i
   ·subst e;simp[zg]
   ·rw[if_neg e];exact h1 i q0
  ·intro i hi rL;rw[Array.getElem?_setIfInBounds,if_neg q0];exact h2 i q0 rL
  ·intro i o ho hi j hj;have:=dM dP i o ho j hj;omega
def k5 (l:List Oper):Nat->List Nat->Bool
 |0,_=>true
 |j+1,acc=>acc.contains j&&k5 l j (acc++(l[j]?.map dg).getD [])
theorem tb {l:List Oper} {D:Nat->Prop} (km:∀k o,l[k]? =some o->D k->∀i∈dg o,D i):∀(j:Nat) (acc:List Nat),k5 l j acc=true->(∀k∈acc,D k)->∀i,i<j->D i
 |0,_,_,_,i,hi=>by omega
 |j+1,acc,h,ha,i,hi=>by
  simp only[k5,Bool.and_eq_true,List.contains_iff_mem]at h;have hj:=ha j h.1;rcases Nat.lt_or_ge i j with eZ|tS
  ·refine tb km j _ h.2 (λk hk=>?_) i eZ;rcases List.mem_append.1 hk with hk|hk
   ·exact ha k hk
   ·cases ho:l[j]? with
    |none=>rw[ho]at hk;simp at hk
    |some o=>rw[ho]at hk;exact km j o ho hj k (by simpa using hk)
  ·rw[show i=j from by omega];exact hj
theorem zh {l:List Oper} {o₁:Oper} {tl:List Oper} {J:(Nat->Prop)->Act->World->Prop} (dP:fq (l++o₁::tl) 0=true) (jU:k5 (l++o₁::tl) l.length (dg o₁)=true) (BC:kJ (l++o₁::tl) (l.length+1)=true)
  (ET:∀{D D':Nat->Prop} {a w},J D a w->(∀i,i<(l++o₁::tl).length->(D' i↔D i))->J D' a w) {Q:Exit->Act->World->Prop}
  (Ob:∀{D:Nat->Prop} {a w j o rest},j<l.length->l[j]? =some o->¬D j->(∀k∈dg o,D k)->(∀i o,(l++o₁::tl)[i]? =some o->D i->∀k∈dg o,D k)->J D a w->(∀a' w',J (λi=>i=j\/D i) a' w'→wpOpsIn (FW r) 0 P (l++o₁::tl).toArray Q rest a' w')->wpOpsIn (FW r) 0 P (l++o₁::tl).toArray Q (j::rest) a w)
  (j1:∀a w,J (λi=>i<l.length) a w->wpListIn (FW r) 0 P (l++o₁::tl).toArray Q (o₁::tl) a w):∀(fuel t:Nat) (listed:Array Bool) (a:Act) (w:World),listed.size=(l++o₁::tl).length->listed.toList.countP (!·)=fuel->(∀i,l.length<=i->i<(l++o₁::tl).length->listed[i]? =some false)->
  (∀(i:Nat) (o:Oper),(l++o₁::tl)[i]? =some o->listed[i]? =some true->∀k∈dg o,listed[k]? =some true)->J (λi=>listed[i]? =some true) a w->wpOpsIn (FW r) 0 P (l++o₁::tl).toArray Q (Region.linearise.go .any (l++o₁::tl).toArray fuel t listed []) a w:=by
 intro fuel
 induction fuel with
 |zero=>
  intro t listed a w lC hc EB km hi;have:=nq hc l.length (by simp[lC]);have h2:listed.toList[l.length]? =some false:=by simpa using EB l.length (Nat.le_refl _) (by simp)
  rw[h2]at this;cases this
 |succ fuel ih=>
  intro t listed a w lC hc EB km hi;have N4:(l++o₁::tl).length=l.length+1+tl.length:=by simp;omega
  have auc:listed[l.length]? =some false:=EB l.length (Nat.le_refl _) q0
  have ta:∀j,j∈Region.ready .any (l++o₁::tl).toArray listed->∃o,(l++o₁::tl)[j]? =some o/\listed[j]? =some false/\∀k∈dg o,listed[k]? =some true:=by
   intro j hj;simp only[Region.ready,List.mem_filter,List.mem_range,Bool.and_eq_true]at hj;obtain⟨h1,h2,h3⟩:=hj;have eZ:j<(l++o₁::tl).length:=by simpa using h1
   refine⟨(l++o₁::tl)[j],List.getElem?_eq_getElem eZ,?_,?_⟩
   ·rw[Array.getElem?_eq_getElem q0];simp only[Array.getD_eq_getD_getElem?,Array.getElem?_eq_getElem (show j<listed.size by omega),Option.getD_some,Bool.not_eq_true']at h2;rw[h2]
   ·intro k hk;simp only[dg,List.mem_map,List.mem_filter]at hk;obtain⟨e,⟨XA,XB⟩,rfl⟩:=hk;have h4:(l++o₁::tl).toArray[j]? =some (l++o₁::tl)[j]:=by rw[List.getElem?_toArray];exact List.getElem?_eq_getElem eZ
    rw[h4]at h3;simp only[Option.map_some,Option.getD_some,Array.all_eq_true_iff_forall_mem]at h3;have h5:=h3 e (by simpa using XA);rw[XB]at h5;simp only[Bool.not_true,Bool.false_or,Array.getD_eq_getD_getElem?]at h5
    cases hx:listed[e.on]? with
    |none=>simp[hx]at h5
    |some b=>simp[hx]at h5;rw[h5]
  have fw:Region.ready .any (l++o₁::tl).toArray listed≠[]:=by
   obtain⟨i,h1,h2⟩:=sY (bs:=listed.toList) q0
   have eZ:i<(l++o₁::tl).length:=by
    have:=(List.getElem?_eq_some_iff.1 h1).1;simp only[Array.length_toList]at this;omega
   intro nX
   have ia:i∈Region.ready .any (l++o₁::tl).toArray listed:=by
    simp only[Region.ready,List.mem_filter,List.mem_range,Bool.and_eq_true];refine⟨by simpa using eZ,?_,?_⟩
    ·have:listed[i]? =some false:=by simpa using h1
     simp[Array.getD_eq_getD_getElem?,this]
    ·have h4:(l++o₁::tl).toArray[i]? =some (l++o₁::tl)[i]:=by rw[List.getElem?_toArray];exact List.getElem?_eq_getElem eZ
     rw[h4];simp only[Option.map_some,Option.getD_some,Array.all_eq_true_iff_forall_mem];intro e he
     cases hb:Region.binds .any e with
     |false=>rfl
     |true=>
      have hk:e.on∈dg (l++o₁::tl)[i]:=by
       simp only[dg,List.mem_map,List.mem_filter];exact⟨e,⟨by simpa using he,hb⟩,rfl⟩
      have ab9:=dM dP i (l++o₁::tl)[i] (List.getElem?_eq_getElem eZ) _ hk;have:listed[e.on]? =some true:=by simpa using h2 e.on q0
      simp[Array.getD_eq_getD_getElem?,this]
   rw[nX]at ia;cases ia
  simp only[Region.linearise.go]
  change wpOpsIn (FW r) 0 P (l++o₁::tl).toArray Q (match (Region.ready .any (l++o₁::tl).toArray listed)[t%(Region.ready .any (l++o₁::tl).toArray listed).length]? with
   |some i=>Region.linearise.go .any (l++o₁::tl).toArray fuel (t/(Region.ready .any (l++o₁::tl).toArray listed).length) (listed.setIfInBounds i true) [i]
   |none=>[].reverse) a w
  have eZ:t%(Region.ready .any (l++o₁::tl).toArray listed).length<(Region.ready .any (l++o₁::tl).toArray listed).length:=Nat.mod_lt _ (List.length_pos_iff.2 fw);rw[List.getElem?_eq_getElem eZ];have ia:=List.getElem_mem eZ;generalize (Region.ready .any (l++o₁::tl).toArray listed)[t%(Region.ready .any (l++o₁::tl).toArray listed).length]=j at ia;obtain⟨o,h1,h2,h3⟩:=ta j ia;simp only[];rw[linearise_go_acc,List.reverse_singleton,List.singleton_append];have oX:j<l.length+1+tl.length:=by have:=(List.getElem?_eq_some_iff.1 h1).1;omega
  have Hs:listed.toList[j]? =some false:=by simpa using h2
  have ai8:=oY Hs;by_cases Hu:j=l.length
  ·subst Hu;have ho:o=o₁:=by simpa using h1.symm
   subst ho;have zf:∀i,i<l.length->listed[i]? =some true:=λi k9=>tb (D:=λi=>listed[i]? =some true) km l.length (dg o) jU (λk hk=>h3 k hk) i k9
   have hfu:fuel=tl.length:=by
    have hz:((listed.toList.set l.length true).drop (l.length+1)).countP (!·)=tl.length:=by
     rw[List.drop_set_of_lt q0]
     have gD:∀b∈listed.toList.drop (l.length+1),(!b)=true:=by
      intro b hb;obtain⟨i,k9⟩:=List.mem_iff_getElem?.1 hb;rw[List.getElem?_drop]at k9;have rL:=(List.getElem?_eq_some_iff.1 k9).1;simp only[Array.length_toList]at rL;have:=EB (l.length+1+i) q0 q0;have h9:listed.toList[l.length+1+i]? =some false:=by simpa using this
      rw[k9]at h9;cases h9;rfl
     rw[List.countP_eq_length.2 gD,List.length_drop,Array.length_toList];omega
    have hy:((listed.toList.set l.length true).take (l.length+1)).countP (!·)=0:=by
     rw[List.countP_eq_zero];intro b hb;obtain⟨i,k9⟩:=List.mem_iff_getElem?.1 hb;rw[List.getElem?_take]at k9
     split at k9
     ·rw[List.getElem?_set]at k9
      split at k9
      ·split at k9
       ·cases k9;simp
       ·cases k9
      ·have:=zf i q0;have h9:listed.toList[i]? =some true:=by simpa using this
       rw[k9]at h9;cases h9;simp
     ·cases k9
    have:=List.take_append_drop (l.length+1) (listed.toList.set l.length true)
    have h8:(listed.toList.set l.length true).countP (!·)=0+tl.length:=by
     rw[<-hy,<-hz,<-List.countP_append,this]
    omega
   subst hfu;have we:l.length<listed.size:=by omega
   rw[Oa dP tl.length (l.length+1) _ _ (by simpa using lC) q0 (by
    simp only[kJ,List.all_eq_true]at BC ⊢;intro j hj
    exact BC j (by rw[List.mem_range'_1]at hj ⊢;omega)) (λi k9=>by
     rw[Array.getElem?_setIfInBounds];by_cases e:l.length=i
     ·subst e;simp[we]
     ·rw[if_neg e];exact zf i q0) (λi h5 h6=>by
     rw[Array.getElem?_setIfInBounds,if_neg q0];exact EB i q0 h6) (λi o' iM he j hj=>by have:=dM dP i o' iM j hj;omega)]
   have hrg:l.length::List.range' (l.length+1) tl.length=List.range' l.length (o::tl).length:=by simp[List.range'_succ]
   rw[hrg,wpOpsIn_eq_wpListIn (o::tl) l.length (λj=>by rw[List.getElem?_toArray,List.getElem?_append_right q0];congr 1;omega)]
   exact j1 a w (ET hi λi rL=>⟨λh=>zf i h,λh=>by
    rcases Nat.lt_or_ge i l.length with h5|h5
    ·exact h5
    ·have h6:=EB i h5 rL;rw[h6]at h;cases h⟩)
  ·have aca:j<l.length:=by
    rcases Nat.lt_or_ge j l.length with h|h
    ·exact h
    ·exfalso;have hp:=h3 _ (mq BC (j:=j) q0 h1);rw[EB (j-1) q0 q0]at hp;cases hp
   have hlj:l[j]? =some o:=by rwa [List.getElem?_append_left q0]at h1
   refine Ob aca hlj (by rw[h2];simp) h3 km hi λa' w' k9=> ?_
   have N7:j<listed.size:=(Array.getElem?_eq_some_iff.1 h2).1
   have rM:∀i,((listed.setIfInBounds j true)[i]? =some true)↔(i=j\/listed[i]? =some true):=by
    intro i;rw[Array.getElem?_setIfInBounds];by_cases jr:j=i
    ·subst jr;simp[N7]
    ·rw[if_neg jr];exact⟨.inr,λh=>h.resolve_left (λe=>jr e.symm)⟩
   refine ih _ _ _ _ (by simpa using lC) ?_ ?_ ?_ (ET k9 λi _=>rM i)
   ·simp only[Array.toList_setIfInBounds];omega
   ·intro i h5 h6;rw[Array.getElem?_setIfInBounds,if_neg q0];exact EB i h5 h6
   ·intro i o' h5 h6 k hk;rcases(rM i).1 h6 with e|h7
    ·subst e;have:o'=o:=by rw[h1]at h5;exact(Option.some.inj h5).symm
     subst this;exact(rM k).2 (.inr (h3 k hk))
    ·exact(rM k).2 (.inr (km i o' h5 h7 k hk))
theorem mu {l:List Oper} {J:(Nat->Prop)->Act->World->Prop} (dP:fq l 0=true)
  (ET:∀{D D':Nat->Prop} {a w},J D a w->(∀i,i<l.length->(D' i↔D i))->J D' a w) {Q:Exit->Act->World->Prop}
  (Ob:∀{D:Nat->Prop} {a w j o rest},j<l.length->l[j]? =some o->¬D j->(∀k∈dg o,D k)->(∀i o,l[i]? =some o->D i->∀k∈dg o,D k)->J D a w->(∀a' w',J (λi=>i=j\/D i) a' w'→wpOpsIn (FW r) 0 P l.toArray Q rest a' w')->wpOpsIn (FW r) 0 P l.toArray Q (j::rest) a w)
  (j1:∀a w,J (λi=>i<l.length) a w->Q .normal a w):∀(fuel t:Nat) (listed:Array Bool) (a:Act) (w:World),listed.size=l.length->listed.toList.countP (!·)=fuel->
  (∀(i:Nat) (o:Oper),l[i]? =some o->listed[i]? =some true->∀k∈dg o,listed[k]? =some true)->J (λi=>listed[i]? =some true) a w->wpOpsIn (FW r) 0 P l.toArray Q (Region.linearise.go .any l.toArray fuel t listed []) a w:=by
 intro fuel
 induction fuel with
 |zero=>
  intro t listed a w lC hc km hi;simp only[Region.linearise.go,List.reverse_nil,wpOpsIn];exact j1 a w (ET hi λi rL=>⟨λh=>by simpa using nq hc i (by simp[lC];exact h),λh=>rL⟩)
 |succ fuel ih=>
  intro t listed a w lC hc km hi
  have ta:∀j,j∈Region.ready .any l.toArray listed->∃o,l[j]? =some o/\listed[j]? =some false/\∀k∈dg o,listed[k]? =some true:=by
   intro j hj;simp only[Region.ready,List.mem_filter,List.mem_range,Bool.and_eq_true]at hj;obtain⟨h1,h2,h3⟩:=hj;have eZ:j<l.length:=by simpa using h1
   refine⟨l[j],List.getElem?_eq_getElem eZ,?_,?_⟩
   ·rw[Array.getElem?_eq_getElem q0];simp only[Array.getD_eq_getD_getElem?,Array.getElem?_eq_getElem (show j<listed.size by omega),Option.getD_some,Bool.not_eq_true']at h2;rw[h2]
   ·intro k hk;simp only[dg,List.mem_map,List.mem_filter]at hk;obtain⟨e,⟨XA,XB⟩,rfl⟩:=hk;have h4:l.toArray[j]? =some l[j]:=by simp[eZ]
    rw[h4]at h3;simp only[Option.map_some,Option.getD_some,Array.all_eq_true_iff_forall_mem]at h3;have h5:=h3 e (by simpa using XA);rw[XB]at h5;simp only[Bool.not_true,Bool.false_or,Array.getD_eq_getD_getElem?]at h5
    cases hx:listed[e.on]? with
    |none=>simp[hx]at h5
    |some b=>simp[hx]at h5;rw[h5]
  have fw:Region.ready .any l.toArray listed≠[]:=by
   obtain⟨i,h1,h2⟩:=sY (bs:=listed.toList) q0
   have eZ:i<l.length:=by
    have:=(List.getElem?_eq_some_iff.1 h1).1;simp at this;omega
   intro nX
   have ia:i∈Region.ready .any l.toArray listed:=by
    simp only[Region.ready,List.mem_filter,List.mem_range,Bool.and_eq_true];refine⟨by simpa using eZ,?_,?_⟩
    ·have:listed[i]? =some false:=by simpa using h1
     simp[Array.getD_eq_getD_getElem?,this]
    ·have h4:l.toArray[i]? =some l[i]:=by simp[eZ]
     rw[h4];simp only[Option.map_some,Option.getD_some,Array.all_eq_true_iff_forall_mem];intro e he
     cases hb:Region.binds .any e with
     |false=>rfl
     |true=>
      have hk:e.on∈dg l[i]:=by
       simp only[dg,List.mem_map,List.mem_filter];exact⟨e,⟨by simpa using he,hb⟩,rfl⟩
      have ab9:=dM dP i l[i] (List.getElem?_eq_getElem eZ) _ hk;have:listed[e.on]? =some true:=by simpa using h2 e.on q0
      simp[Array.getD_eq_getD_getElem?,this]
   rw[nX]at ia;cases ia
  simp only[Region.linearise.go]
  change wpOpsIn (FW r) 0 P l.toArray Q (match (Region.ready .any l.toArray listed)[t%(Region.ready .any l.toArray listed).length]? with
   |some i=>Region.linearise.go .any l.toArray fuel (t/(Region.ready .any l.toArray listed).length) (listed.setIfInBounds i true) [i]
   |none=>[].reverse) a w
  have eZ:t%(Region.ready .any l.toArray listed).length<(Region.ready .any l.toArray listed).length:=Nat.mod_lt _ (List.length_pos_iff.2 fw);rw[List.getElem?_eq_getElem eZ];have ia:=List.getElem_mem eZ;generalize (Region.ready .any l.toArray listed)[t%(Region.ready .any l.toArray listed).length]=j at ia;obtain⟨o,h1,h2,h3⟩:=ta j ia;simp only[];rw[linearise_go_acc,List.reverse_singleton,List.singleton_append];have oX:j<l.length:=(List.getElem?_eq_some_iff.1 h1).1;refine Ob oX h1 (by rw[h2];simp) h3 km hi λa' w' k9=> ?_
  have Hs:listed.toList[j]? =some false:=by simpa using h2
  have N7:j<listed.size:=(Array.getElem?_eq_some_iff.1 h2).1
  have rM:∀i,((listed.setIfInBounds j true)[i]? =some true)↔(i=j\/listed[i]? =some true):=by
   intro i;rw[Array.getElem?_setIfInBounds];by_cases jr:j=i
   ·subst jr;simp[N7]
   ·rw[if_neg jr];exact⟨.inr,λh=>h.resolve_left (λe=>jr e.symm)⟩
  refine ih _ _ _ _ (by simpa using lC) ?_ ?_ (ET k9 λi _=>rM i)
  ·have:=oY Hs;simp only[Array.toList_setIfInBounds];omega
  ·intro i o' h5 h6 k hk;rcases(rM i).1 h6 with e|h7
   ·subst e;have:o'=o:=by rw[h1]at h5;exact(Option.some.inj h5).symm
    subst this;exact(rM k).2 (.inr (h3 k hk))
   ·exact(rM k).2 (.inr (km i o' h5 h7 k hk))
theorem Inv.iff {w0:World} {l:List Oper} {S:List (cj M)} {D D':Nat->Prop} {a:Act} {w:World} (hi:Inv F S l w0 L ds n D a w) (h:∀i,D i↔D' i):Inv F S l w0 L ds n D' a w:=by
 have e:D=D':=funext λi=>propext (h i)
 exact e▸hi
theorem Lg {w0:World} {l:List Oper} {S:List (cj M)} (dP:fq l 0=true) (hY:cf P r n F w0 l S ds L l S 0) (xH:ES F l S) (qC:∀p∈F,∀b,p.2 b->M b) {Q:Exit->Act->World->Prop}
  (j1:∀a w,Inv F S l w0 L ds n (λi=>i<l.length) a w->Q .normal a w):∀(fuel t:Nat) (listed:Array Bool) (a:Act) (w:World),listed.size=l.length->listed.toList.countP (!·)=fuel->
  Inv F S l w0 L ds n (λi=>listed[i]? =some true) a w->wpOpsIn (FW r) 0 P l.toArray Q (Region.linearise.go .any l.toArray fuel t listed []) a w:=by
 intro fuel t listed a w lC hc hi;refine mu (J:=λD a w=>Inv F S l w0 L ds n (λi=>D i/\i<l.length) a w) dP (λhj hD=>hj.iff λi=>⟨λh=>⟨(hD i h.2).2 h.1,h.2⟩,λh=>⟨(hD i h.2).1 h.1,h.2⟩⟩) (λ{D a w j o rest} oX ho nW hp km hi hk=>?_) (λa w h=>j1 a w (h.iff λi=>⟨λh=>h.1,λh=>⟨h,h⟩⟩)) fuel t listed a w lC hc (λi o h1 h2 k hk=>hi.closed i o h1 h2 k hk) (hi.iff λi=>⟨λh=>⟨h,by have:=(Array.getElem?_eq_some_iff.1 h).1;omega⟩,λh=>h.1⟩);exact hi.next dP xH qC (by have:=hY.get j o ho;rwa [Nat.zero_add]at this) ho (λh=>nW h.1) (λk Tu=>⟨hp k Tu,by have:=dM dP j o ho k Tu;omega⟩) λa' w' k9=>hk a' w' (k9.iff λi=>⟨λh=>h.elim (λe=>⟨.inl e,by omega⟩) (λh=>⟨.inr h.1,h.2⟩),λh=>h.1.imp id (λh2=>⟨h2,h.2⟩)⟩)
theorem Lh {w0:World} {l:List Oper} {o₁:Oper} {tl:List Oper} {S:List (cj M)} (dP:fq (l++o₁::tl) 0=true) (jU:k5 (l++o₁::tl) l.length (dg o₁)=true) (BC:kJ (l++o₁::tl) (l.length+1)=true) (Ca:S.length=l.length) (hY:cf P r n F w0 (l++o₁::tl) S ds L l S 0) (xH:ES F (l++o₁::tl) S) (qC:∀p∈F,∀b,p.2 b->M b) {Q:Exit->Act->World->Prop}
  (j1:∀a w,Inv F S (l++o₁::tl) w0 L ds n (λi=>i<l.length) a w->wpListIn (FW r) 0 P (l++o₁::tl).toArray Q (o₁::tl) a w):∀(fuel t:Nat) (listed:Array Bool) (a:Act) (w:World),listed.size=(l++o₁::tl).length->listed.toList.countP (!·)=fuel->(∀i,l.length<=i->i<(l++o₁::tl).length->listed[i]? =some false)->
  Inv F S (l++o₁::tl) w0 L ds n (λi=>listed[i]? =some true) a w->wpOpsIn (FW r) 0 P (l++o₁::tl).toArray Q (Region.linearise.go .any (l++o₁::tl).toArray fuel t listed []) a w:=by
 intro fuel t listed a w lC hc EB hi;have N4:l.length<(l++o₁::tl).length:=by rw[List.length_append,List.length_cons];omega
 refine zh (J:=λD a w=>Inv F S (l++o₁::tl) w0 L ds n (λi=>D i/\i<(l++o₁::tl).length) a w) dP jU BC (λhj hD=>hj.iff λi=>⟨λh=>⟨(hD i h.2).2 h.1,h.2⟩,λh=>⟨(hD i h.2).1 h.1,h.2⟩⟩) (λ{D a w j o rest} oX ho nW hp km hi hk=>?_) (λa w h=>j1 a w (h.iff λi=>⟨λh=>h.1,λh=>⟨h,by omega⟩⟩)) fuel t listed a w lC hc EB (λi o h1 h2 k hk=>hi.closed i o h1 h2 k hk) (hi.iff λi=>⟨λh=>⟨h,by have:=(Array.getElem?_eq_some_iff.1 h).1;omega⟩,λh=>h.1⟩);have iM:(l++o₁::tl)[j]? =some o:=by rw[List.getElem?_append_left oX];exact ho
 exact hi.next dP xH qC (by have:=hY.get j o ho;rwa [Nat.zero_add]at this) iM (λh=>nW h.1) (λk Tu=>⟨hp k Tu,by have:=dM dP j o iM k Tu;omega⟩) λa' w' k9=>hk a' w' (k9.iff λi=>⟨λh=>h.elim (λe=>⟨.inl e,by omega⟩) (λh=>⟨.inr h.1,h.2⟩),λh=>h.1.imp id (λh2=>⟨h2,h.2⟩)⟩)
theorem T.HG {id:Nat} {l:List Oper} {o₁:Oper} {tl:List Oper} (hm:P.follows .mixedOrders=true) (F:List (Nat×aM)) (S:List (cj M)) (dP:fq (l++o₁::tl) 0=true) (jU:k5 (l++o₁::tl) l.length (dg o₁)=true) (BC:kJ (l++o₁::tl) (l.length+1)=true) (Ca:S.length=l.length) (qC:∀p∈F,∀b,p.2 b->M b) (xH:rr F (l++o₁::tl) S 0) (hY:cf P r n F w (l++o₁::tl) S ds L l S 0)
  (j1:∀w',Step M w M w' (jP (F.map (·.2)))->iH w' (λacc=>Rg P r n (l++o₁::tl).toArray (o₁::tl) (acc++kq (l++o₁::tl) (l.length+1+tl.length) L) ds w' K) l S []):T P r n (.region id (l++o₁::tl).toArray true) L ds w K:=by
 refine ⟨λa ha=>wpIn_region_draw λt=> ?_⟩;simp only[Region.schedule,hm,Bool.true_or,if_true,Region.linearise];have hd:Step M w M {w with drawn:=w.drawn+1} aC:=nV M w;refine Lh (w0:=w) (S:=S) dP jU BC Ca hY xH.st qC (Q:=up n K) ?_ _ t _ a _ (by simp) a96 (by intro i _ h;simp[Array.getElem?_replicate];simpa using h) ⟨hd.eI (λ_ h=>h.elim) (λb ⟨p,hp,_,hb⟩=>qC p hp b hb),?_,ha.size,ha.defers,?_,?_,?_⟩
 ·intro a' w' hi
  have iW:∀{i:Nat} {o:Oper},l[i]? =some o->(l++o₁::tl)[i]? =some o/\i<l.length:=λ{i o} h=>by
   have h1:=(List.getElem?_eq_some_iff.1 h).1;exact⟨by rw[List.getElem?_append_left h1];exact h,h1⟩
  obtain⟨acc,h1,h2⟩:=iH.use (a:=a') l S [] (λi o s h1 h2 h3=>hi.fin i o s (iW h1).1 h2 (iW h1).2 h3) (λi o s d h1 h2 h3=>hi.done i o s d (iW h1).1 h2 (iW h1).2 h3) (λt v h=>by simp[lk]at h)
   (j1 w' (hi.step.eI (λb ⟨p,hp,_,hb⟩=>fR.2 ⟨p.2,List.mem_map.2 ⟨p,hp,rfl⟩,hb⟩) (λb hb=>by
    obtain⟨N,hN,Ez⟩:=fR.1 hb;obtain⟨p,hp,rfl⟩:=List.mem_map.1 hN;exact qC p hp b Ez)))
  have h3:=h1.run a' ⟨hi.size,hi.defers,λt v h=>by
   rcases l2 h with h|h
   ·exact h2 t v h
   ·obtain⟨h3,h4⟩:=j7 (f:=lh (l++o₁::tl) (l.length+1+tl.length)) h;refine hi.base t v h4 λi o h5 _ h6=> ?_
    simp only[lh,List.all_eq_true]at h3;have:=h3 o (List.mem_of_getElem? h5);simp only[h6,beq_self_eq_true,Bool.not_true,Bool.false_or,List.contains_iff_mem]at this;have h7:=dM dP i o h5 _ this;have h8:=(List.getElem?_eq_some_iff.1 h5).1;simp at h8;omega⟩
  exact h3
 ·intro i o s h1 h2 h3;simp[Array.getElem?_replicate]at h3
 ·intro i o s d h1 h2 h3;simp[Array.getElem?_replicate]at h3
 ·intro t v h1 _;exact ha.at_ t v h1
 ·intro i o h1 h2;simp[Array.getElem?_replicate]at h2
theorem T.acb {id:Nat} {l:List Oper} (hm:P.follows .mixedOrders=true) (F:List (Nat×aM)) (S:List (cj M)) (dP:fq l 0=true) (qC:∀p∈F,∀b,p.2 b->M b) (xH:ES F l S) (hY:cf P r n F w l S ds L l S 0)
  (j1:∀w',Step M w M w' (jP (F.map (·.2)))->iH w' (λacc=>K .normal (acc++kq l l.length L) ds w') l S []):T P r n (.region id l.toArray true) L ds w K:=by
 refine ⟨λa ha=>wpIn_region_draw λt=> ?_⟩;simp only[Region.schedule,hm,Bool.true_or,if_true,Region.linearise];have hd:Step M w M {w with drawn:=w.drawn+1} aC:=nV M w;refine Lg (w0:=w) (S:=S) dP hY xH qC (Q:=up n K) ?_ _ t _ a _ (by simp) a96 ⟨hd.eI a30 (λb ⟨p,hp,_,hb⟩=>qC p hp b hb),?_,ha.size,ha.defers,?_,?_,?_⟩
 ·intro a' w' hi
  obtain⟨acc,h1,h2⟩:=iH.use (a:=a') l S [] (λi o s h1 h2 h3=>hi.fin i o s h1 h2 ((List.getElem?_eq_some_iff.1 h1).1) h3) (λi o s d h1 h2 h3=>hi.done i o s d h1 h2 ((List.getElem?_eq_some_iff.1 h1).1) h3) (λt v h=>by simp[lk]at h)
   (j1 w' (hi.step.eI (λb ⟨p,hp,_,hb⟩=>fR.2 ⟨p.2,List.mem_map.2 ⟨p,hp,rfl⟩,hb⟩) (λb hb=>by
    obtain⟨N,hN,Ez⟩:=fR.1 hb;obtain⟨p,hp,rfl⟩:=List.mem_map.1 hN;exact qC p hp b Ez)))
  refine⟨_,_,⟨hi.size,hi.defers,λt v h=>?_⟩,h1⟩;rcases l2 h with h|h
  ·exact h2 t v h
  ·obtain⟨h3,h4⟩:=j7 (f:=lh l l.length) h;refine hi.base t v h4 λi o h5 _ h6=> ?_
   simp only[lh,List.all_eq_true]at h3;have:=h3 o (List.mem_of_getElem? h5);simp only[h6,beq_self_eq_true,Bool.not_true,Bool.false_or,List.contains_iff_mem]at this;have h7:=dM dP i o h5 _ this;have h8:=(List.getElem?_eq_some_iff.1 h5).1;omega
 ·intro i o s h1 h2 h3;simp[Array.getElem?_replicate]at h3
 ·intro i o s d h1 h2 h3;simp[Array.getElem?_replicate]at h3
 ·intro t v h1 _;exact ha.at_ t v h1
 ·intro i o h1 h2;simp[Array.getElem?_replicate]at h2
theorem T.VQ {id:Nat} {l:List Oper} (hm:P.follows .mixedOrders=true) (F:List (Nat×aM)) (S:List (cj M)) (dP:fq l 0=true) (qC:∀p∈F,∀b,p.2 b->M b) (xH:rr F l S 0) (hY:cf P r n F w l S ds L l S 0)
  (j1:∀w',Step M w M w' (jP (F.map (·.2)))->iH w' (λacc=>K .normal (acc++kq l l.length L) ds w') l S []):T P r n (.region id l.toArray true) L ds w K:= .acb hm F S dP qC xH.st hY j1
theorem rr.none:∀{l:List Oper} {S:List (cj M)} {k:Nat},rr [] l S k
 |[],_,_=>by simp[rr]
 |_::_,[],_=>by simp[rr]
 |_::_,_::_,_=>⟨λp hp=>by simp at hp,rr.none⟩
theorem T.draw {id:Nat} {l:List Oper} (hm:P.follows .mixedOrders=true) (S:List (cj M)) (dP:fq l 0=true) (hY:cf P r n [] w l S ds L l S 0)
  (j1:∀w',Step M w M w' aC->iH w' (λacc=>K .normal (acc++kq l l.length L) ds w') l S []):T P r n (.region id l.toArray true) L ds w K:=
 .VQ hm [] S dP (λp hp=>by cases hp) rr.none hY j1
def bL (P:Program) (r:Option Nat) (n:Nat) {M:aM} (F:List (Nat×aM)) (w:World) (l:List Oper) (S:List (cj M)) (ds:List Deferred) (L:Sl):List Oper->List (cj M)->Nat->Prop
 |o::os,s::ss,j=>Obl P r n F w l S ds L j o s/\bL P r n F w l S ds L os ss (j+1)
 |[],[],_=>True
 |_::_,[],_=>True
 |[],_::_,_=>False
theorem bL.cons {l:List Oper} {S:List (cj M)} {o:Oper} {os:List Oper} {s:cj M} {ss:List (cj M)} {j:Nat}
  (h:Obl P r n F w l S ds L j o s) (h':bL P r n F w l S ds L os ss (j+1)):bL P r n F w l S ds L (o::os) (s::ss) j:=⟨h,h'⟩
theorem bL.nil {l:List Oper} {S:List (cj M)} {o:Oper} {os:List Oper} {j:Nat}:bL P r n F w l S ds L (o::os) [] j:=by unfold bL;trivial
theorem bL.take {l:List Oper} {S:List (cj M)}:∀{os:List Oper} {ss:List (cj M)} {j:Nat},bL P r n F w l S ds L os ss j->cf P r n F w l S ds L (os.take ss.length) ss j
 |[],[],_,_=>by simp[cf]
 |_::_,[],_,_=>by simp[cf]
 |[],_::_,_,h=>by simp[bL]at h
 |_::os,_::ss,_,h=>⟨h.1,bL.take h.2⟩
theorem iH.take {w:World} {k:Sl->Prop}:∀{os:List Oper} {ss:List (cj M)} {acc:Sl},iH w k os ss acc->iH w k (os.take ss.length) ss acc
 |[],[],_,h=>by simpa[iH]using h
 |_::_,[],_,h=>by simpa[iH]using h
 |[],_::_,_,h=>by simpa[iH]using h
 |o::os,s::ss,acc,h=>by
  simp only[List.length_cons,List.take_succ_cons,iH]at h ⊢
  split
  ·rename_i d hd
   rw[hd]at h;exact λv hv=>iH.take (h v hv)
  ·rename_i hd
   rw[hd]at h;exact λv hv=>iH.take (h v hv)
theorem T.JW {id:Nat} {l:List Oper} (o₁:Oper) (hm:P.follows .mixedOrders=true) (F:List (Nat×aM)) (S:List (cj M)) (ho:l[S.length]? =some o₁) (Ca:l.length=S.length+1) (dP:fq l 0=true) (jU:(List.range S.length).all (λi=>(dg o₁).contains i||(dg o₁).any (λk=>((l[k]?.map dg).getD []).contains i))=true) (qC:∀p∈F,∀b,p.2 b->M b) (xH:rr F l S 0) (hY:bL P r n F w l S ds L l S 0)
  (j1:∀w',Step M w M w' (jP (F.map (·.2)))->iH w' (λacc=>Rg P r n l.toArray [o₁] (acc++kq l l.length L) ds w' (λe L ds w=>e= .normal/\K .normal L ds w)) l S []):T P r n (.region id l.toArray true) L ds w K:=by
 have hl:l=l.take S.length++[o₁]:=by
  obtain⟨h1,h2⟩:=List.getElem?_eq_some_iff.1 ho;rw[<-h2,<-List.take_succ_eq_append_getElem h1,<-Ca,List.take_length]
 have yY:(l.take S.length).length=S.length:=by simp;omega
 have:=T.N8 (id:=id) (l:=l.take S.length) (o₁:=o₁) (w:=w) (K:=K) hm F S (by rw[<-hl];exact dP) (by rw[yY,<-hl];exact jU) yY.symm qC (by rw[<-hl];exact xH) (by rw[<-hl];exact hY.take) (λw' s=>by rw[<-hl,yY,<-Ca];exact(j1 w' s).take)
 rwa [<-hl]at this
theorem T.qD {id:Nat} {l:List Oper} (hm:P.follows .mixedOrders=true) (F:List (Nat×aM)) (S:List (cj M)) (m:Nat) (XC:S.length=m) (we:Nat.blt m l.length=true) (dP:fq l 0=true) (jU:k5 l m ((l[m]?.map dg).getD [])=true) (BC:kJ l (m+1)=true) (qC:∀p∈F,∀b,p.2 b->M b) (xH:rr F l S 0) (hY:bL P r n F w l S ds L l S 0)
  (j1:∀w',Step M w M w' (jP (F.map (·.2)))->iH w' (λacc=>Rg P r n l.toArray (l.drop m) (acc++kq l l.length L) ds w' K) l S []):T P r n (.region id l.toArray true) L ds w K:=by
 subst XC;have Ca:S.length<l.length:=by simpa[Nat.blt_eq]using we
 have hl:l=l.take S.length++l[S.length]::l.drop (S.length+1):=by
  rw[<-List.drop_eq_getElem_cons Ca,List.take_append_drop]
 have yY:(l.take S.length).length=S.length:=by simp;omega
 have hg:l[S.length]? =some l[S.length]:=List.getElem?_eq_getElem Ca;have hln:S.length+1+(l.drop (S.length+1)).length=l.length:=by rw[List.length_drop];omega
 have:=T.HG (id:=id) (l:=l.take S.length) (o₁:=l[S.length]) (tl:=l.drop (S.length+1)) (w:=w) (K:=K) hm F S (by rw[<-hl];exact dP) (by rw[yY,<-hl];rw[hg]at jU;exact jU) (by rw[yY,<-hl];exact BC) yY.symm qC (by rw[<-hl];exact xH) (by rw[<-hl];exact hY.take) (λw' s=>by rw[<-hl,yY,hln,<-List.drop_eq_getElem_cons Ca];exact(j1 w' s).take)
 rwa [<-hl]at this
end
section
variable {P:Program} {r:Option Nat} {n:Nat} {L:Sl} {ds:List Deferred} {w:World} {K:Kt}
def jX:Op->Bool
 |.move _| .assign _| .pick .. | .load .. | .nilCheck _| .binOp .. | .unOp .. | .convert .. | .makeInterface .. | .makeFunc .. | .slice .. | .fieldAddr .. | .field .. | .indexAddr .. | .index .. | .typeAssert .. | .extract .. | .lookup .. | .build .. =>true
 |.call {callee:= .builtin .len,.. }| .call {callee:= .builtin .cap,.. }| .call {callee:= .builtin .min,.. }| .call {callee:= .builtin .max,.. }=>true
 |_=>false
theorem mv {ρ ρ':Operand->Value} {o:Oper} (hq:jX o.op=true) (h:∀x∈o.op.operands,ρ x=ρ' x):execOp ρ o=execOp ρ' o:=by
 obtain⟨dst,op,type,pos,after,guard⟩:=o;have Dj:∀{xs:Array Operand},(∀x∈xs,ρ x=ρ' x)->xs.map ρ=xs.map ρ':=λhx=>Array.map_congr_left hx
 have EU:∀{x:Option Operand},(∀y,x=some y->ρ y=ρ' y)->x.map ρ=x.map ρ':=λ{x} hx=>by
  cases x with
  |none=>rfl
  |some y=>simp[hx y rfl]
 cases op<;>simp only[jX,Bool.false_eq_true]at hq<;>simp only[Op.operands,List.mem_toArray,List.mem_cons,List.not_mem_nil,or_false,forall_eq_or_imp,forall_eq,Array.mem_append,Option.mem_toArray]at h<;>simp only[execOp]
 case pick=>rw[h.1,h.2.1,h.2.2]
 case build t ps=>
  have:ps.map (λp=>(p.1,ρ p.2))=ps.map (λp=>(p.1,ρ' p.2)):=Array.map_congr_left λp hp=>by
   rw[h p.2 (List.mem_map.2 ⟨p,by simpa using hp,rfl⟩)]
  rw[this]
 case nilCheck=>rw[h]
 case binOp=>rw[h.1,h.2]
 case makeFunc f xs ys=>rw[Dj (λx hx=>h x (.inl hx)),Dj (λx hx=>h x (.inr hx))]
 case slice t x lo hi mx=>
  rw[h x (by simp),EU (x:=lo) (λy hy=>h y (by simp[hy])),EU (x:=hi) (λy hy=>h y (by simp[hy])),EU (x:=mx) (λy hy=>h y (by simp[hy]))]
 case indexAddr=>rw[h.1,h.2]
 case index=>rw[h.1,h.2]
 case lookup=>rw[h.1,h.2]
 case call c=>
  obtain⟨cal,args,K5⟩:=c
  cases cal with
  |builtin b=>
   simp only[Call.operands,Array.empty_append]at h;simp only[resolve,Dj h]
  |_=>cases hq
 all_goals rw[h]
theorem Cb {s:Sem Value} {w w':World} {nx:Next} (h:(do pure (Next.value (<-s)):Sem Next).run P w= .ok nx w'):∃v,nx= .value v:=by
 rw[Sem.run_bind]at h
 cases hs:s.run P w with
 |ok v w1=>rw[hs]at h;simp only[Result.andThen,Sem.run_pure,Result.ok.injEq]at h;exact⟨v,h.1.symm⟩
 |halt x w1=>rw[hs]at h;simp[Result.andThen]at h
theorem EV {ρ:Operand->Value} {o:Oper} (hq:jX o.op=true) {nx:Next} {w w':World} (h:(execOp ρ o).run P w= .ok nx w'):∃v,nx= .value v:=by
 obtain⟨dst,op,type,pos,after,guard⟩:=o
 cases op<;>simp only[jX,Bool.false_eq_true]at hq<;>simp only[execOp]at h
 case move=>simp only[Sem.run_pure,Result.ok.injEq]at h;exact⟨_,h.1.symm⟩
 case assign=>simp only[Sem.run_pure,Result.ok.injEq]at h;exact⟨_,h.1.symm⟩
 case pick c a b=>
  rw[Sem.run_bind]at h
  cases hs:(asBool (ρ c)).run P w with
  |ok v w1=>rw[hs]at h;simp only[Result.andThen]at h;exact⟨_,(Result.ok.inj h).1.symm⟩
  |halt x w1=>rw[hs]at h;simp[Result.andThen]at h
 case nilCheck x=>
  split at h
  ·simp[runtimePanic,Sem.run]at h
  ·simp[runtimePanic,Sem.run]at h
  ·simp[runtimePanic,Sem.run]at h
  ·split at h
   ·simp[runtimePanic,Sem.run]at h
   ·rename_i t w0 _ _
    simp only[Sem.run_bind]at h
    cases hp:(program).run P w with
    |halt x w1=>rw[hp]at h;simp[Result.andThen]at h
    |ok p w1=>
     rw[hp]at h;simp only[Result.andThen]at h;generalize (nilAhead _ _ _ _).run P _=res at h
     cases res with
     |halt x w2=>cases h
     |ok b w2=>
      simp only at h
      split at h
      ·simp[unsupported,Sem.run,Sem.run_bind,Result.andThen]at h
      ·simp only[Sem.run_pure,Sem.run_bind,Result.andThen,Result.ok.injEq]at h;exact⟨_,h.1.symm⟩
   ·simp only[Sem.run_pure,Result.ok.injEq]at h;exact⟨_,h.1.symm⟩
  ·simp only[Sem.run_pure,Result.ok.injEq]at h;exact⟨_,h.1.symm⟩
 case call c=>
  obtain⟨cal,args,K5⟩:=c
  cases cal with
  |builtin b=>
   cases b<;>first|cases hq|skip
   all_goals
    simp only[resolve]at h;exact Cb h
  |_=>cases hq
 all_goals exact Cb h
def One (P:Program) (r:Option Nat) (ops:Array Oper) (w:World) (o:Oper) (a:Act) (v:Value):Prop:=
 if Region.wanted o (yielded ops a.tmps)then(execOp a.eval o).run P w= .ok (.value v) w else v=undef
def QTr (P:Program) (r:Option Nat) (ops:Array Oper) (w:World):List Oper->Act->Act->List Value->Prop
 |[],a,a',vs=>a=a'∧vs=[]
 |o::os,a,a',vs=>∃v vt,vs=v::vt/\One P r ops w o a v/\QTr P r ops w os (a.put o.dst v) a' vt
def lO (P:Program) (r:Option Nat) (n:Nat) (ops:Array Oper):List Oper->Sl->List Deferred->World->(Sl->Prop)->Prop
 |[],L,ds,w,k=>k L
 |o::rest,L,ds,w,k=>Rg P r n ops [o] L ds w (λe L' p9 w'=>e= .normal/\p9=ds/\w'=w/\lO P r n ops rest L' ds w k)
theorem lO.nil {ops:Array Oper} {k:Sl->Prop} (h:k L):lO P r n ops [] L ds w k:=h
theorem my {o:Oper} (hq:jX o.op=true):∀c,o.op≠ .defer c:=λc h=>by rw[h]at hq;cases hq
theorem lO.trace {ops:Array Oper} {k:Sl->Prop}:∀{l:List Oper} {L:Sl} {a:Act},lO P r n ops l L ds w k->(∀o∈l,jX o.op=true)->iU n a L ds->∃a' L' vs,QTr P r ops w l a a' vs/\iU n a' L' ds/\k L'
 |[],L,a,h,_,ha=>⟨a,L,[],⟨rfl,rfl⟩,ha,h⟩
 |o::os,L,a,h,hq,ha=>by
  have hqo:=hq o (List.mem_cons_self ..);have h1:=Rg.run h a ha;simp only[wpListIn]at h1;by_cases hw:Region.wanted o (yielded ops a.tmps)=true
  ·rw[if_pos hw]at h1;obtain⟨_,h1⟩:=h1;rw[Oper.semAt_eq _ _ _ (my hqo)]at h1
   cases hr:(execOp a.eval o).run P w with
   |ok nx w'=>
    obtain⟨v,rfl⟩:=EV hqo hr;rw[hr]at h1;obtain⟨L1,ds1,hA,_,Oc,hww,hk⟩:=h1;rw[Oc]at hA;rw[hww]at hr;obtain⟨a',L',vs,h2,h3,h4⟩:=lO.trace hk (λo ho=>hq o (List.mem_cons_of_mem _ ho)) hA;exact⟨a',L',v::vs,⟨v,vs,G,by unfold One;rw[if_pos hw];exact hr,h2⟩,h3,h4⟩
   |halt x w'=>
    rw[hr]at h1
    cases x with
    |panic v=>obtain⟨L1,ds1,hA,hn,_⟩:=h1;cases hn
    |_=>exact h1.elim
  ·rw[if_neg hw]at h1;obtain⟨_,L1,ds1,hA,_,Oc,_,hk⟩:=h1;rw[Oc]at hA;obtain⟨a',L',vs,h2,h3,h4⟩:=lO.trace hk (λo ho=>hq o (List.mem_cons_of_mem _ ho)) hA;exact⟨a',L',undef::vs,⟨undef,vs,G,by unfold One;rw[if_neg hw],h2⟩,h3,h4⟩
def asks (ops:List Oper) (o:Oper):List Nat:=(o.op.operands.toList.filterMap λx=>match x with| .tmp t=>some t|_=>none)++(match o.guard with|some (j,_)=>((ops[j]?).bind (·.dst)).toList|none=>[])
def k7 (l:List Oper) (m:Nat):Bool:=(List.range m).all λj=>match l[j]? with
 |some o=>jX o.op&&(asks l o).all λt=>(List.range m).all λi=>match l[i]? with
  |some o'=> !(o'.dst==some t)||(dg o).contains i||Nat.beq i j||(dg o').contains j
  |none=>true
 |none=>false
theorem lj {l:List Oper} {m:Nat} (h:k7 l m=true) {j:Nat} {o:Oper} (hj:j<m) (ho:l[j]? =some o):jX o.op=true/\∀t∈asks l o,∀i o',i<m->l[i]? =some o'→o'.dst=some t->i∈dg o\/i=j\/j∈dg o':=by
 have h1:=List.all_eq_true.1 h j (List.mem_range.2 hj);rw[ho]at h1;simp only[Bool.and_eq_true]at h1;refine ⟨h1.1,λt ht i o' hi iM hd=> ?_⟩;have h2:=List.all_eq_true.1 (List.all_eq_true.1 h1.2 t ht) i (List.mem_range.2 hi);rw[iM]at h2;simp only[hd,beq_self_eq_true,Bool.not_true,Bool.false_or,Bool.or_eq_true,List.contains_iff_mem]at h2;rcases h2 with(h2|h2)|h2
 ·exact .inl h2
 ·exact .inr (.inl (Nat.eq_of_beq_eq_true h2))
 ·exact .inr (.inr h2)
theorem QTr.Dk {ops:Array Oper}:∀{l:List Oper} {a a':Act} {vs:List Value},QTr P r ops w l a a' vs->∃st:Nat->Act,st 0=a/\st l.length=a'∧∀j o,l[j]? =some o->∃v,vs[j]? =some v/\One P r ops w o (st j) v/\st (j+1)=(st j).put o.dst v
 |[],a,a',vs,h=>⟨λ_=>a,rfl,h.1,λj o ho=>by simp at ho⟩
 |o::os,a,a',vs,⟨v,vt,hv,h1,h2⟩=>by
  obtain⟨st,g0,g1,g2⟩:=QTr.Dk h2;refine ⟨λj=>match j with|0=>a|j+1=>st j,rfl,g1,λj o' iM=> ?_⟩;subst hv
  cases j with
  |zero=>simp only[List.getElem?_cons_zero,Option.some.injEq]at iM;subst iM;exact⟨v,G,h1,g0⟩
  |succ j=>exact g2 j o' (by simpa using iM)
theorem ib (a:Act) (d:Option Nat) (v:Value) (t:Nat):(a.put d v).tmps[t]? =if d=some t then(a.tmps.setIfInBounds t v)[t]? else a.tmps[t]? :=by
 cases d with
 |none=>simp[Act.put]
 |some d=>
  simp only[Act.put,Option.some.injEq]
  split
  ·rename_i h;subst h;rfl
  ·rename_i h;rw[Array.getElem?_setIfInBounds,if_neg h]
theorem nY (a:Act) (d:Option Nat) (v:Value):(a.put d v).tmps.size=a.tmps.size:=by cases d<;>simp[Act.put]
theorem put_defers (a:Act) (d:Option Nat) (v:Value):(a.put d v).defers=a.defers:=by cases d<;>rfl
theorem tZ {xs ys:Array Value} {t:Nat} {v:Value} (h:xs.size=ys.size):(xs.setIfInBounds t v)[t]? =(ys.setIfInBounds t v)[t]? :=by
 rw[Array.getElem?_setIfInBounds,Array.getElem?_setIfInBounds,if_pos rfl,if_pos rfl,h]
structure QJ (l:List Oper) (m:Nat) (a0:Act) (gS:List Value) (wd:World) (D:Nat->Prop) (a:Act) (w:World):Prop where
 world:w=wd
 defers:a.defers=a0.defers
 size:a.tmps.size=a0.tmps.size
 done:∀i o v t,i<m->l[i]? =some o->gS[i]? =some v->D i->o.dst=some t->a.tmps[t]? =(a0.tmps.setIfInBounds t v)[t]?
 base:∀t,(∀i o,i<m->l[i]? =some o->D i->o.dst≠some t)->a.tmps[t]? =a0.tmps[t]?
theorem fS {l:List Oper} (dP:fq l 0=true) {i j:Nat} {o o':Oper} {t:Nat} (hi:l[i]? =some o) (hj:l[j]? =some o') (h1:o.dst=some t) (h2:o'.dst=some t):i=j:=by
 by_cases e:i=j
 ·exact e
 ·exact absurd h2 (wh dP i j o o' t hi hj e h1)
theorem nZ {l:List Oper} {m:Nat} {a0:Act} {gS:List Value} {ops:Array Oper} (dP:fq l 0=true) {st:Nat->Act} (h0:st 0=a0) (jT:∀j o,j<m->l[j]? =some o->∃v,gS[j]? =some v/\One P r ops w o (st j) v/\st (j+1)=(st j).put o.dst v):
  ∀j,j<=m->j<=l.length->QJ l m a0 gS w (λi=>i<j) (st j) w
 |0,_,_=>⟨rfl,by rw[h0],by rw[h0],λi o v t _ _ _ h=>by omega,λt _=>by rw[h0]⟩
 |j+1,hm,hl=>by
  have ih:=nZ dP h0 jT j q0 q0;obtain⟨o,ho⟩:∃o,l[j]? =some o:=⟨_,List.getElem?_eq_getElem q0⟩;obtain⟨v,hv,_,h2⟩:=jT j o q0 ho;rw[h2];refine⟨rfl,by rw[put_defers];exact ih.defers,by rw[nY];exact ih.size,λi o' v' t pV iM rV jr hd=>?_,λt ht=>?_⟩
  ·rw[ib];by_cases e:i=j
   ·subst e;rw[ho]at iM;cases iM;rw[hv]at rV;cases rV;rw[if_pos hd];exact tZ ih.size
   ·rw[if_neg (λh=>e (fS dP iM ho hd h))];exact ih.done i o' v' t pV iM rV q0 hd
  ·rw[ib,if_neg (ht j o q0 ho q0)];exact ih.base t λi o' h1 h2 h3=>ht i o' h1 h2 q0
theorem QJ.agree {l:List Oper} {m:Nat} {a0:Act} {gS:List Value} {wd w':World} {D D':Nat->Prop} {a a':Act} (dP:fq l 0=true) (lG:∀i,i<m->∃v,gS[i]? =some v) (h:QJ l m a0 gS wd D a w) (h':QJ l m a0 gS wd D' a' w') {t:Nat}
  (hD:∀i o,i<m->l[i]? =some o->o.dst=some t->(D i↔D' i)):a.tmps[t]? =a'.tmps[t]? :=by
 by_cases hx:∃i o,i<m/\l[i]? =some o/\o.dst=some t
 ·obtain⟨i,o,pV,ho,hd⟩:=hx;by_cases EA:D i
  ·obtain⟨v,hv⟩:=lG i pV;rw[h.done i o v t pV ho hv EA hd,h'.done i o v t pV ho hv ((hD i o pV ho hd).1 EA) hd]
  ·have key:∀{E:Nat->Prop},¬E i->∀k o',k<m->l[k]? =some o'→E k->o'.dst≠some t:=λhE k o' _ iM hEk VO=>hE (by rw[fS dP ho iM hd VO];exact hEk)
   rw[h.base t (key EA),h'.base t (key λhh=>EA ((hD i o pV ho hd).2 hh))]
 ·have key:∀{E:Nat->Prop},∀k o',k<m->l[k]? =some o'→E k->o'.dst≠some t:=λk o' hk iM _ VO=>hx ⟨k,o',hk,iM,VO⟩
  rw[h.base t key,h'.base t key]
theorem n0 {l:List Oper} {o:Oper} {a a':Act} (h:∀t∈asks l o,a.tmps[t]? =a'.tmps[t]?):(∀x∈o.op.operands,a.eval x=a'.eval x)/\Region.wanted o (yielded l.toArray a.tmps)=Region.wanted o (yielded l.toArray a'.tmps):=by
 refine⟨λx hx=>?_,?_⟩
 ·cases x with
  |tmp t=>
   have:=h t (List.mem_append_left _ (List.mem_filterMap.2 ⟨.tmp t,by simpa using hx,rfl⟩));simp only[Act.eval,Array.getD_eq_getD_getElem?,this]
  |_=>rfl
 ·unfold Region.wanted
  cases hg:o.guard with
  |none=>rfl
  |some p=>
   obtain⟨j,b⟩:=p;simp only
   have:yielded l.toArray a.tmps j=yielded l.toArray a'.tmps j:=by
    unfold yielded
    cases hd:(l.toArray[j]?).bind (·.dst)with
    |none=>rfl
    |some t=>
     have h2:=h t (List.mem_append_right _ (by
      simp only[hg];have:(l[j]?).bind (·.dst)=some t:=by rw[<-hd];simp
      rw[this];simp))
     simp only[Option.bind_some,h2]
   rw[this]
theorem One.run {ops:Array Oper} {Q:Exit->Act->World->Prop} {i:Nat} {rest:List Nat} {o:Oper} {a:Act} {v:Value} (ho:ops[i]? =some o) (hq:jX o.op=true) (h:One P r ops w o a v) (hk:wpOpsIn (FW r) 0 P ops Q rest (a.put o.dst v) w):wpOpsIn (FW r) 0 P ops Q (i::rest) a w:=by
 simp only[wpOpsIn,ho];unfold One at h
 split
 ·rename_i hw
  rw[if_pos hw]at h;refine ⟨λ_ _=>trivial,?_⟩;rw[Oper.semAt_eq _ _ _ (my hq),h];exact hk
 ·rename_i hw
  rw[if_neg hw]at h;subst h;exact⟨λ_ _=>trivial,hk⟩
theorem QJ.step {l:List Oper} {m:Nat} {a0:Act} {gS:List Value} {wd:World} (dP:fq l 0=true) (rK:k7 l m=true) (lG:∀i,i<m->∃v,gS[i]? =some v) {st:Nat->Act} (we:m<=l.length)
  (jT:∀j o,j<m->l[j]? =some o->∃v,gS[j]? =some v/\One P r l.toArray wd o (st j) v) (Dl:∀j,j<m->QJ l m a0 gS wd (λi=>i<j) (st j) wd)
  {Q:Exit->Act->World->Prop} {D:Nat->Prop} {a:Act} {w:World} {j:Nat} {o:Oper} {rest:List Nat} (hj:j<m) (ho:l[j]? =some o) (nW: ¬D j) (hp:∀k∈dg o,D k) (km:∀i o,l[i]? =some o->D i->∀k∈dg o,D k) (hi:QJ l m a0 gS wd D a w)
  (hk:∀a' w',QJ l m a0 gS wd (λi=>i=j\/D i) a' w'→wpOpsIn (FW r) 0 P l.toArray Q rest a' w'):wpOpsIn (FW r) 0 P l.toArray Q (j::rest) a w:=by
 obtain⟨v,hv,h1⟩:=jT j o hj ho;obtain⟨hq,rK⟩:=lj rK hj ho
 have Ey:∀t∈asks l o,a.tmps[t]? =(st j).tmps[t]? :=λt ht=>hi.agree dP lG (Dl j hj) λi o' pV iM hd=>by
  rcases rK t ht i o' pV iM hd with h|h|h
  ·have:=dM dP j o ho i h;exact⟨λ_=>by omega,λ_=>hp i h⟩
  ·subst h;exact⟨λh=>absurd h nW,λh=>by omega⟩
  ·have:=dM dP i o' iM j h;exact⟨λh2=>absurd (km i o' iM h2 j h) nW,λh=>by omega⟩
 obtain⟨Nq,tX⟩:=n0 Ey;obtain⟨hww⟩:Nonempty (w=wd):=⟨hi.world⟩
 have h2:One P r l.toArray w o a v:=by
  unfold One at h1 ⊢;rw[tX,mv hq Nq,hww];exact h1
 refine h2.run (by simpa using ho) hq (hk _ _ ⟨hww,by rw[put_defers];exact hi.defers,by rw[nY];exact hi.size,λi o' v' t pV iM rV hD hd=>?_,λt ht=>?_⟩)
 ·rw[ib];by_cases e:i=j
  ·subst e;rw[ho]at iM;cases iM;rw[hv]at rV;cases rV;rw[if_pos hd];exact tZ hi.size
  ·rw[if_neg (λh=>e (fS dP iM ho hd h))];exact hi.done i o' v' t pV iM rV (hD.resolve_left e) hd
 ·rw[ib,if_neg (ht j o hj ho (.inl rfl))];exact hi.base t λi o' h1 h2 h3=>ht i o' h1 h2 (.inr h3)
theorem lO.parts {l lq:List Oper} {m:Nat} {k:Sl->Prop} (hlq:lq=l.take m) (we:m<=l.length) (dP:fq l 0=true) (rK:k7 l m=true) {a0:Act} (ha:iU n a0 L ds) (h:lO P r n l.toArray lq L ds w k):
  ∃gS:List Value,(∀i,i<m->∃v,gS[i]? =some v)/\(∃st:Nat->Act,(∀j o,j<m->l[j]? =some o->∃v,gS[j]? =some v/\One P r l.toArray w o (st j) v)/\∀j,j<m->QJ l m a0 gS w (λi=>i<j) (st j) w)/\
   ∀a w',QJ l m a0 gS w (λi=>i<m) a w'→∃L',iU n a L' ds/\k L'∧w'=w:=by
 have iW:∀j,j<m->lq[j]? =l[j]? :=λj hj=>by rw[hlq,List.getElem?_take,if_pos hj]
 obtain⟨a',L',vs,Cc,hA,hk⟩:=h.trace (λo ho=>by
  obtain⟨j,hj⟩:=List.mem_iff_getElem?.1 ho
  have Hu:j<m:=by
   have:=(List.getElem?_eq_some_iff.1 hj).1;rw[hlq,List.length_take]at this;omega
  exact(lj rK Hu (by rw[<-iW j Hu];exact hj)).1) ha
 obtain⟨st,h0,hl,jT⟩:=Cc.Dk;have hlen:lq.length=m:=by rw[hlq,List.length_take];omega
 rw[hlen]at hl;have yt:∀j o,j<m->l[j]? =some o->∃v,vs[j]? =some v/\One P r l.toArray w o (st j) v/\st (j+1)=(st j).put o.dst v:=λj o hj ho=>jT j o (by rw[iW j hj];exact ho)
 have lG:∀i,i<m->∃v,vs[i]? =some v:=λi hi=>by
  obtain⟨v,hv,_⟩:=yt i l[i] hi (List.getElem?_eq_getElem q0);exact⟨v,hv⟩
 refine⟨vs,lG,⟨st,λj o hj ho=>?_,λj hj=>nZ dP h0 yt j q0 q0⟩,λa w' hi=>⟨L',⟨?_,?_,λt v ht=>?_⟩,hk,hi.world⟩⟩
 ·obtain⟨v,h1,h2,_⟩:=yt j o hj ho;exact⟨v,h1,h2⟩
 ·rw[hi.size];exact ha.size
 ·rw[hi.defers];exact ha.defers
 ·have:=nZ dP h0 yt m (Nat.le_refl _) we;rw[hl]at this;rw[hi.agree dP lG this (λ_ _ _ _ _=>Iff.rfl)];exact hA.at_ t v ht
theorem QJ.acf {l:List Oper} {m:Nat} {a0 a:Act} {gS:List Value} {wd w:World} {D D':Nat->Prop} (we:m<=l.length) (h:QJ l m a0 gS wd D a w) (hD:∀i,i<l.length->(D' i↔D i)):QJ l m a0 gS wd D' a w:=
 ⟨h.world,h.defers,h.size,λi o v t h1 h2 h3 h4 h5=>h.done i o v t h1 h2 h3 ((hD i q0).1 h4) h5,λt ht=>h.base t λi o h1 h2 h3=>ht i o h1 h2 ((hD i q0).2 h3)⟩
theorem oZ (w:World):∀M,Step M w M {w with drawn:=w.drawn+1} aC:=λM=>nV M w
theorem T.kK {id:Nat} {l:List Oper} (hm:P.follows .mixedOrders=true) (dP:fq l 0=true) (rK:k7 l l.length=true)
  (h:∀wD,(∀M,Step M w M wD aC)->lO P r n l.toArray l L ds wD (λL'=>K .normal L' ds wD)):T P r n (.region id l.toArray true) L ds w K:=by
 refine ⟨λa ha=>wpIn_region_draw λt=> ?_⟩;simp only[Region.schedule,hm,Bool.true_or,if_true,Region.linearise];obtain⟨gS,lG,⟨st,h1,h2⟩,j1⟩:=lO.parts (m:=l.length) (by simp) (Nat.le_refl _) dP rK ha (h _ (oZ w));refine mu (J:=QJ l l.length a gS _) dP (λhi hD=>hi.acf (Nat.le_refl _) hD) (λhj ho nW hp km hi hk=>QJ.step dP rK lG (Nat.le_refl _) h1 h2 hj ho nW hp km hi hk) (λa' w' hi=>?_) _ t _ a _ (by simp) a96 (λi o h1 h2=>?_) ⟨G,G,G,λi o v t h1 h2 h3 h4=>?_,λt _=>G⟩
 ·obtain⟨L',hA,hk,hw⟩:=j1 a' w' hi;rw[hw];exact⟨L',ds,hA,hk⟩
 ·simp[Array.getElem?_replicate]at h2
 ·simp[Array.getElem?_replicate]at h4
theorem T.VR {id:Nat} {l:List Oper} (m:Nat) (hm:P.follows .mixedOrders=true) (we:Nat.blt m l.length=true) (dP:fq l 0=true) (jU:k5 l m ((l[m]?.map dg).getD [])=true) (BC:kJ l (m+1)=true) (rK:k7 l m=true)
  (h:∀wD,(∀M,Step M w M wD aC)->lO P r n l.toArray (l.take m) L ds wD (λL'=>Rg P r n l.toArray (l.drop m) L' ds wD K)):T P r n (.region id l.toArray true) L ds w K:=by
 refine ⟨λa ha=>wpIn_region_draw λt=> ?_⟩;simp only[Region.schedule,hm,Bool.true_or,if_true,Region.linearise];have Ca:m<l.length:=by simpa[Nat.blt_eq]using we
 obtain⟨gS,lG,⟨st,h1,h2⟩,j1⟩:=lO.parts (m:=m) rfl q0 dP rK ha (h _ (oZ w))
 have hl:l=l.take m++l[m]::l.drop (m+1):=by
  rw[<-List.drop_eq_getElem_cons Ca,List.take_append_drop]
 have yY:(l.take m).length=m:=by simp;omega
 have hg:l[m]? =some l[m]:=List.getElem?_eq_getElem Ca
 have key:=zh (P:=P) (r:=r) (l:=l.take m) (o₁:=l[m]) (tl:=l.drop (m+1)) (J:=QJ l m a gS {w with drawn:=w.drawn+1}) (Q:=up n K) (by rw[<-hl];exact dP) (by rw[yY,<-hl];rw[hg]at jU;exact jU) (by rw[yY,<-hl];exact BC)
  (λhi hD=>hi.acf q0 (by rw[<-hl]at hD;exact hD)) (λ{D a' w' j o rest} hj ho nW hp km hi hk=>by
   rw[<-hl]at km hk ⊢;rw[yY]at hj;rw[List.getElem?_take,if_pos hj]at ho;exact QJ.step dP rK lG q0 h1 h2 hj ho nW hp km hi hk) (λa' w' hi=>by
   rw[yY]at hi;obtain⟨L',hA,hk,hw⟩:=j1 a' w' hi;rw[<-hl,<-List.drop_eq_getElem_cons Ca,hw];exact hk.run a' hA) l.length t (Array.replicate l.length false) a {w with drawn:=w.drawn+1}
 rw[<-hl]at key;have lC:l.toArray.size=l.length:=by simp
 rw[lC];refine key (by simp) a96 (λi h3 h4=>?_) (λi o h3 h4=>?_) ⟨G,G,G,λi o v t h3 h4 h5 h6=>?_,λt _=>G⟩
 ·simp[Array.getElem?_replicate];exact h4
 ·simp[Array.getElem?_replicate]at h4
 ·simp[Array.getElem?_replicate]at h6
theorem iH.nil {M:aM} {k:Sl->Prop} {acc:Sl} (h:k acc):iH (M:=M) w k [] [] acc:=by unfold iH;exact h
theorem T.iN {x y:Code} (L1:Sl) (h:T P r n x L ds w (λe L' p9 w'=>e= .normal/\p9=ds/\w'=w/\Sub L1 L')) (k:T P r n y L1 ds w K):T P r n (.seq x y) L ds w K:=
 .seq (h.mono λe L' p9 w' ⟨he,hd,hw,hs⟩=>by subst he;rw[hd,hw];exact k.weaken L1 hs)
end
section
variable {P:Program} {r:Option Nat} {n:Nat} {L:Sl} {ds:List Deferred} {w:World} {K:Kt}
def tc:Op->Bool
 |.defer _| .go _| .select .. | .send .. | .recv .. =>false
 |_=>true
theorem Tv {ρ ρ':Operand->Value} {o:Oper} (hq:tc o.op=true) (h:∀x∈o.op.operands,ρ x=ρ' x):execOp ρ o=execOp ρ' o:=by
 obtain⟨dst,op,type,pos,after,guard⟩:=o;have Dj:∀{xs:Array Operand},(∀x∈xs,ρ x=ρ' x)->xs.map ρ=xs.map ρ':=λhx=>Array.map_congr_left hx
 have EU:∀{x:Option Operand},(∀y,x=some y->ρ y=ρ' y)->x.map ρ=x.map ρ':=λ{x} hx=>by
  cases x with
  |none=>rfl
  |some y=>simp[hx y rfl]
 cases op<;>simp only[tc,Bool.false_eq_true]at hq<;>simp only[Op.operands,List.mem_toArray,List.mem_cons,List.not_mem_nil,or_false,forall_eq_or_imp,forall_eq,Array.mem_append,Option.mem_toArray]at h<;>simp only[execOp]
 case pick=>rw[h.1,h.2.1,h.2.2]
 case build t ps=>
  have:ps.map (λp=>(p.1,ρ p.2))=ps.map (λp=>(p.1,ρ' p.2)):=Array.map_congr_left λp hp=>by
   rw[h p.2 (List.mem_map.2 ⟨p,by simpa using hp,rfl⟩)]
  rw[this]
 case buildSlice t k ps=>
  have:ps.map (λp=>(p.1,ρ p.2))=ps.map (λp=>(p.1,ρ' p.2)):=Array.map_congr_left λp hp=>by
   rw[h p.2 (List.mem_map.2 ⟨p,by simpa using hp,rfl⟩)]
  rw[this]
 case nilCheck=>rw[h]
 case binOp=>rw[h.1,h.2]
 case makeFunc f xs ys=>rw[Dj (λx hx=>h x (.inl hx)),Dj (λx hx=>h x (.inr hx))]
 case makeMap t xs=>rw[EU (λy hy=>h y (by simp[hy]))]
 case slice t x lo hi mx=>
  rw[h x (by simp),EU (x:=lo) (λy hy=>h y (by simp[hy])),EU (x:=hi) (λy hy=>h y (by simp[hy])),EU (x:=mx) (λy hy=>h y (by simp[hy]))]
 case call c=>
  obtain⟨cal,args,K5⟩:=c
  cases cal with
  |builtin b=>
   simp only[Call.operands,Array.empty_append]at h;simp only[resolve,Dj h]
  |invoke x name=>
   simp only[Call.operands,Array.mem_append,List.mem_toArray,List.mem_singleton]at h;simp only[resolve,h x (.inl rfl),Dj (λy hy=>h y (.inr hy))]
  |value x=>
   simp only[Call.operands,Array.mem_append,List.mem_toArray,List.mem_singleton]at h;simp only[resolve,h x (.inl rfl),Dj (λy hy=>h y (.inr hy))]
 all_goals first
  |rw[h]
  |rw[h.1,h.2]
  |rw[h.1,h.2.1,h.2.2]
  |rfl
def fG (N:aM) (wd w:World):Prop:=wd.heap.size<=w.heap.size/\∀b,b<wd.heap.size->¬N b->w.heap[b]? =wd.heap[b]?
theorem fG.refl (N:aM) (w:World):fG N w w:=⟨Nat.le_refl _,λ_ _ _=>rfl⟩
theorem fG.go {M M' N N':aM} {wd w w':World} (h:fG N wd w) (s:Step M w M' w' N') (hN:∀b,b<wd.heap.size->N' b->N b):fG N wd w':=
 ⟨Nat.le_trans h.1 s.size,λb hb hn=>(s.same b (Nat.lt_of_lt_of_le hb h.1) (λEv=>hn (hN b hb Ev))).trans (h.2 b hb hn)⟩
theorem fG.tM {M M' N:aM} {wd w w':World} (h:fG N wd w) (s:Step M w M' w' aC):fG N wd w':=h.go s λ_ _ h=>h.elim
theorem fG.goN {M M' N:aM} {wd w w':World} (h:fG N wd w) (s:Step M w M' w' N):fG N wd w':=h.go s λ_ _ h=>h
def cP (P:Program) (N:aM) (wd:World) (L:Sl) (o:Oper):Prop:=∀ρ:Operand->Value,(∀x u,ev L x=some u->ρ x=u)->∀v w',fG N wd w'→(execOp ρ o).run P wd= .ok (.value v) wd->(execOp ρ o).run P w'= .ok (.value v) w'
def ua (P:Program) (r:Option Nat) (n:Nat) (ops:Array Oper) (N:aM) (wd:World) (K:Kt):Nat->List Oper->Sl->List Deferred->World->Prop
 |_,[],L,ds,w=>K .normal L ds w
 |c,o::rest,L,ds,w=>Rg P r n ops [o] L ds w (λe L' p9 w'=>e= .normal/\p9=ds/\(c≠0->fG N wd w')/\ua P r n ops N wd K (c-1) rest L' ds w')
theorem ua.nil {ops:Array Oper} {N:aM} {wd:World} {c:Nat} (h:K .normal L ds w):ua P r n ops N wd K c [] L ds w:=h
def nr (l:List Oper) (fl:List Nat):Nat->List Nat->Bool
 |0,_=>true
 |j+1,acc=>if fl.contains j then nr l fl j acc else acc.contains j&&nr l fl j (acc++(l[j]?.map dg).getD [])
theorem nt {l:List Oper} {fl:List Nat} {D:Nat->Prop} (km:∀k o,l[k]? =some o->D k->∀i∈dg o,D i):∀(j:Nat) (acc:List Nat),nr l fl j acc=true->(∀k∈acc,D k)->∀i,i<j->i∉fl->D i
 |0,_,_,_,i,hi,_=>by omega
 |j+1,acc,h,ha,i,hi,hf=>by
  simp only[nr]at h
  split at h
  ·rename_i hj
   rcases Nat.lt_or_ge i j with eZ|tS
   ·exact nt km j acc h ha i eZ hf
   ·obtain rfl:i=j:=by omega
    exact absurd a97 hf
  ·simp only[Bool.and_eq_true,List.contains_iff_mem]at h;have hj:=ha j h.1;rcases Nat.lt_or_ge i j with eZ|tS
   ·refine nt km j _ h.2 (λk hk=>?_) i eZ hf;rcases List.mem_append.1 hk with hk|hk
    ·exact ha k hk
    ·cases ho:l[j]? with
     |none=>rw[ho]at hk;simp at hk
     |some o=>rw[ho]at hk;exact km j o ho hj k (by simpa using hk)
   ·rw[show i=j from by omega];exact hj
def wo (l:List Oper) (m e:Nat):List Nat:=(List.range' m (e+1)).flatMap λj=>(l[j]?.map dg).getD []
def mz (l:List Oper) (m:Nat) (fl:List Nat) (e:Nat):Bool:=
 (Nat.ble (l.length-m) e||k5 l m (wo l m e))&&
 kJ l (m+1)&&nr l fl m ((l[m]?.map dg).getD [])&&
 ((List.range' m (l.length-m)).all λj=>match l[j]? with
  |some o=>tc o.op&&(asks l o).all λt=>(List.range m).all λi=>match l[i]? with
   |some o'=> !(o'.dst==some t)||(dg o).contains i
   |none=>true
  |none=>true)&&
 ((List.range m).all λj=> !fl.contains j||match l[j]? with
  |some o=>(asks l o).all λt=>(List.range l.length).all λi=>match l[i]? with
   |some o'=> !(o'.dst==some t)||(dg o).contains i||(Nat.ble m i&&(dg o').contains j)
   |none=>true
  |none=>true)
theorem Dm {l:List Oper} {m:Nat} {fl:List Nat} {e:Nat} (h:mz l m fl e=true):
  (l.length-m<=e\/k5 l m (wo l m e)=true)/\
  kJ l (m+1)=true/\nr l fl m ((l[m]?.map dg).getD [])=true/\
  (∀j o,m<=j->l[j]? =some o->tc o.op=true/\∀t∈asks l o,∀i o',i<m->l[i]? =some o'→o'.dst=some t->i∈dg o)/\
  (∀j o,j<m->j∈fl->l[j]? =some o->∀t∈asks l o,∀i o',l[i]? =some o'→o'.dst=some t->i∈dg o\/m<=i/\j∈dg o'):=by
 simp only[mz,Bool.and_eq_true]at h;obtain⟨⟨⟨⟨h0,h1⟩,h2⟩,h3⟩,h4⟩:=h;rw[Bool.or_eq_true,Nat.ble_eq]at h0;refine⟨h0,h1,h2,λj o hj ho=>?_,λj o hj hf ho t ht i o' iM hd=>?_⟩
 ·have eZ:=(List.getElem?_eq_some_iff.1 ho).1;have:=List.all_eq_true.1 h3 j (List.mem_range'_1.2 ⟨hj,by omega⟩);rw[ho]at this;simp only[Bool.and_eq_true]at this;refine ⟨this.1,λt ht i o' hi iM hd=> ?_⟩;have h5:=List.all_eq_true.1 (List.all_eq_true.1 this.2 t ht) i (List.mem_range.2 hi);rw[iM]at h5;simpa[hd]using h5
 ·have eZ:=(List.getElem?_eq_some_iff.1 iM).1;have:=List.all_eq_true.1 h4 j (List.mem_range.2 hj);rw[ho]at this;simp only[Bool.or_eq_true,Bool.not_eq_true',List.contains_eq_mem,decide_eq_false_iff_not]at this;have h5:=List.all_eq_true.1 (List.all_eq_true.1 (this.resolve_left (λh=>h hf)) t ht) i (List.mem_range.2 eZ);rw[iM]at h5;simp only[hd,beq_self_eq_true,Bool.not_true,Bool.false_or,Bool.or_eq_true,Bool.and_eq_true,Nat.ble_eq,decide_eq_true_eq,List.contains_iff_mem]at h5;rcases h5 with h|h
  ·exact .inl h
  ·exact .inr h
structure GJ (P:Program) (r:Option Nat) (n:Nat) (l:List Oper) (m:Nat) (fl:List Nat) (c:Nat) (N:aM) (K:Kt) (ds:List Deferred) (a0 am:Act) (wd:World) (D:Nat->Prop) (a:Act) (w:World) (p:Nat) (ac:Act) (Lp:Sl):Prop where
 p0:m<=p
 p1:p<=l.length
 dt:∀i,m<=i->i<l.length->(D i↔i<p)
 df:m<p->∀i,i<m->i∉fl->D i
 ag:iU n ac Lp ds
 tr:ua P r n l.toArray N wd K (c+m-p) (l.drop p) Lp ds w
 bU:p<=m+c->fG N wd w
 da:m+c<p->∀i,i<m->D i
 wm:p=m->w=wd
 defers:a.defers=ds
 size:a.tmps.size=a0.tmps.size
 sizec:ac.tmps.size=a0.tmps.size
 done:∀t,(∀i o,i<m->l[i]? =some o->o.dst=some t->D i)->a.tmps[t]? =ac.tmps[t]?
 pend:∀i o t,i<m->l[i]? =some o->o.dst=some t->¬D i->a.tmps[t]? =a0.tmps[t]?
 cm:∀t,(∀i o,m<=i->i<p->l[i]? =some o->o.dst≠some t)->ac.tmps[t]? =am.tmps[t]?
theorem EW {ops:Array Oper} {Qc Q:Exit->Act->World->Prop} {i:Nat} {rest:List Nat} {o:Oper} {a ac:Act} (ho:ops[i]? =some o) (hq:tc o.op=true) (Nq:∀x∈o.op.operands,a.eval x=ac.eval x) (tX:Region.wanted o (yielded ops a.tmps)=Region.wanted o (yielded ops ac.tmps)) (hdf:a.defers=ac.defers)
  (h:wpListIn (FW r) 0 P ops Qc [o] ac w) (jt:∀e a w,Qc e a w->e= .normal) (hk:∀v w',Qc .normal (ac.put o.dst v) w'→wpOpsIn (FW r) 0 P ops Q rest (a.put o.dst v) w') (hdd:∀d w',¬Qc .normal ({ac with defers:=d::ac.defers}.put o.dst undef) w'):wpOpsIn (FW r) 0 P ops Q (i::rest) a w:=by
 simp only[wpOpsIn,ho];simp only[wpListIn]at h;rw[tX];have mY:∀c,o.op≠ .defer c:=λc hc=>by rw[hc]at hq;cases hq
 split
 ·rename_i hw
  rw[if_pos hw]at h;obtain⟨_,h2⟩:=h;refine ⟨λ_ _=>trivial,?_⟩;rw[Oper.semAt_eq _ _ _ mY]at h2 ⊢;rw[Tv hq Nq];generalize (execOp ac.eval o).run P w=res at h2 ⊢
  cases res with
  |ok nx w'=>
   cases nx with
   |value v=>exact hk _ _ h2
   |skip=>exact hk _ _ h2
   |defer d=>exact absurd h2 (hdd d w')
   |enter f args=>exact⟨h2.1,h2.2.mono λe zd he=>by
     cases e with
     |returned v=>exact hk _ _ he
     |panicked c=>exact absurd (jt _ _ _ he) (by simp)
     |outgrown=>obtain⟨a,w,h⟩:=he;exact absurd (jt _ _ _ h) (by simp)⟩
   |row row args=>exact⟨h2.1,h2.2.mono λ_ _ he=>hk _ _ he⟩
   |round l f tmps sU body=>exact⟨h2.1,h2.2.mono λe zd he=>by
     cases e with
     |returned v=>exact hk _ _ he
     |panicked c=>exact absurd (jt _ _ _ he) (by simp)
     |outgrown=>obtain⟨a,w,h⟩:=he;exact absurd (jt _ _ _ h) (by simp)⟩
   |_=>exact h2.elim
  |halt x w'=>
   cases x with
   |panic v=>exact absurd (jt _ _ _ h2) (by simp)
   |_=>exact h2.elim
 ·rename_i hw
  rw[if_neg hw]at h;exact⟨λ_ _=>trivial,hk _ _ h.2⟩
theorem GJ.next {l:List Oper} {m:Nat} {fl:List Nat} {c:Nat} {N:aM} {a0 am:Act} {gS:List Value} {wd:World} (dP:fq l 0=true) (rK:k7 l m=true) (yH:mz l m fl c=true) (we:m<l.length) (lG:∀i,i<m->∃v,gS[i]? =some v)
  {st:Nat->Act} (jT:∀j o,j<m->l[j]? =some o->∃v,gS[j]? =some v/\One P r l.toArray wd o (st j) v) (Dl:∀j,j<m->QJ l m a0 gS wd (λi=>i<j) (st j) wd) (JX:QJ l m a0 gS wd (λi=>i<m) am wd)
  {Lm:Sl} (hLm:iU n am Lm ds) (hF:∀j o,j∈fl->l[j]? =some o->cP P N wd Lm o)
  {Q:Exit->Act->World->Prop} {D:Nat->Prop} {a:Act} {w:World} {j:Nat} {o:Oper} {rest:List Nat} (ho:l[j]? =some o) (nW: ¬D j) (hp:∀k∈dg o,D k) (km:∀i o,l[i]? =some o->D i->∀k∈dg o,D k) (hi:∃p ac Lp,GJ P r n l m fl c N K ds a0 am wd D a w p ac Lp)
  (hk:∀a' w',(∃p ac Lp,GJ P r n l m fl c N K ds a0 am wd (λi=>i=j\/D i) a' w' p ac Lp)->wpOpsIn (FW r) 0 P l.toArray Q rest a' w'):wpOpsIn (FW r) 0 P l.toArray Q (j::rest) a w:=by
 obtain⟨p,ac,Lp,hi⟩:=hi;obtain⟨acg,BC,Od,rW,EC⟩:=Dm yH;have oX:=(List.getElem?_eq_some_iff.1 ho).1;rcases Nat.lt_or_ge j m with hj|hj
 ·obtain⟨v,hv,h1⟩:=jT j o hj ho;obtain⟨hq,Lj⟩:=lj rK hj ho;have hmf:m<p->j∈fl:=λh=>Classical.byContradiction λhf=>nW (hi.df h j hj hf)
  have Ey:∀t∈asks l o,a.tmps[t]? =(st j).tmps[t]? :=λt ht=>by
   by_cases hx:∃i o',i<m/\l[i]? =some o'∧o'.dst=some t
   ·obtain⟨i,o',pV,iM,hd⟩:=hx;obtain⟨v',rV⟩:=lG i pV;rcases Lj t ht i o' pV iM hd with h|h|h
    ·have EA:=hp i h;have jr:=dM dP j o ho i h;rw[hi.done t (λk ok HH fa Lk=>by rw[fS dP fa iM Lk hd];exact EA),hi.cm t (λk ok qt Dh fa Lk=>by have:=fS dP fa iM Lk hd;omega),JX.done i o' v' t pV iM rV pV hd,(Dl j hj).done i o' v' t pV iM rV q0 hd]
    ·subst h;rw[hi.pend i o' t pV iM hd nW,(Dl i hj).base t (λk ok HH fa Lk EX=>by have:=fS dP fa iM EX hd;omega)]
    ·have jr:=dM dP i o' iM j h;rw[hi.pend i o' t pV iM hd (λEA=>nW (km i o' iM EA j h)),(Dl j hj).base t (λk ok HH fa Lk EX=>by have:=fS dP fa iM EX hd;omega)]
   ·have jt:∀k ok,k<m->l[k]? =some ok->ok.dst≠some t:=λk ok HH fa Lk=>hx ⟨k,ok,HH,fa,Lk⟩
    rw[hi.done t (λk ok HH fa Lk=>absurd Lk (jt k ok HH fa)),hi.cm t (λk ok qt Dh fa Lk=>by
     rcases EC j o hj (hmf q0) ho t ht k ok fa Lk with h|⟨_,h⟩
     ·have:=dM dP j o ho k h;omega
     ·exact nW (km k ok fa ((hi.dt k qt (List.getElem?_eq_some_iff.1 fa).1).2 Dh) j h)),JX.base t (λk ok HH fa _=>jt k ok HH fa),(Dl j hj).base t (λk ok HH fa _=>jt k ok HH fa)]
  obtain⟨Nq,tX⟩:=n0 Ey
  have h2:One P r l.toArray w o a v:=by
   rcases Nat.eq_or_lt_of_le hi.p0 with hpm|hpm
   ·have hww:=hi.wm hpm.symm;unfold One at h1 ⊢;rw[tX,mv hq Nq,hww];exact h1
   ·have hjf:=hmf hpm
    have ajd:∀t∈asks l o,am.tmps[t]? =(st j).tmps[t]? :=λt ht=>JX.agree dP lG (Dl j hj) λi o' pV iM hd=>by
     rcases EC j o hj hjf ho t ht i o' iM hd with h|⟨h,_⟩
     ·have:=dM dP j o ho i h;exact⟨λ_=>by omega,λ_=>pV⟩
     ·omega
    obtain⟨ach,_⟩:=n0 ajd;unfold One at h1 ⊢;rw[tX]
    split
    ·rename_i hw
     rw[if_pos hw]at h1;rw[<-mv hq ach]at h1;rw[mv hq Nq,<-mv hq ach];exact hF j o hjf ho am.eval (λx u hx=>hLm.eval hx) v w (hi.bU (Nat.le_of_not_lt λeZ=>nW (hi.da eZ j hj))) h1
    ·rename_i hw
     rw[if_neg hw]at h1;exact h1
  refine h2.run (by simpa using ho) hq (hk _ _ ⟨p,ac,Lp,hi.p0,hi.p1,λi h3 h4=>?_,λh i h3 h4=> .inr (hi.df h i h3 h4),hi.ag,hi.tr,hi.bU,λh i h3=> .inr (hi.da h i h3),hi.wm,by rw[put_defers];exact hi.defers,by rw[nY];exact hi.size,hi.sizec,λt ht=>?_,λi o' t pV iM hd hni=>?_,hi.cm⟩)
  ·rw[<-hi.dt i h3 h4];exact⟨λh=>h.resolve_left q0,.inr⟩
  ·rw[ib];by_cases e:o.dst=some t
   ·rw[if_pos e,hi.cm t (λk ok qt Dh fa Lk=>by have:=fS dP fa ho Lk e;omega),JX.done j o v t hj ho hv hj e];exact tZ hi.size
   ·rw[if_neg e];exact hi.done t λi o' pV iM hd=>(ht i o' pV iM hd).resolve_left (λh=>by subst h;rw[ho]at iM;cases iM;exact e hd)
  ·rw[ib,if_neg (λe=>hni (.inl (fS dP iM ho hd e)))];exact hi.pend i o' t pV iM hd (λh=>hni (.inr h))
 ·have hjp:j=p:=by
   have h1:p<=j:=by
    rcases Nat.lt_or_ge j p with h|h
    ·exact absurd ((hi.dt j hj oX).2 h) nW
    ·exact h
   rcases Nat.lt_or_ge m j with h|h
   ·have h2:=hp _ (mq BC (j:=j) q0 ho);have:=(hi.dt (j-1) q0 q0).1 h2;omega
   ·have:=hi.p0;omega
  subst hjp;obtain⟨hto,Oe⟩:=rW j o hj ho
  have gD:∀i,i<m->i∉fl->D i:=λi pV hif=>by
   rcases Nat.eq_or_lt_of_le hi.p0 with h|h
   ·rw[h,ho]at Od;exact nt (D:=D) km j (dg o) Od hp i q0 hif
   ·exact hi.df h i pV hif
  have Ey:∀t∈asks l o,a.tmps[t]? =ac.tmps[t]? :=λt ht=>hi.done t λi o' pV iM hd=>hp i (Oe t ht i o' pV iM hd)
  obtain⟨Nq,tX⟩:=n0 Ey
  have acj:m+c<j+1->∀i,i<m->D i:=λeZ i pV=>by
   rcases Nat.lt_or_ge (m+c) j with h|h
   ·exact hi.da h i pV
   ·have wu:j=m+c:=by omega
    rcases acg with h5|h5
    ·omega
    ·refine tb (D:=D) km m _ h5 (λk hk=>?_) i pV;simp only[wo,List.mem_flatMap,List.mem_range'_1]at hk;obtain⟨q,⟨XD,hq2⟩,VS⟩:=hk;rcases Nat.eq_or_lt_of_le (show q<=j by omega)with e|e
     ·rw[e,ho]at VS;exact hp k VS
     ·have hDq:=(hi.dt q XD q0).2 e
      cases hoq:l[q]? with
      |none=>rw[hoq]at VS;cases VS
      |some oq=>rw[hoq]at VS;exact km q oq hoq hDq k VS
  have Cc:=hi.tr;rw[List.drop_eq_getElem_cons oX,(List.getElem?_eq_some_iff.1 ho).2]at Cc;have h1:=Rg.run Cc ac hi.ag;refine EW (by simpa using ho) hto Nq tX (by rw[hi.defers,hi.ag.defers]) h1 (λe a w ⟨_,_,_,he,_⟩=>he) (λv w' ⟨L',p9,hA,_,Oc,Tu,XE⟩=>?_) (λd w' ⟨L',p9,hA,_,Oc,_⟩=>?_)
  ·rw[Oc]at hA;refine hk _ _ ⟨j+1,ac.put o.dst v,L',by omega,by omega,λi h3 h4=>?_,λ_ i h3 h4=> .inr (gD i h3 h4),hA,by rw[show c+m-(j+1)=c+m-j-1 from by omega];exact XE,λh=>Tu q0,λh i pV=> .inr (acj h i pV),λh=>by omega,by rw[put_defers];exact hi.defers,by rw[nY];exact hi.size,by rw[nY];exact hi.sizec,λt ht=>?_,λi o' t pV iM hd hni=>?_,λt ht=>?_⟩
   ·constructor
    ·rintro(h|h)
     ·omega
     ·have:=(hi.dt i h3 h4).1 h;omega
    ·intro h;rcases Nat.eq_or_lt_of_le (show i<=j by omega)with h5|h5
     ·exact .inl h5
     ·exact .inr ((hi.dt i h3 h4).2 h5)
   ·rw[ib,ib]
    split
    ·exact tZ (hi.size.trans hi.sizec.symm)
    ·exact hi.done t λi o' pV iM hd=>(ht i o' pV iM hd).resolve_left q0
   ·rw[ib,if_neg (λe=>by have:=fS dP iM ho hd e;omega)];exact hi.pend i o' t pV iM hd (λh=>hni (.inr h))
   ·rw[ib,if_neg (ht j o hj q0 ho)];exact hi.cm t λi o' h3 h4 h5=>ht i o' h3 q0 h5
  ·have h3:=hA.defers;rw[put_defers,Oc]at h3;have h4:=congrArg List.length h3;rw[hi.ag.defers]at h4;simp at h4
theorem T.n4 {id:Nat} {l:List Oper} (m:Nat) (fl:List Nat) (c:Nat) (N:aM) (hm:P.follows .mixedOrders=true) (we:Nat.blt m l.length=true) (dP:fq l 0=true) (rK:k7 l m=true) (yH:mz l m fl c=true)
  (h:∀wD,(∀M,Step M w M wD aC)->lO P r n l.toArray (l.take m) L ds wD (λL'=>(∀j o,j∈fl->l[j]? =some o->cP P N wD L' o)/\ua P r n l.toArray N wD K c (l.drop m) L' ds wD)):T P r n (.region id l.toArray true) L ds w K:=by
 refine ⟨λa ha=>wpIn_region_draw λt=> ?_⟩;simp only[Region.schedule,hm,Bool.true_or,if_true,Region.linearise];have Ca:m<l.length:=by simpa[Nat.blt_eq]using we
 have hQ:=h _ (oZ w);have iW:∀j,j<m->(l.take m)[j]? =l[j]? :=λj hj=>by rw[List.getElem?_take,if_pos hj]
 obtain⟨am,Lm,vs,Cc,hA,hF,hT⟩:=hQ.trace (λo ho=>by
  obtain⟨j,hj⟩:=List.mem_iff_getElem?.1 ho
  have Hu:j<m:=by
   have:=(List.getElem?_eq_some_iff.1 hj).1;rw[List.length_take]at this;omega
  exact(lj rK Hu (by rw[<-iW j Hu];exact hj)).1) ha
 obtain⟨st,h0,hl,jT⟩:=Cc.Dk;have hlen:(l.take m).length=m:=by rw[List.length_take];omega
 rw[hlen]at hl;have yt:∀j o,j<m->l[j]? =some o->∃v,vs[j]? =some v/\One P r l.toArray _ o (st j) v/\st (j+1)=(st j).put o.dst v:=λj o hj ho=>jT j o (by rw[iW j hj];exact ho)
 have lG:∀i,i<m->∃v,vs[i]? =some v:=λi hi=>by
  obtain⟨v,hv,_⟩:=yt i l[i] hi (List.getElem?_eq_getElem q0);exact⟨v,hv⟩
 have Dl:=nZ dP h0 yt;have JX:=Dl m (Nat.le_refl _) q0;rw[hl]at JX
 refine mu (J:=λD a' w'=>∃p ac Lp,GJ P r n l m fl c N K ds a am {w with drawn:=w.drawn+1} D a' w' p ac Lp) dP (λ{D D' a' w'} ⟨p,ac,Lp,hi⟩ hD=>⟨p,ac,Lp,hi.p0,hi.p1,λi h3 h4=>(hD i h4).trans (hi.dt i h3 h4),λh i h3 h4=>(hD i q0).2 (hi.df h i h3 h4),hi.ag,hi.tr,hi.bU,λh i h3=>(hD i q0).2 (hi.da h i h3),hi.wm,hi.defers,hi.size,hi.sizec,λt ht=>hi.done t λi o h3 h4 h5=>(hD i q0).1 (ht i o h3 h4 h5),λi o t h3 h4 h5 h6=>hi.pend i o t h3 h4 h5 (λh=>h6 ((hD i q0).2 h)),hi.cm⟩)
  (λ{D a' w' j o rest} hj ho nW hp km hi hk=>GJ.next dP rK yH Ca lG (λj o hj ho=>by obtain⟨v,h1,h2,_⟩:=yt j o hj ho;exact⟨v,h1,h2⟩) (λj hj=>Dl j q0 q0) JX hA hF ho nW hp km hi hk) (λa' w' hJ=>?_) _ t _ a _ (by simp) a96 (λi o h1 h2=>?_) ⟨m,am,Lm,Nat.le_refl _,by omega,λi h3 h4=>?_,λh=>by omega,hA,by rw[Nat.add_sub_cancel];exact hT,λ_=>fG.refl _ _,λh=>by omega,λ_=>rfl,ha.defers,rfl,JX.size,λt ht=>?_,λi o t _ _ _ _=>rfl,λt _=>rfl⟩
 ·obtain⟨p,ac,Lp,hi⟩:=hJ
  have yI:p=l.length:=by
   rcases Nat.lt_or_ge p l.length with h3|h3
   ·have:=(hi.dt p hi.p0 h3).1 h3;omega
   ·have:=hi.p1;omega
  have Cc:=hi.tr;rw[yI,List.drop_eq_nil_of_le (Nat.le_refl _)]at Cc;refine⟨Lp,ds,⟨?_,hi.defers,λt v ht=>?_⟩,Cc⟩
  ·rw[hi.size];exact ha.size
  ·rw[hi.done t λi o h3 h4 _=>by omega];exact hi.ag.at_ t v ht
 ·simp[Array.getElem?_replicate]at h2
 ·simp[Array.getElem?_replicate];omega
 ·rw[JX.base t λi o h3 h4 _ h5=>?_];have:=ht i o h3 h4 h5;simp[Array.getElem?_replicate]at this
def iC (P:Program) (N:aM) (wd:World) (L:Sl) (l:List Oper):List Nat->Prop
 |[]=>True
 |j::js=>(match l[j]? with|some o=>cP P N wd L o|none=>True)/\iC P N wd L l js
theorem iC.all {N:aM} {wd:World} {l:List Oper}:∀{fl:List Nat},iC P N wd L l fl->∀j o,j∈fl->l[j]? =some o->cP P N wd L o
 |[],_,j,o,hj,_=>absurd hj (List.not_mem_nil)
 |k::fl,h,j,o,hj,ho=>by
  rcases List.mem_cons.1 hj with e|hj
  ·have h1:=h.1;rw[<-e,ho]at h1;exact h1
  ·exact iC.all h.2 j o hj ho
variable {N:aM} {wd:World} {dst:Option Nat} {ty:TypeId} {pos:String} {af:Array Edge} {gd:Option (Nat×Bool)} {x y i:Operand}
theorem cP.move:cP P N wd L {dst,op:= .move x,type:=ty,pos,after:=af,guard:=gd}:=λρ _ v w' _ h=>by
 have h:Result.ok (Next.value (ρ x)) wd= .ok (.value v) wd:=h
 cases h;rfl
def Loc {α:Type} (s:Sem α):Prop:=∀(P:Program) (w1:World) (a:α) (w':World),s.run P w1= .ok a w'→w'=w1/\∀w2,s.run P w2= .ok a w2
theorem Loc.pure {α:Type} (a:α):Loc (Pure.pure a:Sem α):=λP w1 b w' hr=>by
 simp only[Sem.run_pure,Result.ok.injEq]at hr;exact⟨hr.2.symm,λw2=>by rw[<-hr.1];rfl⟩
theorem cP.free {o:Oper} (h:∀ρ:Operand->Value,(∀x u,ev L x=some u->ρ x=u)->Loc (execOp ρ o)):cP P N wd L o:=λρ hρ v w' _ hr=>(h ρ hρ P wd _ _ hr).2 w'
theorem cP.nilCheck {a:Addr} (hx:ev L x=some (.pointer (some a))):cP P N wd L {dst,op:= .nilCheck x,type:=ty,pos,after:=af,guard:=gd}:= .free λρ hρ=>by
 simp only[execOp,hρ x _ hx];exact .pure _
theorem mA {w w':World} {b:Nat} (hb:∃cs e fr,w.heap[b]? =some (.cells cs e fr)) (hs:w'.heap[b]? =w.heap[b]?):∀(n o i:Nat) (acc a:Array Value) (w1:World),(loadCellsFrom ⟨b,o,none⟩ i n acc).run P w= .ok a w1->w1=w/\(loadCellsFrom ⟨b,o,none⟩ i n acc).run P w'= .ok a w'
 |0,o,i,acc,a,w1,h=>by
  simp only[loadCellsFrom,Sem.run_pure,Result.ok.injEq]at h ⊢;exact⟨h.2.symm,h.1,trivial⟩
 |n+1,o,i,acc,a,w1,h=>by
  obtain⟨cs,e,fr,hc⟩:=hb;simp only[loadCellsFrom,Sem.run_bind]at h ⊢;have oc:∀k,w'.cell? ⟨b,k,none⟩=w.cell? ⟨b,k,none⟩:=λk=>by simp only[World.cell?,hs]
  have XF:(⟨b,o,none⟩:Addr).add i=⟨b,o+i,none⟩:=by simp[Addr.add]
  rw[XF]at h ⊢;simp only[load,Sem.run]at h ⊢;rw[oc]
  cases hv:w.cell? ⟨b,o+i,none⟩with
  |some v=>
   rw[hv]at h;simp only[Result.andThen]at h ⊢;exact mA ⟨cs,e,fr,hc⟩ hs n o (i+1) (acc.push v) a w1 h
  |none=>
   rw[hv]at h;simp[World.farLoad,hc,Result.andThen]at h
theorem cP.load {t:TypeId} {b o:Nat} {cs:Array Value} {e:TypeId} {fr:Nat×Nat} (hx:ev L x=some (.pointer (some ⟨b,o,none⟩))) (hb:wd.heap[b]? =some (.cells cs e fr)) (hn: ¬N b):cP P N wd L {dst,op:= .load t x,type:=ty,pos,after:=af,guard:=gd}:=λρ hρ v w' hk hr=>by
 have hs:=hk.2 b (ae hb) hn;simp only[execOp,hρ x _ hx]at hr ⊢;rw[Sem.run_bind]at hr ⊢
 have key:∀v w1,(Instr.loadAt t (.pointer (some ⟨b,o,none⟩))).run P wd= .ok v w1->(Instr.loadAt t (.pointer (some ⟨b,o,none⟩))).run P w'= .ok v w':=λv w1 h=>by
  simp only[Instr.loadAt,Instr.sureAddr,Sem.run_bind,Sem.run_pure,Result.andThen_ok,loadVar]at h ⊢
  have Ey:∀w:World,(isAgg t).run P w=match P.underlying t with|some (.struct _)|some (.array _ _)=>Result.ok true w|some _=>Result.ok false w|none=>Result.halt (.stuck "no such type") w:=λw=>by
   simp only[isAgg,underlying,Sem.run_bind,program,Sem.run,Result.andThen]
   cases P.underlying t with
   |none=>simp[stuck,Sem.run]
   |some d=>cases d<;>simp
  rw[Ey]at h ⊢
  cases hu:P.underlying t with
  |none=>rw[hu]at h;simp[Result.andThen]at h
  |some d=>
   have lC:∀w:World,(sizeOf t).run P w=match P.info? t with|some i=>Result.ok i.size w|none=>Result.halt (.stuck "no such type") w:=λw=>by
    simp only[sizeOf,typeInfo,Sem.run_bind,program,Sem.run,Result.andThen]
    cases P.info? t<;>simp[stuck,Sem.run]
   have sN:∀v w1,(Go.load ⟨b,o,none⟩).run P wd= .ok v w1->(Go.load ⟨b,o,none⟩).run P w'= .ok v w':=λv w1 h=>by
    have oc:w'.cell? ⟨b,o,none⟩=wd.cell? ⟨b,o,none⟩:=by simp only[World.cell?,hs]
    simp only[Go.load,Sem.run]at h ⊢;rw[oc]
    cases hv:wd.cell? ⟨b,o,none⟩with
    |some u=>rw[hv]at h;simp only[Result.ok.injEq]at h ⊢;exact⟨h.1,trivial⟩
    |none=>rw[hv]at h;simp[World.farLoad,hb]at h
   have HC:∀v w1,(do Pure.pure (Value.agg (<-loadCells ⟨b,o,none⟩ (<-sizeOf t))):Sem Value).run P wd= .ok v w1->(do Pure.pure (Value.agg (<-loadCells ⟨b,o,none⟩ (<-sizeOf t))):Sem Value).run P w'= .ok v w':=λv w1 h=>by
    simp only[Sem.run_bind,lC]at h ⊢
    cases hi:P.info? t with
    |none=>rw[hi]at h;simp[Result.andThen]at h
    |some inf=>
     rw[hi]at h;simp only[Result.andThen]at h ⊢
     cases hl:(loadCells ⟨b,o,none⟩ inf.size).run P wd with
     |ok a w2=>
      rw[hl]at h;obtain⟨_,h2⟩:=mA ⟨cs,e,fr,hb⟩ hs _ _ _ _ _ _ hl;have h2:(loadCells ⟨b,o,none⟩ inf.size).run P w'= .ok a w':=h2;rw[h2];simp only[Sem.run_pure,Result.ok.injEq]at h ⊢;exact⟨h.1,trivial⟩
     |halt x w2=>rw[hl]at h;simp at h
   rw[hu]at h
   cases d<;>simp only[Result.andThen_ok,if_true,Bool.false_eq_true,if_false]at h ⊢ <;>first|exact sN v w1 h|exact HC v w1 h
 cases hl:(Instr.loadAt t (.pointer (some ⟨b,o,none⟩))).run P wd with
 |ok u w1=>
  rw[hl]at hr;rw[key u w1 hl];simp only[Result.andThen_ok,Sem.run_pure,Result.ok.injEq]at hr ⊢;exact⟨hr.1,trivial⟩
 |halt x w1=>rw[hl]at hr;simp[Result.andThen]at hr
theorem cO.float {α:Type} {A:RT α} {M:aM} {w:World} {v:Value} {x:α} (h:cO A M w v x) (hn:0<A.n:=by decide):∃b o cs e fr,v= .pointer (some ⟨b,o,none⟩)/\w.heap[b]? =some (.cells cs e fr)/\¬M b:=by
 obtain⟨b,o,vs,h1,h2,h3,h4⟩:=h;have hp:0<vs.length:=by rw[A.len h3];exact hn
 have hc:=h4 0 vs[0] (List.getElem?_eq_getElem hp);simp only[World.cell?]at hc
 cases hb:w.heap[b]? with
 |none=>rw[hb]at hc;cases hc
 |some ob=>
  rw[hb]at hc
  cases ob with
  |cells cs e fr=>exact⟨b,o,cs,e,fr,h1,hb,h2⟩
  |_=>cases hc
theorem cP.field {s:TypeId} {fs:Array Field} {fd:Field} {j:Nat} {zv:Value} {size bytes:Nat} (hs:P.underlying s=some (.struct fs)) (hj:fs[j]? =some fd) (hi:TI P fd.type zv size bytes) (h0:size≠0):cP P N wd L {dst,op:= .fieldAddr s x j,type:=ty,pos,after:=af,guard:=gd}:=λρ hρ v w' hk hr=>by
 simp only[execOp,Sem.run_bind]at hr ⊢
 have key:∀w,(Instr.fieldAt s (ρ x) j).run P w=match ρ x with| .pointer (some a)=>Result.ok (.pointer (some (a.add fd.offset))) w|_=>Result.halt (.stuck "an address expected (no nilCheck in front?)") w:=λw=>by
  generalize ρ x=u;unfold Instr.fieldAt;simp only[Sem.run_bind,run_underlying hs,Result.andThen_ok,hj];unfold Instr.sureAddr
  split
  ·simp only[Sem.run_pure,Result.andThen_ok,Sem.run_bind,fieldPlace,hi.sizeOf,h0,if_false]
  ·simp[stuck,Sem.run,Result.andThen]
 rw[key]at hr ⊢
 split at hr
 ·simp only[Result.andThen_ok,Sem.run_pure,Result.ok.injEq]at hr ⊢;exact⟨hr.1,trivial⟩
 ·simp[Result.andThen]at hr
end
section
variable {P:Program} {r:Option Nat} {n:Nat} {L:Sl} {ds:List Deferred} {w:World} {K:Kt}
def jH (P:Program) (r:Option Nat) (n:Nat) (l:List Oper) (L:Sl) (ds:List Deferred) (wD:World) (K:Kt):Prop:=
 ∀a,iU n a L ds->∃J:(Nat->Prop)->Act->World->Prop,
  (∀(D D':Nat->Prop) a w,J D a w->(∀i,i<l.length->(D' i↔D i))->J D' a w)/\
  (∀(Q:Exit->Act->World->Prop) (D:Nat->Prop) a w j o rest,j<l.length->l[j]? =some o->¬D j->(∀k∈dg o,D k)->(∀i o,l[i]? =some o->D i->∀k∈dg o,D k)->J D a w->(∀a' w',J (λi=>i=j\/D i) a' w'→wpOpsIn (FW r) 0 P l.toArray Q rest a' w')->wpOpsIn (FW r) 0 P l.toArray Q (j::rest) a w)/\
  (∀a w,J (λi=>i<l.length) a w->up n K .normal a w)/\J (λ_=>False) a wD
theorem jH.t {id:Nat} {l:List Oper} (hm:P.follows .mixedOrders=true) (dP:fq l 0=true) (h:∀wD,(∀M,Step M w M wD aC)->jH P r n l L ds wD K):T P r n (.region id l.toArray true) L ds w K:=by
 refine ⟨λa ha=>wpIn_region_draw λt=> ?_⟩;simp only[Region.schedule,hm,Bool.true_or,if_true,Region.linearise];obtain⟨J,h1,h2,h3,h4⟩:=h _ (oZ w) a ha;refine mu (J:=J) dP (λ{D D' a w} hi hD=>h1 D D' a w hi hD) (λ{D a' w' j o rest} hj ho nW hp km hi hk=>h2 _ _ _ _ _ _ _ hj ho nW hp km hi hk) h3 _ t _ a _ (by simp) a96 (λi o h1 h2=>?_) (h1 _ _ _ _ h4 λi _=>?_)
 ·simp[Array.getElem?_replicate]at h2
 ·simp[Array.getElem?_replicate]
theorem EY {l:List Oper} {wd:World} (m:Nat) (fl:List Nat) (c:Nat) (N:aM) (we:Nat.blt m l.length=true) (dP:fq l 0=true) (rK:k7 l m=true) (yH:mz l m fl c=true)
  (h:lO P r n l.toArray (l.take m) L ds wd (λL'=>(∀j o,j∈fl->l[j]? =some o->cP P N wd L' o)/\ua P r n l.toArray N wd K c (l.drop m) L' ds wd)):jH P r n l L ds wd K:=by
 intro a ha;have Ca:m<l.length:=by simpa[Nat.blt_eq]using we
 have iW:∀j,j<m->(l.take m)[j]? =l[j]? :=λj hj=>by rw[List.getElem?_take,if_pos hj]
 obtain⟨am,Lm,vs,Cc,hA,hF,hT⟩:=h.trace (λo ho=>by
  obtain⟨j,hj⟩:=List.mem_iff_getElem?.1 ho
  have Hu:j<m:=by
   have:=(List.getElem?_eq_some_iff.1 hj).1;rw[List.length_take]at this;omega
  exact(lj rK Hu (by rw[<-iW j Hu];exact hj)).1) ha
 obtain⟨st,h0,hl,jT⟩:=Cc.Dk;have hlen:(l.take m).length=m:=by rw[List.length_take];omega
 rw[hlen]at hl;have yt:∀j o,j<m->l[j]? =some o->∃v,vs[j]? =some v/\One P r l.toArray wd o (st j) v/\st (j+1)=(st j).put o.dst v:=λj o hj ho=>jT j o (by rw[iW j hj];exact ho)
 have lG:∀i,i<m->∃v,vs[i]? =some v:=λi hi=>by
  obtain⟨v,hv,_⟩:=yt i l[i] hi (List.getElem?_eq_getElem q0);exact⟨v,hv⟩
 have Dl:=nZ dP h0 yt;have JX:=Dl m (Nat.le_refl _) q0;rw[hl]at JX
 refine⟨λD a' w'=>∃p ac Lp,GJ P r n l m fl c N K ds a am wd D a' w' p ac Lp,λD D' a' w' ⟨p,ac,Lp,hi⟩ hD=>⟨p,ac,Lp,hi.p0,hi.p1,λi h3 h4=>(hD i h4).trans (hi.dt i h3 h4),λh i h3 h4=>(hD i q0).2 (hi.df h i h3 h4),hi.ag,hi.tr,hi.bU,λh i h3=>(hD i q0).2 (hi.da h i h3),hi.wm,hi.defers,hi.size,hi.sizec,λt ht=>hi.done t λi o h3 h4 h5=>(hD i q0).1 (ht i o h3 h4 h5),λi o t h3 h4 h5 h6=>hi.pend i o t h3 h4 h5 (λh=>h6 ((hD i q0).2 h)),hi.cm⟩,
  λQ D a' w' j o rest hj ho nW hp km hi hk=>GJ.next dP rK yH Ca lG (λj o hj ho=>by obtain⟨v,h1,h2,_⟩:=yt j o hj ho;exact⟨v,h1,h2⟩) (λj hj=>Dl j q0 q0) JX hA hF ho nW hp km hi hk,λa' w' hJ=>?_,⟨m,am,Lm,Nat.le_refl _,by omega,λi h3 h4=>?_,λh=>by omega,hA,by rw[Nat.add_sub_cancel];exact hT,λ_=>fG.refl _ _,λh=>by omega,λ_=>rfl,ha.defers,rfl,JX.size,λt ht=>?_,λi o t _ _ _ _=>rfl,λt _=>rfl⟩⟩
 ·obtain⟨p,ac,Lp,hi⟩:=hJ
  have yI:p=l.length:=by
   rcases Nat.lt_or_ge p l.length with h3|h3
   ·have:=(hi.dt p hi.p0 h3).1 h3;omega
   ·have:=hi.p1;omega
  have Cc:=hi.tr;rw[yI,List.drop_eq_nil_of_le (Nat.le_refl _)]at Cc;refine⟨Lp,ds,⟨?_,hi.defers,λt v ht=>?_⟩,Cc⟩
  ·rw[hi.size];exact ha.size
  ·rw[hi.done t λi o h3 h4 _=>by omega];exact hi.ag.at_ t v ht
 ·exact⟨False.elim,λh=>by omega⟩
 ·rw[JX.base t λi o h3 h4 _ h5=>(ht i o h3 h4 h5)]
def wx (π:List Nat) (o:Oper):Oper:=⟨o.dst,o.op,o.type,o.pos,o.after.map λe=>{e with on:=π.idxOf e.on},o.guard.map λg=>(π.idxOf g.1,g.2)⟩
def Cd (π:List Nat) (l:List Oper):List Oper:=π.map λi=>wx π (l.getD i default)
def mB (π:List Nat) (k:Nat):Bool:=π.length==k&&π.all (Nat.blt · k)&&(List.range k).all (π.contains ·)&&(List.range k).all λi=>π.idxOf (π.getD i 0)==i
theorem o2 {π:List Nat} {k:Nat} (h:mB π k=true):π.length=k/\(∀(i j:Nat),π[i]? =some j->j<k)/\(∀j,j<k->π[π.idxOf j]? =some j)/\(∀(i j:Nat),π[i]? =some j->π.idxOf j=i)/\(∀j,k<=j->π.idxOf j=k):=by
 simp only[mB,Bool.and_eq_true,beq_iff_eq,List.all_eq_true,Nat.blt_eq,List.mem_range,List.contains_iff_mem]at h;obtain⟨⟨⟨h1,h2⟩,h3⟩,h4⟩:=h;refine⟨h1,λi j jr=>h2 j (List.mem_of_getElem? jr),λj hj=>?_,λi j jr=>?_,λj hj=>?_⟩
 ·have eZ:=List.idxOf_lt_length_of_mem (h3 j hj);rw[List.getElem?_eq_getElem eZ,List.getElem_idxOf eZ]
 ·have hi:i<k:=by have:=(List.getElem?_eq_some_iff.1 jr).1;omega
  have:=h4 i hi
  rwa [List.getD_eq_getElem?_getD,jr,Option.getD_some]at this
 ·rw[List.idxOf_eq_length (λhm=>by have:=h2 j hm;omega),h1]
theorem Dn {π:List Nat} {l:List Oper} (hπ:mB π l.length=true) {j:Nat} {o:Oper} (ho:l[j]? =some o):(Cd π l)[π.idxOf j]? =some (wx π o):=by
 obtain⟨_,_,h3,_⟩:=o2 hπ;have hj:=(List.getElem?_eq_some_iff.1 ho).1;simp only[Cd,List.getElem?_map,h3 j hj,Option.map_some,List.getD_eq_getElem?_getD,ho,Option.getD_some]
theorem Tx {π:List Nat} {l:List Oper} (hπ:mB π l.length=true) {i:Nat} {o':Oper} (ho:(Cd π l)[i]? =some o'):∃j o,π[i]? =some j/\l[j]? =some o/\o'=wx π o:=by
 obtain⟨_,h2,_⟩:=o2 hπ;simp only[Cd,List.getElem?_map,Option.map_eq_some_iff]at ho;obtain⟨j,hj,rfl⟩:=ho;refine⟨j,_,hj,List.getElem?_eq_getElem (h2 i j hj),?_⟩;rw[List.getD_eq_getElem?_getD,List.getElem?_eq_getElem (h2 i j hj),Option.getD_some]
theorem zi (π:List Nat) (o:Oper):dg (wx π o)=(dg o).map π.idxOf:=by
 simp only[dg,wx,Array.toList_map,List.filter_map,List.map_map];rfl
theorem EZ {π:List Nat} {l:List Oper} (hπ:mB π l.length=true) (tmps:Array Value) (j:Nat):yielded (Cd π l).toArray tmps (π.idxOf j)=yielded l.toArray tmps j:=by
 unfold yielded
 have:((Cd π l).toArray[π.idxOf j]?).bind (·.dst)=(l.toArray[j]?).bind (·.dst):=by
  simp only[List.getElem?_toArray]
  cases ho:l[j]? with
  |some o=>rw[Dn hπ ho];rfl
  |none=>
   have hj:l.length<=j:=List.getElem?_eq_none_iff.1 ho;obtain⟨h1,_,_,_,h5⟩:=o2 hπ;rw[h5 j hj,List.getElem?_eq_none (by simp[Cd,h1])]
 rw[this]
theorem HI {π:List Nat} {l:List Oper} (hπ:mB π l.length=true) (tmps:Array Value) (o:Oper):Region.wanted (wx π o) (yielded (Cd π l).toArray tmps)=Region.wanted o (yielded l.toArray tmps):=by
 unfold Region.wanted wx
 cases o.guard with
 |none=>rfl
 |some g=>simp only[Option.map_some,EZ hπ]
theorem Ty {π:List Nat} {l:List Oper} (hπ:mB π l.length=true) {Q:Exit->Act->World->Prop} {j:Nat} {o:Oper} {rest:List Nat} {a:Act} (ho:l[j]? =some o)
  (h:wpOpsIn (FW r) 0 P (Cd π l).toArray (λe a w=>match e with| .normal=>wpOpsIn (FW r) 0 P l.toArray Q rest a w|e=>Q e a w) [π.idxOf j] a w):wpOpsIn (FW r) 0 P l.toArray Q (j::rest) a w:=by
 simp only[wpOpsIn,List.getElem?_toArray,ho,Dn hπ ho,HI hπ]at h ⊢
 split at h
 ·rename_i hw
  rw[if_pos hw];refine ⟨h.1,?_⟩;have h2:=h.2;rw[show Oper.semAt (FW r).round a.eval (wx π o)=Oper.semAt (FW r).round a.eval o from rfl]at h2;generalize (Oper.semAt (FW r).round a.eval o).run P w=res at h2 ⊢
  cases res with
  |ok nx w'=>
   cases nx with
   |enter f args=>exact⟨h2.1,h2.2.mono λe zd he=>by cases e<;>exact he⟩
   |round l f tmps sU body=>exact⟨h2.1,h2.2.mono λe zd he=>by cases e<;>exact he⟩
   |_=>exact h2
  |halt x w'=>cases x<;>exact h2
 ·rename_i hw
  rw[if_neg hw];exact⟨h.1,h.2⟩
theorem jH.perm {l:List Oper} {wd:World} (π:List Nat) (hπ:mB π l.length=true) (dP:fq l 0=true) (h:jH P r n (Cd π l) L ds wd K):jH P r n l L ds wd K:=by
 intro a ha;obtain⟨J,h1,h2,h3,h4⟩:=h a ha;obtain⟨p1,p2,p3,p4,_⟩:=o2 hπ;have hlen:(Cd π l).length=l.length:=by simp[Cd,p1]
 refine⟨λD a w=>J (λi=>∃j,π[i]? =some j/\D j) a w,λD D' a w hJ hD=>h1 _ _ _ _ hJ λi _=>⟨fun⟨j,hj,h⟩=>⟨j,hj,(hD j (p2 i j hj)).1 h⟩,fun⟨j,hj,h⟩=>⟨j,hj,(hD j (p2 i j hj)).2 h⟩⟩,λQ D a w j o rest hj ho nW hp km hJ hk=>?_,λa w hJ=>h3 _ _ (h1 _ _ _ _ hJ λi hi=>?_),h1 _ _ _ _ h4 λi _=>⟨fun⟨j,_,h⟩=>h,False.elim⟩⟩
 ·refine Ty hπ ho (h2 _ _ _ _ _ _ _ (by rw[hlen,<-p1];exact(List.getElem?_eq_some_iff.1 (p3 j hj)).1) (Dn hπ ho) ?_ ?_ ?_ hJ λa' w' hJ'=>hk _ _ (h1 _ _ _ _ hJ' λi hi=>?_))
  ·rintro⟨k,qt,Dh⟩;rw[p3 j hj]at qt
   cases qt;exact nW Dh
  ·intro k' qa;rw[zi,List.mem_map]at qa;obtain⟨k,qt,rfl⟩:=qa;have:=dM dP j o ho k qt;exact⟨k,p3 k q0,hp k qt⟩
  ·rintro i o' iM ⟨k,qt,Dh⟩ k' qa;obtain⟨k2,ok,h5,h6,rfl⟩:=Tx hπ iM;rw[h5]at qt;cases qt;rw[zi,List.mem_map]at qa;obtain⟨q,XD,rfl⟩:=qa;have:=dM dP k ok h6 q XD;have:=p2 i k h5;exact⟨q,p3 q q0,km k ok h6 Dh q XD⟩
  ·constructor
   ·rintro⟨k,qt,h|h⟩
    ·subst h;exact .inl (p4 i k qt).symm
    ·exact .inr ⟨k,qt,h⟩
   ·rintro(h|⟨k,qt,h⟩)
    ·subst h;exact⟨j,p3 j hj,.inl G⟩
    ·exact⟨k,qt,.inr h⟩
 ·rw[hlen]at hi;have hp:π[i]? =some (π[i]' q0):=List.getElem?_eq_getElem _;exact⟨λ_=>⟨_,hp,p2 i _ hp⟩,λ_=>by omega⟩
theorem T.VT {id:Nat} {l l':List Oper} (π:List Nat) (m:Nat) (fl:List Nat) (c:Nat) (N:aM) (hm:P.follows .mixedOrders=true) (Of:Cd π l=l') (xI:fq l 0=true) (hπ:mB π l.length=true) (we:Nat.blt m l'.length=true) (dP:fq l' 0=true) (rK:k7 l' m=true) (yH:mz l' m fl c=true)
  (h:∀wD,(∀M,Step M w M wD aC)->lO P r n l'.toArray (l'.take m) L ds wD (λL'=>(∀j o,j∈fl->l'[j]? =some o->cP P N wD L' o)/\ua P r n l'.toArray N wD K c (l'.drop m) L' ds wD)):T P r n (.region id l.toArray true) L ds w K:=by
 subst Of;exact jH.t hm xI λwD hD=> .perm π hπ xI (EY m fl c N we dP rK yH (h wD hD))
end
def zj (P:Program) (l:Nat) (args:Array Value) (w:World) (Q:Value->World->Prop):Prop:=YieldAt (FW none) 0 P l args w (λe w'=>∃v,e= .returned v/\Q v w')
section
variable {P:Program} {r:Option Nat} {n:Nat} {L:Sl} {ds:List Deferred} {w:World} {K:Kt} {ops:Array Oper} {rest:List Oper} {d:Nat} {ty:TypeId} {pos:String} {af:Array Edge}
theorem Rg.yield {x:Operand} {l:Nat} {xs:List Operand} {vs:List Value} {K5:Array TypeId} {Q:Value->World->Prop} (hx:ev L x=some (.func (.yield l) #[] #[]))
  (lN:Ti L xs=some vs) (hd:Nat.blt d n=true) (hs:zj P l vs.toArray w Q) (k:∀v w',Q v w'→Rg P r n ops rest ((d,v)::L) ds w' K):
  Rg P r n ops ({dst:=some d,op:= .call {callee:= .value x,args:=xs.toArray,argTypes:=K5},type:=ty,pos,after:=af,guard:=none}::rest) L ds w K:=by
 refine ⟨λa ha=>wpListIn_plain G λK' NO=>EJ a05 ?_⟩;obtain⟨fn,tmps,sU,body,hy,hr⟩:=hs
 have iz:(execOp a.eval {dst:=some d,op:= .call {callee:= .value x,args:=xs.toArray,argTypes:=K5},type:=ty,pos,after:=af,guard:=none}).run P w= .ok (.round l fn tmps sU body) w:=by
  have h1:=rq (ρ:=a.eval) (λx u hx=>ha.eval hx) lN;simp only[execOp,resolve,List.map_toArray,h1,ha.eval hx];simpa[Deferred.ofValue,invoke]using hy
 rw[iz,Oper.uponIn_round];refine ⟨λh=>by simp[FW,Fence.wide]at h,?_⟩;have hr':RoundIn (FW r) (0-1) P l fn tmps sU body w (λe w'=>∃v,e= .returned v/\Q v w'):=hr;refine hr'.mono ?_;rintro e w' ⟨v,rfl,hv⟩;exact NO _ _ ((k v w' hv).run _ (ha.put (by simpa[Nat.blt_eq]using hd) v))
end
def td (fn:FuncId) (tm:Array Value) (ps:Array Tmp) (sU body:Code) (D:Nat) (st:LoopState) (pe:Option Code):Loop:={state:=st,pending:=pe,fn:=fn,tmps:=tm,params:=ps,assign:=sU,body:=body,defers:=D}
structure Tm (n:Nat) (tm:Array Value) (L:Sl):Prop where
 size:n<=tm.size
 at_:∀t v,lk L t=some v->tm[t]? =some v
def Ll:List Tmp->List Value->Sl->Sl
 |p::ps,v::vs,L=>Ll ps vs ((p,v)::L)
 |_,_,L=>L
theorem Ce {n:Nat}:∀(ps:List Tmp) (vs:List Value) (tm:Array Value) (L:Sl),Tm n tm L->(∀p∈ps,p<n)->iU n {tmps:=(ps.zip vs).foldl (λtmps (t,a)=>tmps.setIfInBounds t a) tm,defers:=[]} (Ll ps vs L) []
 |[],vs,tm,L,h,_=>⟨by simpa using h.size,rfl,by simpa[Ll]using h.at_⟩
 |p::ps,[],tm,L,h,_=>⟨by simpa using h.size,rfl,by simpa[Ll]using h.at_⟩
 |p::ps,v::vs,tm,L,h,hp=>by
  have h0:iU n {tmps:=tm,defers:=[]} L []:=⟨h.size,rfl,h.at_⟩;have h1:=h0.put (hp p (List.mem_cons_self ..)) v;exact Ce ps vs (tm.setIfInBounds p v) ((p,v)::L) ⟨by simpa using h.size,h1.at_⟩ (λq hq=>hp q (List.mem_cons_of_mem _ hq))
def XG (l:Nat) (rec:LoopState->Option Code->Loop) (Q:Value->World->Prop):Kt
 |.normal,_,_,w=>w.heap[l]? =some (.loop (rec .busy none))/\Q (.bool true) (w.putObj l (.loop (rec .ready none)))
 |.ret,_,_,w=>w.heap[l]? =some (.loop (rec .busy none))/\Q (.bool false) (w.putObj l (.loop (rec .done (some .ret))))
 |.exit id,_,_,w=>w.heap[l]? =some (.loop (rec .busy none))/\Q (.bool false) (w.putObj l (.loop (rec .done (some (.exit id)))))
 |.goto id,_,_,w=>w.heap[l]? =some (.loop (rec .busy none))/\Q (.bool false) (w.putObj l (.loop (rec .done (some (.goto id)))))
 |_,_,_,_=>False
@[reducible] def ack (P:Program) (l n:Nat) (rec:LoopState->Option Code->Loop) (body:Code) (Q:Value->World->Prop):Kt:=λe L ds w=>
 e= .normal/\w.heap[l]? =some (.loop (rec .ready none))/\T P (some l) n body L ds (w.putObj l (.loop (rec .busy none))) (XG l rec Q)
theorem Og {P:Program} {n l D:Nat} {fn:FuncId} {tm:Array Value} {ps:List Tmp} {sU body:Code} {vs:List Value} {L:Sl} {w:World} {Q:Value->World->Prop}
  (hl:w.heap[l]? =some (.loop (td fn tm ps.toArray sU body D .ready none))) (Tz:Tm n tm L) (hlen:vs.length=ps.length) (sO:∀p∈ps,p<n)
  (h:T P (some l) n sU (Ll ps vs L) [] w (ack P l n (td fn tm ps.toArray sU body D) body Q)):zj P l vs.toArray w Q:=by
 have hy:=run_yield (P:=P) (args:=vs.toArray) hl (by simp[td,hlen]);refine ⟨_,_,_,_,hy,roundIn_of_wpIn trivial ?_⟩
 have hz:((td fn tm ps.toArray sU body D .ready none).params.zip vs.toArray).foldl (λtmps (t,a)=>tmps.setIfInBounds t a) (td fn tm ps.toArray sU body D .ready none).tmps=(ps.zip vs).foldl (λtmps (t,a)=>tmps.setIfInBounds t a) tm:=by
  simp[td,<-Array.foldl_toList]
 rw[hz];refine wpIn_mono (h.run _ (Ce ps vs tm L Tz sO)) ?_;rintro e a w1 ⟨L1,ds1,ha1,rfl,hl1,hb⟩;refine ⟨_,run_beginRound hl1 G,wpIn_mono (hb.run a ha1) ?_⟩;rintro e a2 w2 ⟨L2,ds2,SO,hK⟩
 cases e with
 |normal=>exact⟨_,_,run_endRound none hK.1,_,rfl,hK.2⟩
 |ret=>exact⟨_,_,run_endRound (some .ret) hK.1,_,rfl,hK.2⟩
 |exit id=>exact⟨_,_,run_endRound (some (.exit id)) hK.1,_,rfl,hK.2⟩
 |goto id=>exact⟨_,_,run_endRound (some (.goto id)) hK.1,_,rfl,hK.2⟩
 |panic c=>exact hK.elim
 |outgrown=>exact hK.elim
def VU (n D:Nat) (ps:Array Tmp) (sU body:Code) (L:Sl) (rec:LoopState->Option Code->Loop):Prop:=∃fn tm,Tm n tm L/\rec=td fn tm ps sU body D
theorem ru {P:Program} {n l D:Nat} {ps:List Tmp} {sU body:Code} {vs:List Value} {L:Sl} {w:World} {Q:Value->World->Prop} {rec:LoopState->Option Code->Loop} (uc:VU n D ps.toArray sU body L rec)
  (hl:w.heap[l]? =some (.loop (rec .ready none))) (hlen:vs.length=ps.length) (sO:∀p∈ps,p<n)
  (h:T P (some l) n sU (Ll ps vs L) [] w (ack P l n rec body Q)):zj P l vs.toArray w Q:=by
 obtain⟨fn,tm,Tz,rfl⟩:=uc;exact Og hl Tz hlen sO h
def mark (D:Nat):Deferred:={target:= .collected D,args:= #[]}
theorem T.XH {P:Program} {n:Nat} {L:Sl} {ds:List Deferred} {w:World} {K:Kt} {g:Operand} {ps:Array Tmp} {sU body:Code} {gf:FuncId} {lb:Array Value} (hg:ev L g=some (.func (.func gf) #[] lb)) (he:Enters P gf)
  (h:∀fn tm,Tm n tm L->Spec P gf (#[.func (.yield (w.heap.size+1)) #[] #[]]++lb)
   ((w.alloc (.deferred (some []))).alloc (.loop (td fn tm ps sU body w.heap.size .ready none))) (λ_ w3=>
    (w3.heap[w.heap.size+1]? =some (.loop (td fn tm ps sU body w.heap.size .ready none))/\K .normal L (mark w.heap.size::ds) (w3.putObj (w.heap.size+1) (.loop (td fn tm ps sU body w.heap.size .exhausted none))))\/
    ∃c,w3.heap[w.heap.size+1]? =some (.loop (td fn tm ps sU body w.heap.size .done (some c)))/\T P none n c L (mark w.heap.size::ds) (w3.putObj (w.heap.size+1) (.loop (td fn tm ps sU body w.heap.size .exhausted (some c)))) K)):
  T P none n (.rangeFunc g ps sU body) L ds w K:=by
 refine ⟨λa ha=>wpIn_rangeFunc λfn hfn=> ?_⟩;have hs:=h fn a.tmps ⟨ha.size,ha.at_⟩;have rJ:iU n {a with defers:=[mark w.heap.size]++a.defers} L (mark w.heap.size::ds):=⟨ha.size,by simp[ha.defers],ha.at_⟩
 let W1:World:=(w.alloc (.deferred (some []))).alloc (.loop (td fn a.tmps ps sU body w.heap.size .ready none))
 refine⟨w.heap.size+1,[mark w.heap.size],W1,{target:= .fn (.func gf) lb,args:= #[.func (.yield (w.heap.size+1)) #[] #[]]},W1,gf,#[.func (.yield (w.heap.size+1)) #[] #[]]++lb,W1,run_enterLoop_outer _ _ _ _ _,?_,?_,?_,?_,?_⟩
 ·simp only[resolve,ha.eval hg];simp[go_sem]
 ·exact λ_ _=>trivial
 ·simpa[invoke,go_sem]using he (#[.func (.yield (w.heap.size+1)) #[] #[]]++lb) _
 ·exact λh=>by simp[FW,Fence.wide]at h
 ·refine (callsIn_wide.2 hs).mono ?_;rintro e w3 ⟨v,rfl,⟨hl,hk⟩|⟨c,hl,hk⟩⟩
  ·exact⟨none,_,run_endLoop hl (by simp[td]),_,_,rJ,hk⟩
  ·exact⟨some c,_,run_endLoop hl (by simp[td]),hk.run _ rJ⟩
theorem T.range {P:Program} {n:Nat} {L:Sl} {ds:List Deferred} {w:World} {K:Kt} {g:Operand} {ps:Array Tmp} {sU body:Code} {gf:FuncId} {lb:Array Value} (hg:ev L g=some (.func (.func gf) #[] lb)) (he:Enters P gf)
  (h:∀rec,VU n w.heap.size ps sU body L rec->Spec P gf (#[.func (.yield (w.heap.size+1)) #[] #[]]++lb)
   ((w.alloc (.deferred (some []))).alloc (.loop (rec .ready none))) (λ_ w3=>
    (w3.heap[w.heap.size+1]? =some (.loop (rec .ready none))/\K .normal L (mark w.heap.size::ds) (w3.putObj (w.heap.size+1) (.loop (rec .exhausted none))))\/
    ∃c,w3.heap[w.heap.size+1]? =some (.loop (rec .done (some c)))/\T P none n c L (mark w.heap.size::ds) (w3.putObj (w.heap.size+1) (.loop (rec .exhausted (some c)))) K)):
  T P none n (.rangeFunc g ps sU body) L ds w K:= .XH hg he λfn tm Tz=>h _ ⟨fn,tm,Tz,rfl⟩
def Marks (P:Program):List Deferred->World->World->Prop
 |[],w,w'=>w'=w
 |d::ds,w,w'=>∃r w1,d.target= .collected r/\(Instr.takeDeferred r).run P w= .ok [] w1/\Marks P ds w1 w'
def JY (P:Program) (fn:Func) (Q:Value->World->Prop):Kt
 |.normal,L,ds,w| .ret,L,ds,w=>∃w',Marks P ds w w'∧∀a:Act,(∀t v,lk L t=some v->a.tmps[t]? =some v)->∃v,(results fn a.tmps).run P w'= .ok v w'∧Q v w'
 |_,_,_,_=>False
theorem ud {P:Program} {fn:Func} {tmps:Array Value} {R:Ending->World->Prop} {w':World}:∀(ds:List Deferred) (w:World),Marks P ds w w'→(∃v,(results fn tmps).run P w'= .ok v w'∧R (.returned v) w')->LeavesInM (FW none) 0 P fn tmps R ds .returning w
 |[],w,h,hr=>by cases h;exact hr
 |d::ds,w,⟨r,w1,h1,h2,h3⟩,hr=>⟨by simp,.inl ⟨r,w1,h1,h2,ud ds w1 h3 hr⟩⟩
theorem ug {P:Program} {f:FuncId} {fn:Func} {c:Code} {args:List Value} {w:World} {Q:Value->World->Prop} (hf:P.funcs[f]? =some fn) (hb:fn.body=some c) {n:Nat} (hn:fn.ntmps=n)
  (h:T P none n c (vX 0 args) [] w (JY P fn Q)):Spec P f args.toArray w Q:=by
 refine(callsIn_wide (n:=0)).1 (callsIn_of_wp_marks (F:=FW none) hf hb trivial ?_);refine wpIn_mono (h.run _ ⟨?_,G,?_⟩) ?_
 ·simp[hn];omega
 ·intro t v ht;obtain⟨_,h2⟩:=B5 args 0 t v ht;simp only[Nat.sub_zero]at h2;have eZ:t<args.length:=(List.getElem?_eq_some_iff.1 h2).1;simp only;rw[Array.getElem?_append_left (by simpa using eZ)];simpa using h2
 ·rintro e a w' ⟨L,ds,ha,hK⟩
  have go:(∃zd,Marks P ds w' zd/\∀a:Act,(∀t v,lk L t=some v->a.tmps[t]? =some v)->∃v,(results fn a.tmps).run P zd= .ok v zd/\Q v zd)->LeavesInM (FW none) 0 P fn a.tmps (λe w'=>∃v,e= .returned v/\Q v w') a.defers .returning w':=by
   rintro⟨zd,h1,h2⟩;obtain⟨v,h3,h4⟩:=h2 a ha.at_;rw[ha.defers];exact ud ds w' h1 ⟨v,h3,v,G,h4⟩
  cases e with
  |normal=>exact go hK
  |ret=>exact go hK
  |exit id=>exact hK.elim
  |goto id=>exact hK.elim
  |panic c=>exact hK.elim
  |outgrown=>exact hK.elim
theorem Cf {P:Program} {D:Nat} {w:World} (h:w.heap[D]? =some (.deferred (some []))):Marks P [mark D] w (w.putObj D (.deferred none)):=⟨D,_,rfl,run_takeDeferred h,rfl⟩
section
variable {P:Program} {fn:Func} {L:Sl} {w:World} {Q:Value->World->Prop}
theorem kr (hr:fn.results= #[]) (h:Q (.tuple #[]) w):yp P fn Q .normal L [] w:=⟨rfl,λa ha=>⟨_,by simp[results,hr],h⟩⟩
theorem HJ {t D:Nat} {v:Value} (hr:fn.results= #[.tmp t]) (hv:lk L t=some v) (hD:w.heap[D]? =some (.deferred (some []))) (h:Q v (w.putObj D (.deferred none))):
  JY P fn Q .ret L [mark D] w:=⟨_,Cf hD,λa ha=>⟨v,by simp[results,hr,ha t v hv],h⟩⟩
theorem XI {t u D:Nat} {x y:Value} (hr:fn.results= #[.tmp t,.tmp u]) (hx:lk L t=some x) (hy:lk L u=some y) (hD:w.heap[D]? =some (.deferred (some []))) (h:Q (.tuple #[x,y]) (w.putObj D (.deferred none))):
  JY P fn Q .ret L [mark D] w:=⟨_,Cf hD,λa ha=>⟨_,by simp[results,hr,ha _ _ hx,ha _ _ hy],h⟩⟩
theorem TA {t u:Nat} {x y:Value} (hr:fn.results= #[.tmp t,.tmp u]) (hx:lk L t=some x) (hy:lk L u=some y) (h:Q (.tuple #[x,y]) w):
  JY P fn Q .ret L [] w:=⟨w,rfl,λa ha=>⟨_,by simp[results,hr,ha _ _ hx,ha _ _ hy],h⟩⟩
end
theorem gy {M:aM} {w:World} {b:Nat} {o:Obj} (hM:M b):Step M w M (w.putObj b o) (λk=>k=b):=
 ⟨λh k hk=>by simpa[World.putObj]using h k hk,rfl,rfl,rfl,by simp[World.putObj],λ_ _=>Iff.rfl,λk _ hn=>World.putObj_heap_other (λe=>hn e),λk hk=>by subst hk;exact hM⟩
section
variable {P:Program} {r:Option Nat} {n:Nat} {L:Sl} {ds:List Deferred} {w:World} {K:Kt} {ops:Array Oper} {rest:List Oper} {d:Nat} {ty:TypeId} {pos:String} {af:Array Edge} {x y:Operand} {α:Type} {A:RT α}
theorem cO.mC {M:aM} {v:Value} {a:α} (h:cO A M w v a):∃p,v= .pointer (some p):=by
 obtain⟨b,o,vs,h1,_⟩:=h;exact⟨_,h1⟩
theorem Rg.nilCheck {v:Value} (hx:ev L x=some v) (hv:∃p,v= .pointer (some p)) (hd:Nat.blt d n=true) (k:Rg P r n ops rest ((d,v)::L) ds w K):
  Rg P r n ops ({dst:=some d,op:= .nilCheck x,type:=ty,pos,after:=af,guard:=none}::rest) L ds w K:=by
 obtain⟨p,rfl⟩:=hv;exact .op a05 rfl rfl hd _ w (λρ h=>by simp only[execOp,h x _ hx];simp) k
theorem Rg.bX {s:TypeId} {fs:Array Field} {fd:Field} {j size o o' b:Nat} {zv:Value} {bytes:Nat} (hu:P.underlying s=some (.struct fs)) (Xp:fs[j]? =some fd) (ho:o+fd.offset=o') (hi:TI P fd.type zv size bytes) (hs:size≠0)
  (hx:ev L x=some (.pointer (some ⟨b,o,none⟩))) (hd:Nat.blt d n=true) (k:Rg P r n ops rest ((d,.pointer (some ⟨b,o',none⟩))::L) ds w K):
  Rg P r n ops ({dst:=some d,op:= .fieldAddr s x j,type:=ty,pos,after:=af,guard:=none}::rest) L ds w K:=
 .op a05 rfl rfl hd _ w (λρ h=>by
  simp only[execOp,h x _ hx];simp[Instr.fieldAt,run_underlying hu,Xp,Instr.sureAddr,fieldPlace,hi.sizeOf,hs,<-ho,Addr.add_mid]) k
theorem Rg.eM {t:TypeId} {fs:TypeDesc} {zv:Value} {bytes size b:Nat} {vs:List Value} {e:TypeId} {fr:Nat×Nat} (hu:P.underlying t=some fs) (hf:fs.isRow=true) (hi:TI P t zv size bytes) (hl:vs.length=size)
  (hx:ev L x=some (.pointer (some ⟨b,0,none⟩))) (hd:Nat.blt d n=true) (hb:w.heap[b]? =some (.cells vs.toArray e fr)) (k:Rg P r n ops rest ((d,.agg vs.toArray)::L) ds w K):
  Rg P r n ops ({dst:=some d,op:= .load t x,type:=ty,pos,after:=af,guard:=none}::rest) L ds w K:=by
 refine .op a05 G G hd (.agg vs.toArray) w (λρ h=>?_) k;simp only[execOp,h x _ hx];obtain⟨i,Bt,_,Ex,_⟩:=hi.get;have hr:w.rangeAt b 0 vs:=λj v hj=>gM hb a97
 have:=run_loadAt_mid (P:=P) w b 0 t vs fs hr hu hf (by simp[Bt,Ex,hl]);simp[this]
theorem ll:∀(vs:List Value) (w:World) (b o:Nat) (cs:Array Value) (e:TypeId) (fr:Nat×Nat),w.heap[b]? =some (.cells cs e fr)->
  ∃qE:Array Value,(w.setCells b o vs).heap[b]? =some (.cells qE e fr)/\qE.size=cs.size/\(∀j,qE[j]? =if o<=j/\j<o+vs.length/\j<cs.size then vs[j-o]? else cs[j]?)/\∀M:aM,M b->Step M w M (w.setCells b o vs) (λk=>k=b)
 |[],w,b,o,cs,e,fr,h=>⟨cs,by simpa[World.setCells]using h,rfl,λj=>by rw[if_neg a11],λM hM=>(Step.refl M w).eI a30 (λk hk=>by subst hk;exact hM)⟩
 |v::vs,w,b,o,cs,e,fr,h=>by
  have h1:=y6 (o:=o) (v:=v) h;obtain⟨qE,h2,h3,h4,h5⟩:=ll vs (w.setCell ⟨b,o,none⟩ v) b (o+1) _ e fr h1;refine⟨qE,h2,by rw[h3];simp,λj=>?_,λM hM=>(tU M hM).trans (h5 M hM) λ_ _ h=>h⟩;rw[h4 j,Array.getElem?_setIfInBounds];simp only[Array.size_setIfInBounds,List.length_cons];by_cases hj:o=j
  ·subst hj;rw[if_neg q0,if_pos rfl];by_cases eZ:o<cs.size
   ·rw[if_pos eZ,if_pos ⟨Nat.le_refl _,by omega,eZ⟩];simp
   ·rw[if_neg eZ,if_neg q0,Array.getElem?_eq_none q0]
  ·rw[if_neg hj];by_cases h6:o+1<=j/\j<o+1+vs.length/\j<cs.size
   ·rw[if_pos h6,if_pos q0,show j-o=(j-(o+1))+1 from by omega];simp
   ·rw[if_neg h6,if_neg q0]
theorem Rg.dq {t:TypeId} {zv:Value} {bytes size b:Nat} {cs:Array Value} {vs:List Value} {e:TypeId} {M:aM} (hi:TI P t zv size bytes) (hl:vs.length=size) (VI:cs.size=size) (h1:∀u∈vs,u.oneCell'=true)
  (hx:ev L x=some (.pointer (some ⟨b,0,none⟩))) (hy:ev L y=some (.agg vs.toArray)) (hb:w.heap[b]? =some (.cells cs e (0,0))) (hm:M b)
  (k:∀w',w'.heap[b]? =some (.cells vs.toArray e (0,0))->Step M w M w' (λk=>k=b)->Rg P r n ops rest L ds w' K):
  Rg P r n ops ({dst:=none,op:= .store t x y,type:=ty,pos,after:=af,guard:=none}::rest) L ds w K:=by
 obtain⟨qE,h2,h3,h4,h5⟩:=ll vs w b 0 cs e (0,0) hb
 have aji:qE=vs.toArray:=Array.ext_getElem? λj=>by
  rw[h4 j];by_cases hj:j<cs.size
  ·rw[if_pos q0];simp
  ·rw[if_neg q0,Array.getElem?_eq_none q0];simp;omega
 subst aji;refine .VH a05 G G (w.setCells b 0 vs) (λρ hρ=>?_) (k _ h2 (h5 M hm));simp only[execOp,hρ x _ hx,hρ y _ hy];obtain⟨i,Bt,_,Ex,_⟩:=hi.get
 have:=run_storeAt_mid (P:=P) w b 0 t vs.toArray (λj hj=>by
  have hj':j<cs.size:=by simp at hj;omega
  exact⟨by rw[gM hb (v:=cs[j]) (by simp[hj'])];rfl,by simp[World.frozen?,hb]⟩) (by simp[Bt,Ex,hl]) (by simpa[Array.all_eq_true_iff_forall_mem]using h1)
 simp[this]
theorem Rg.kL {t e:TypeId} {zv v:Value} {bytes:Nat} {M M1:aM} {w1:World} {a:α} {ty2:TypeId} {ajj:String} {af2:Array Edge} (hi:TI P e zv A.n bytes) (hz:zv.cells.size=A.n) (hg:A.agg=true) (hd:Nat.blt d n=true) (Ln:t=e) (hdy:ev ((d,.pointer (some ⟨w.heap.size,0,none⟩))::L) y=some v)
  (hv:A.V M1 w1 a v) (hle:Le M1 w1 M w) (hm:Lt M w) (k:∀u w',cO A M w' u a->Step M w M w' aC->w.heap.size<w'.heap.size->Rg P r n ops rest ((d,u)::L) ds w' K):
  Rg P r n ops ({dst:=some d,op:= .alloc e,type:=ty,pos,after:=af,guard:=none}::{dst:=none,op:= .store t (.tmp d) y,type:=ty2,pos:=ajj,after:=af2,guard:=none}::rest) L ds w K:=by
 subst Ln;obtain⟨vs,h1,rfl⟩:=hv.le hle;have hdd:lk ((d,.pointer (some ⟨w.heap.size,0,none⟩))::L) d=some (.pointer (some ⟨w.heap.size,0,none⟩)):=by simp[lk,Nat.beq_refl]
 obtain⟨i,i1,i2,i3,i4⟩:=hi.get;refine .op a05 G G hd (.pointer (some ⟨w.heap.size,0,none⟩)) (w.alloc (.cells zv.cells t)) (λρ hρ=>?_) ?_
 ·simp only[execOp];simp[Instr.alloc,zeroValue,typeInfo,i1,i2,newVar,newRow,newObj,Sem.run]
 ·have s1:=(ei M w (.cells zv.cells t)).own (Nat.le_refl _) (by simp);refine .dq (M:=ins M w.heap.size) hi (A.len h1) hz (A.one h1) hdd (by simpa[RT.val,hg]using hdy) (dE w _) (.inl G) (λw' h2 s2=>?_);have B6:=s2.size;have jT:Step M w M w' aC:=⟨λh b hb=>Nat.lt_of_lt_of_le (h b hb) (Nat.le_trans s1.size B6),s2.os.trans s1.os,s2.tape.trans s1.tape,s2.output.trans s1.output,Nat.le_trans s1.size B6,λ_ _=>Iff.rfl,λk hk _=>(s2.same k (Nat.lt_of_lt_of_le hk s1.size) (λe=>by subst e;omega)).trans (s1.same k hk λh=>h.elim),λ_ h=>h.elim⟩;refine k _ w' ⟨w.heap.size,0,vs,G,λh=>by have:=hm _ h;omega,A.le jT.le h1,λj u hj=>gM h2 a97⟩ jT (by simp at B6;omega)
def HK (place:Nat->Option (Nat×Nat)):List Value->List (Nat×Value)->List Value->Prop
 |zs,[],out=>out=zs
 |zs,(i,v)::rest,out=>∃off vs,place i=some (off,vs.length)/\v.cells=vs.toArray/\off+vs.length<=zs.length/\HK place (zs.take off++vs++zs.drop (off+vs.length)) rest out
theorem xJ {place:Nat->Option (Nat×Nat)}:∀(ps:List (Nat×Value)) (zs out:List Value),HK place zs ps out->Instr.fill place zs.toArray ps=some out.toArray
 |[],zs,out,h=>by cases h;rfl
 |(i,v)::rest,zs,out,⟨off,vs,h1,h2,h3,h4⟩=>by
  rw[<-xJ rest _ out h4]
  have key:∀(l:List Value) (k:Nat) (cs:Array Value),off+k+l.length<=cs.size->((l.zipIdx k).foldl (fun(cs:Array Value) (x:Value×Nat)=>cs.setIfInBounds (off+x.2) x.1) cs).size=cs.size/\
    ∀j:Nat,((l.zipIdx k).foldl (fun(cs:Array Value) (x:Value×Nat)=>cs.setIfInBounds (off+x.2) x.1) cs)[j]? =if off+k<=j/\j<off+k+l.length then l[j-(off+k)]? else cs[j]? :=by
   intro l
   induction l with
   |nil=>
    intro k cs hk;refine ⟨G,λj=> ?_⟩;simp;intro h1 h2;omega
   |cons a l ih=>
    intro k cs hk;simp only[List.zipIdx_cons,List.foldl_cons];simp only[List.length_cons]at hk;obtain⟨h1,h2⟩:=ih (k+1) (cs.setIfInBounds (off+k) a) a11;refine ⟨by rw[h1];simp,λj=> ?_⟩;rw[h2 j,Array.getElem?_setIfInBounds,List.length_cons];by_cases h3:off+(k+1)<=j/\j<off+(k+1)+l.length
    ·rw[if_pos h3,if_pos q0,show j-(off+k)=(j-(off+(k+1)))+1 from by omega];simp
    ·rw[if_neg h3];by_cases h4:off+k=j
     ·subst h4;rw[if_pos rfl,if_pos q0,if_pos q0];simp
     ·rw[if_neg h4,if_neg q0]
  obtain⟨k1,k2⟩:=key vs 0 zs.toArray (by simpa using h3)
  conv=>lhs;rw[Instr.fill]
  simp only[h1,h2];simp[show¬(zs.length<off+vs.length) by omega];congr 1;refine Array.ext_getElem? λj=>?_
  rw[k2 j,Nat.add_zero,List.getElem?_toArray,List.getElem?_toArray];by_cases hj:j<off
  ·rw[if_neg q0,List.getElem?_append_left a11,List.getElem?_take,if_pos hj]
  ·have ht:(zs.take off).length=off:=by simp;omega
   rw[List.getElem?_append_right q0,ht];by_cases wu:j<off+vs.length
   ·rw[if_pos q0,List.getElem?_append_left q0]
   ·rw[if_neg q0,List.getElem?_append_right q0,List.getElem?_drop];congr 1;omega
def placesOf (P:Program) (t:TypeId):List (Option (Nat×Nat)):=match P.underlying t with
 |some (.struct fs)=>fs.toList.map λf=>(P.info? f.type).map λi=>(f.offset,i.size)
 |_=>[]
def E0 (L:Sl):List (Nat×Operand)->List (Nat×Value)->Prop
 |[],vs=>vs=[]
 |p::ps,vs=>∃v r,vs=(p.1,v)::r/\ev L p.2=some v/\E0 L ps r
theorem E0.use {ρ:Operand->Value} (h:∀x v,ev L x=some v->ρ x=v):∀{ps:List (Nat×Operand)} {vs:List (Nat×Value)},E0 L ps vs->ps.map (λp=>(p.1,ρ p.2))=vs
 |[],_,hp=>by cases hp;rfl
 |p::ps,_,⟨v,r,h1,h2,h3⟩=>by rw[List.map_cons,h p.2 v h2,E0.use h h3,h1]
theorem Rg.build {t:TypeId} {fs:Array Field} {zv:Value} {bytes size:Nat} {ps:List (Nat×Operand)} {gS:List (Nat×Value)} {out:List Value} {places:List (Nat×Nat)} (hu:P.underlying t=some (.struct fs)) (hi:TI P t zv size bytes)
  (XJ:placesOf P t=places.map some) (hd:Nat.blt d n=true)
  (lN:E0 L ps gS) (hf:HK (λi=>places[i]?) zv.cells.toList gS out) (k:Rg P r n ops rest ((d,.agg out.toArray)::L) ds w K):
  Rg P r n ops ({dst:=some d,op:= .build t ps.toArray,type:=ty,pos,after:=af,guard:=none}::rest) L ds w K:=by
 have yI:fs.toList.map (λf=>(P.info? f.type).map λi=>(f.offset,i.size))=places.map some:=by
  unfold placesOf at XJ;rw[hu]at XJ;exact XJ
 obtain⟨i,i1,i2,i3,i4⟩:=hi.get;refine .op a05 G G hd (.agg out.toArray) w (λρ hρ=>?_) k;have hm:(Array.map (fun(i,x)=>(i,ρ x)) ps.toArray).toList=gS:=by rw[Array.toList_map];exact lN.use hρ
 have hp:∀(l:List Field) (acc:List (Nat×Nat)),l.map (λf=>(P.info? f.type).map λi=>(f.offset,i.size))=acc.map some->(l.mapM (λf=>do let s <-Go.sizeOf f.type;pure (f.offset,s):Field->Sem (Nat×Nat))).run P w= .ok acc w:=by
  intro l
  induction l with
  |nil=>intro acc h;cases acc with
   |nil=>rfl
   |cons a acc=>simp at h
  |cons f l ih=>
   intro acc h
   cases acc with
   |nil=>simp at h
   |cons a acc=>
    simp only[List.map_cons,List.cons.injEq]at h;obtain⟨h1,h2⟩:=h;have:=ih acc h2
    cases hq:P.info? f.type with
    |none=>rw[hq]at h1;simp at h1
    |some i=>
     rw[hq]at h1;simp at h1;subst h1;have hs:(Go.sizeOf f.type).run P w= .ok i.size w:=by simp[Go.sizeOf,typeInfo,program,Sem.run,hq]
     simp only[List.mapM_cons,Sem.run_bind,hs,Result.andThen_ok,Sem.run_pure,this]
 have VV:(fs.mapM (λf=>do let s <-Go.sizeOf f.type;pure (f.offset,s):Field->Sem (Nat×Nat))).run P w= .ok places.toArray w:=by
  have h3:fs.mapM (λf=>do let s <-Go.sizeOf f.type;pure (f.offset,s):Field->Sem (Nat×Nat))=List.toArray <$> fs.toList.mapM (λf=>do let s <-Go.sizeOf f.type;pure (f.offset,s):Field->Sem (Nat×Nat)):=by
   exact Array.mapM_eq_mapM_toList
  rw[h3];simp only[map_eq_pure_bind,Sem.run_bind,hp _ _ yI,Result.andThen_ok,Sem.run_pure]
 have Oh:=xJ gS _ out hf;have hz:(zeroValue t).run P w= .ok zv w:=by simp[zeroValue,typeInfo,program,Sem.run,i1,i2]
 have hf3:Instr.fill (λx=>places.toArray[x]?) zv.cells gS=some out.toArray:=by simpa using Oh
 simp only[execOp,Instr.build,Sem.run_bind,hz,Result.andThen_ok,run_underlying hu,VV,hm,hf3,Sem.run_pure]
theorem Rg.Lo {t e:TypeId} {l h m:Operand} {κ κ' κ'':IntKind} {lo hi mx:Int} {hn:0<A.n} {M:aM} {w1:World} {xs:List α} {v zv:Value} {bytes:Nat} (ht:P.underlying t=some (.slice e)) (K6:TI P e zv A.n bytes)
  (hx:ev L x=some v) (hl:ev L l=some (.int κ lo)) (hh:ev L h=some (.int κ' hi)) (hm:ev L m=some (.int κ'' mx)) (hd:Nat.blt d n=true) (hv:(A.sl hn).V M w1 xs v) (hb:0<=lo/\lo<=hi/\hi=mx/\hi<=xs.length)
  (k:∀u,(A.sl hn).V M w1 ((xs.take hi.toNat).drop lo.toNat) u->Rg P r n ops rest ((d,u)::L) ds w K):
  Rg P r n ops ({dst:=some d,op:= .slice t x (some l) (some h) (some m),type:=ty,pos,after:=af,guard:=none}::rest) L ds w K:=by
 obtain⟨a,cap,rfl,hc,hlen,hs⟩:=iV.1 hv;obtain⟨h1,h2,rfl,h3⟩:=hb;have y5:((xs.take hi.toNat).drop lo.toNat).length=hi.toNat-lo.toNat:=by rw[List.length_drop,List.length_take];omega
 refine .op a05 G G hd (sliced a lo.toNat hi.toNat hi.toNat A.n) w (λρ hρ=>?_) (k _ (iV.2 ⟨_,hi.toNat-lo.toNat,?_,by omega,by omega,hs.slice lo.toNat hi.toNat cap hi.toNat q0 q0 q0⟩))
 ·simp only[execOp,hρ x _ hx,Option.map_some,hρ l _ hl,hρ h _ hh,hρ m _ hm];rw[Sem.run_bind,run_sliceAt_slice _ _ _ _ _ _ (jm ht),run_slice_lhm _ _ _ _ _ (jm ht) _ _ _ _ _ _ h1 h2 (Int.le_refl _) q0,oV ht,K6.sizeOf];simp
 ·rw[y5];rfl
theorem Rg.uh {t t' e:TypeId} {a:Option Addr} {l c:Nat} (ht:P.underlying t=some (.slice e)) (hx:ev L x=some (.slice a l c)) (hy:ev L y=some (.slice none 0 0)) (hd:Nat.blt d n=true)
  (k:Rg P r n ops rest ((d,.bool (decide (a=none)))::L) ds w K):
  Rg P r n ops ({dst:=some d,op:= .binOp .eql t x y t',type:=ty,pos,after:=af,guard:=none}::rest) L ds w K:=
 .op a05 rfl rfl hd _ w (λρ h=>by
  have he:=run_equal_slice_nil (P:=P) w t e a l c ht;simp only[execOp];rw[h x _ hx,h y _ hy]
  cases a<;>simp[eqGuard,binOp,run_underlying ht]<;>simp[he]) k
theorem Rg.Oi {t t' e:TypeId} {v:Value} (ht:P.underlying t=some (.pointer e)) (hx:ev L x=some v) (hv:∃p,v= .pointer (some p)) (hy:ev L y=some (.pointer none)) (hd:Nat.blt d n=true)
  (k:Rg P r n ops rest ((d,.bool false)::L) ds w K):
  Rg P r n ops ({dst:=some d,op:= .binOp .eql t x y t',type:=ty,pos,after:=af,guard:=none}::rest) L ds w K:=by
 obtain⟨p,rfl⟩:=hv
 exact .op a05 G G hd _ w (λρ h=>by
  have hpe:P.underlying t=some (.pointer (P.pointee t)):=by simp[Program.pointee,ht]
  have he:=run_equal_pointer_nil (P:=P) w t (some p) hpe;simp only[execOp];rw[h x _ hx,h y _ hy];simp[eqGuard,binOp,run_underlying ht,he]) k
theorem Rg.sl0 {t e:TypeId} {zv:Value} {bytes size:Nat} (ht:P.underlying t=some (.slice e)) (hi:TI P e zv size bytes) (M:aM) (hd:Nat.blt d n=true)
  (k:∀a w',Step M w M w' aC->Rg P r n ops rest ((d,.slice (some a) 0 0)::L) ds w' K):
  Rg P r n ops ({dst:=some d,op:= .buildSlice t 0 #[],type:=ty,pos,after:=af,guard:=none}::rest) L ds w K:=by
 refine .op a05 G G hd (.slice (some ⟨w.heap.size,0,none⟩) 0 0) (w.alloc (.cells #[] e)) (λρ hρ=>?_) (k _ _ (ei M w _));simp only[execOp,Instr.buildSlice,Sem.run_bind,run_underlying ht,Result.andThen_ok,hi.sizeOf];simp[newRow,newObj,Sem.run,Instr.fill];have h0:Array.range 0= #[]:=by apply Array.ext<;>simp
 simp[h0]
theorem Oj {fn:Func} {Q:Value->World->Prop} {c t u s b:Nat} {vs:List Value} {fs:TypeDesc} {e:TypeId} {fr:Nat×Nat} {y z zv:Value} {size bytes:Nat} (hr:fn.results= #[.cell c t,.tmp u,.tmp s]) (hc:lk L c=some (.pointer (some ⟨b,0,none⟩))) (hu:P.underlying t=some fs) (hf:fs.isRow=true) (hi:TI P t zv size bytes) (hl:vs.length=size)
  (hb:w.heap[b]? =some (.cells vs.toArray e fr)) (hy:lk L u=some y) (hz:lk L s=some z) (h:Q (.tuple #[.agg vs.toArray,y,z]) w):yp P fn Q .ret L [] w:=
 ⟨rfl,λa ha=>⟨_,by
  obtain⟨i,Bt,_,Ex,_⟩:=hi.get;have XK:w.rangeAt b 0 vs:=λj v hj=>gM hb a97
  have:=run_loadVar_mid (P:=P) w b 0 t vs fs XK hu hf (by simp[Bt,Ex,hl]);simp[results,hr,ha _ _ hc,ha _ _ hy,ha _ _ hz,asAddr,this,Sem.run_bind],h⟩⟩
theorem Rg.od {t e:TypeId} {zv:Value} {bytes:Nat} {hn:0<A.n} {M M2:aM} {w2:World} {a:Option Addr} {u:Value} {ys:List α} (ht:P.underlying t=some (.slice e)) (hi:TI P e zv A.n bytes) (hz:zv.cells.size=A.n)
  (hx:ev L x=some (.slice a 0 0)) (hy:ev L y=some u) (hd:Nat.blt d n=true) (hu:(A.sl hn).V M2 w2 ys u) (hle:Le M2 w2 M w) (hm:Lt M w) (hb:ys.length*bytes<=140737488355328)
  (k:∀v' w',(A.sl hn).V M w' ys v'→Step M w M w' aC->Rg P r n ops rest ((d,v')::L) ds w' K):
  Rg P r n ops ({dst:=some d,op:= .call {callee:= .builtin .append,args:= #[x,y],argTypes:= #[t,t]},type:=ty,pos,after:=af,guard:=none}::rest) L ds w K:=by
 have hyl:=cU hu;by_cases fw:ys=[]
 ·subst fw;obtain⟨b,c,rfl,_⟩:=iV.1 hu;refine .op a05 G G hd (.slice a 0 0) w (λρ hρ=>?_) (k _ w (iV.2 ⟨a,0,rfl,Nat.le_refl _,by simp,.inl rfl⟩) aV);simp only[execOp,resolve,List.map_toArray,List.map_cons,List.map_nil,hρ x _ hx,hρ y _ hy];have:=pU (P:=P) (w:=w) (ty:=ty) ht hi a 0 0 c b (Nat.le_refl 0);simp only[List.length_nil]at this ⊢;simp[invoke,builtin,this]
 ·have hp:0<ys.length:=List.length_pos_iff.2 fw;refine .zc (xs:=[]) (a:=a) ht hi hz hx hy hd (iV.2 ⟨a,0,rfl,Nat.le_refl _,by simp,.inl rfl⟩) (λ_=>rfl) hu hle hp (by simpa using hyl) (by simpa using hb) λv' M' w' ho s=> ?_
  rw[List.nil_append]at ho;exact k v' w' (Own.close hm s ho hyl) s.back
theorem jL {M:aM} {a:α} {v:Value} (h:A.V M w a v) (hg:A.agg=false) (h1:A.n=1):v.oneCell'=true:=by
 obtain⟨vs,hR,rfl⟩:=h;have hl:=A.len hR
 match vs,hl with
 |[u],_=>simpa[RT.val,hg]using A.one hR u (by simp)
 |[],hl=>simp at hl;omega
 |_::_::_,hl=>simp at hl;omega
theorem mD {M:aM} {a:α} {v:Value} (h:A.V M w a v) (hg:A.agg=false) (h1:A.n=1):A.R M w a [v]:=by
 obtain⟨vs,hR,rfl⟩:=h;have hl:=A.len hR
 match vs,hl,hR with
 |[u],_,hR=>simpa[RT.val,hg]using hR
 |[],hl,_=>simp at hl;omega
 |_::_::_,hl,_=>simp at hl;omega
theorem fJ {β:Type} {B:RT β} {M:aM} {a:α} {b:β} {u v:Value} (h:A.V M w a u) (h':B.V M w b v) (hg:A.agg=false) (h1:A.n=1) (hg':B.agg=false) (TB:B.n=1):(A.pair B).V M w (a,b) (.agg [u,v].toArray):=
 ⟨[u,v],⟨[u],[v],rfl,mD h hg h1,mD h' hg' TB⟩,rfl⟩
theorem E1 {x:Int}: -9223372036854775808<=IntKind.i64.wrap x/\IntKind.i64.wrap x<=9223372036854775807:=by
 rw[IntKind.wrap_i64];omega
end
def put (n:Nat):List UInt8:=if n<128 then[UInt8.ofNat n]else UInt8.ofNat (128+n%128)::put (n/128)
termination_by n
decreasing_by omega
theorem zk {n:Nat} (h:n<128):put n=[UInt8.ofNat n]:=by rw[put,if_pos h]
theorem HL {n:Nat} (h:128<=n):put n=UInt8.ofNat (128+n%128)::put (n/128):=by rw[put,if_neg q0]
theorem TC (n:Nat):0<(put n).length:=by rw[put];split<;>simp
theorem TD {k:Nat}:∀{n:Nat},n<128^(k+1)->(put n).length<=k+1:=by
 induction k with
 |zero=>intro n h;rw[zk a86];simp
 |succ k ih=>
  intro n h;by_cases h1:n<128
  ·rw[zk h1];simp
  ·rw[HL q0];have:=ih (n:=n/128) (by rw[Nat.pow_succ]at h;omega);simp;omega
theorem lp {n:Nat} (h:n<=9223372036854775807):(put n).length<=9:=TD (k:=8) q0
def oe:List UInt8->Nat->Nat->Option (Nat×Nat)
 |[],_,_=>none
 |c::cs,i,n=>if c.toNat<128 then(if c.toNat=0/\0<i then none else some (n+c.toNat%128*128^i,i+1))else oe cs (i+1) (n+c.toNat%128*128^i)
def get (b:List UInt8) (at_:Int):Int×Int×Int:=
 if at_<0\/(b.length:Int)<at_ then(0,0,1)
 else match oe ((b.drop at_.toNat).take 9) 0 0 with
  |some (n,k)=>(n,at_+k,0)
  |none=>(0,0,2)
theorem oh {bs:List UInt8} {k:Nat} {c:UInt8} (h:bs[k]? =some c) (n:Nat):oe (bs.drop k) k n=
  if c.toNat<128 then(if c.toNat=0/\0<k then none else some (n+c.toNat%128*128^k,k+1))else oe (bs.drop (k+1)) (k+1) (n+c.toNat%128*128^k):=by
 obtain⟨eZ,he⟩:=List.getElem?_eq_some_iff.1 h;rw[List.drop_eq_getElem_cons eZ,oe,he]
theorem XL (b:List UInt8) (i:Nat):(b.take (min b.length (i+9))).drop i=(b.drop i).take 9:=by
 rw[List.drop_take,List.take_eq_take_iff];simp;omega
def val:List UInt8->Nat
 |[]=>0
 |c::cs=>c.toNat%128+128*val cs
def gm:Int->List Int->Bool
 |_,[]=>true
 |last,x::l=>decide (last<x)&&gm x l
def lT:Int->List Int->List UInt8
 |_,[]=>[]
 |last,x::l=>put (x-last-1).toNat++lT x l
def fc (l:List Int):List UInt8:=put l.length++lT (-1) l
def VW:Int->List Int->List Int
 |_,[]=>[]
 |last,x::l=>let m:=if x<0 then-(x+1)else x;(last+1+m%1000)::VW (last+1+m%1000) l
def good (l:List Int) (most:Nat):List Int:=VW (-1) (l.take most)
theorem wy {b:List UInt8} {at_:Int} (h:(get b at_).2.2=0):0<=at_/\at_<(get b at_).2.1/\(get b at_).2.1<=b.length/\0<=(get b at_).1/\(get b at_).1<9223372036854775808:=by
 unfold get at h ⊢
 split at h
 ·simp at h
 rename_i hr
 rw[if_neg hr]at*
 have key:∀(bs:List UInt8) (i n m k:Nat),oe bs i n=some (m,k)->bs.length+i<=9->n<128^i->i<k/\k<=i+bs.length/\m<128^k:=by
  intro bs
  induction bs with
  |nil=>intro i n m k h;simp[oe]at h
  |cons c cs ih=>
   intro i n m k h hl hn
   have hd:n+c.toNat%128*128^i<128^(i+1):=by
    have:=Nat.mul_le_mul_right (128^i) (show c.toNat%128<=127 from by omega);rw[Nat.pow_succ];omega
   simp only[oe]at h
   split at h
   ·split at h
    ·cases h
    ·cases h;exact⟨by omega,by simp,hd⟩
   ·obtain⟨h1,h2,h3⟩:=ih (i+1) _ m k h (by simp at hl;omega) hd;exact⟨by omega,by simp;omega,h3⟩
 cases hg:oe ((b.drop at_.toNat).take 9) 0 0 with
 |none=>simp[hg]at h
 |some p=>
  obtain⟨m,k⟩:=p;have hlen:((b.drop at_.toNat).take 9).length<=9/\((b.drop at_.toNat).take 9).length<=b.length-at_.toNat:=by rw[List.length_take,List.length_drop];omega
  obtain⟨h1,h2,h3⟩:=key _ 0 0 m k hg q0 Tg;have hp:128^k<=128^9:=Nat.pow_le_pow_right Tg q0;simp only;omega
def iI (b:List UInt8):Nat->Int->Int->Int×List Int×Int
 |0,at_,_=>(0,[],at_)
 |k+1,at_,last=>
  if(get b at_).2.2≠0 then((get b at_).2.2,[],0)
  else if 4611686018427387904-last-1<(get b at_).1 then(2,[],0)
  else if(iI b k (get b at_).2.1 (last+1+(get b at_).1)).1≠0 then((iI b k (get b at_).2.1 (last+1+(get b at_).1)).1,[],0)
  else(0,(last+1+(get b at_).1)::(iI b k (get b at_).2.1 (last+1+(get b at_).1)).2.1,(iI b k (get b at_).2.1 (last+1+(get b at_).1)).2.2)
def gT (b:List UInt8) (at_:Int):Int×List Int×Int:=
 if(get b at_).2.2≠0 then((get b at_).2.2,[],0)else iI b (get b at_).1.toNat (get b at_).2.1 (-1)
theorem gG {l:List Int} {k:Nat} {x:Int} (h:l[k]? =some x) (last:Int):gm last (l.drop k)=(decide (last<x)&&gm x (l.drop (k+1))):=by
 obtain⟨eZ,he⟩:=List.getElem?_eq_some_iff.1 h;rw[List.drop_eq_getElem_cons eZ,gm,he]
theorem Lq {l:List Int} {k:Nat} {x:Int} (h:l[k]? =some x) (last:Int):lT last (l.drop k)=put (x-last-1).toNat++lT x (l.drop (k+1)):=by
 obtain⟨eZ,he⟩:=List.getElem?_eq_some_iff.1 h;rw[List.drop_eq_getElem_cons eZ,lT,he]
theorem zm:∀(l:List Int) (last:Int),-1<=last->(∀x∈l,x<=9223372036854775807)->gm last l=true->(lT last l).length<=9*l.length
 |[],_,_,_,_=>by simp[lT]
 |x::l,last,h1,h2,h3=>by
  simp only[gm,Bool.and_eq_true,decide_eq_true_eq]at h3;have hx:=h2 x (List.mem_cons_self ..);have h4:=zm l x q0 (λy hy=>h2 y (List.mem_cons_of_mem _ hy)) h3.2;have h5:=lp (n:=(x-last-1).toNat) q0;simp only[lT,List.length_append,List.length_cons];omega
theorem zn (b:List UInt8) (a last:Int):iI b 0 a last=(0,[],a):=rfl
theorem te {b:List UInt8} {k:Nat} {a last:Int} (h:(get b a).2.2≠0):iI b (k+1) a last=((get b a).2.2,[],0):=by rw[iI,if_pos h]
theorem wz {b:List UInt8} {k:Nat} {a last:Int} (h:(get b a).2.2=0) (h2:4611686018427387904-last-1<(get b a).1):iI b (k+1) a last=(2,[],0):=by
 rw[iI,if_neg a86,if_pos h2]
theorem zo {b:List UInt8} {k:Nat} {a last:Int} (h:(get b a).2.2=0) (h2: ¬4611686018427387904-last-1<(get b a).1):iI b (k+1) a last=
  if(iI b k (get b a).2.1 (last+1+(get b a).1)).1≠0 then((iI b k (get b a).2.1 (last+1+(get b a).1)).1,[],0)
  else(0,(last+1+(get b a).1)::(iI b k (get b a).2.1 (last+1+(get b a).1)).2.1,(iI b k (get b a).2.1 (last+1+(get b a).1)).2.2):=by
 rw[iI,if_neg a86,if_neg h2]
def andThen (acc:List Int) (r:Int×List Int×Int):Int×List Int×Int:=if r.1≠0 then(r.1,[],0)else(0,acc++r.2.1,r.2.2)
theorem o5 {b:List UInt8} {k:Nat} {a last:Int} (acc:List Int) (h:(get b a).2.2=0) (h2: ¬4611686018427387904-last-1<(get b a).1):
  andThen acc (iI b (k+1) a last)=andThen (acc++[last+1+(get b a).1]) (iI b k (get b a).2.1 (last+1+(get b a).1)):=by
 rw[zo h h2];unfold andThen;by_cases h3:(iI b k (get b a).2.1 (last+1+(get b a).1)).1=0<;>simp[h3]
theorem E2 (r:Int×List Int×Int) (h:r.1≠0->r.2=([],0)):andThen [] r=r:=by
 unfold andThen;by_cases h3:r.1=0
 ·rw[if_neg (by simpa using h3)];ext<;>simp[h3]
 ·rw[if_pos h3,<-h h3]
theorem Lr (b:List UInt8):∀(k:Nat) (a last:Int),(iI b k a last).1≠0->(iI b k a last).2=([],0)
 |0,a,last,h=>by simp[iI]at h
 |k+1,a,last,h=>by
  rw[iI]at h ⊢
  split
  ·rfl
  ·rename_i h1;rw[if_neg h1]at h
   split
   ·rfl
   ·rename_i h2;rw[if_neg h2]at h
    split
    ·rfl
    ·rename_i h3;rw[if_neg h3]at h;simp at h
theorem o6 (b:List UInt8) (a:Int):0<=(get b a).1/\0<=(get b a).2.2/\(get b a).2.2<=2/\((get b a).2.2≠0->(get b a).1=0/\(get b a).2.1=0):=by
 unfold get
 split
 ·simp
 ·split<;>simp<;>omega
theorem Cg (b:List UInt8) (a:Int):(get b a).1<=9223372036854775807:=by
 by_cases h:(get b a).2.2=0
 ·have:=wy h;omega
 ·have:=(o6 b a).2.2.2 h;omega
theorem Ol:∀(k m i acc:Nat) (post:List UInt8),m<128^(k+1)->(0<i->m≠0)->oe ((put m++post).take (k+1)) i acc=some (acc+m*128^i,i+(put m).length):=by
 intro k
 induction k with
 |zero=>
  intro m i acc post h h0;have hm:m<128:=by simpa using h
  have e:(UInt8.ofNat m).toNat=m:=by rw[UInt8.toNat_ofNat'];omega
  rw[zk hm];simp only[List.cons_append,List.nil_append,List.take_succ_cons,oe,e];rw[if_pos hm,if_neg q0,Nat.mod_eq_of_lt hm];rfl
 |succ k ih=>
  intro m i acc post h h0;by_cases hm:m<128
  ·have e:(UInt8.ofNat m).toNat=m:=by rw[UInt8.toNat_ofNat'];omega
   rw[zk hm];simp only[List.cons_append,List.nil_append,List.take_succ_cons,oe,e];rw[if_pos hm,if_neg q0,Nat.mod_eq_of_lt hm];rfl
  ·have e:(UInt8.ofNat (128+m%128)).toNat=128+m%128:=by rw[UInt8.toNat_ofNat'];omega
   rw[HL q0];simp only[List.cons_append,List.take_succ_cons,oe,e];rw[if_neg q0,ih (m/128) (i+1) _ post (by rw[Nat.pow_succ]at h;omega) q0];have h2:(128+m%128)%128=m%128:=by omega
   rw[h2,Nat.pow_succ];congr 2
   ·have h3:m=m%128+128*(m/128):=by omega
    have h4:m*128^i=(m%128)*128^i+(m/128)*(128^i*128):=by
     conv=>lhs;rw[h3]
     rw[Nat.add_mul,Nat.mul_comm 128 (m/128),Nat.mul_assoc,Nat.mul_comm 128 (128^i)]
    omega
   ·simp;omega
theorem Dp (pre post:List UInt8) {n:Nat} (hn:n<=9223372036854775807):get (pre++put n++post) pre.length=((n:Int),((pre.length+(put n).length:Nat):Int),0):=by
 unfold get;rw[if_neg a11]
 have h1:((pre++put n++post).drop (pre.length:Int).toNat).take 9=(put n++post).take (8+1):=by
  rw[Int.toNat_natCast,List.append_assoc,List.drop_left]
 rw[h1,Ol 8 n 0 0 post q0 q0];simp
theorem Ch:∀(l:List Int) (pre post:List UInt8) (last:Int),-1<=last->gm last l=true->(∀x∈l,x<=4611686018427387904)->
  iI (pre++lT last l++post) l.length pre.length last=(0,l,((pre.length+(lT last l).length:Nat):Int))
 |[],pre,post,last,_,_,_=>by simp[lT,iI]
 |x::l,pre,post,last,h1,h2,h3=>by
  simp only[gm,Bool.and_eq_true,decide_eq_true_eq]at h2;have hx:=h3 x (List.mem_cons_self ..);have e0:pre++lT last (x::l)++post=pre++put (x-last-1).toNat++(lT x l++post):=by simp[lT]
  have e1:=Dp pre (lT x l++post) (n:=(x-last-1).toNat) q0;have e2:pre++put (x-last-1).toNat++(lT x l++post)=(pre++put (x-last-1).toNat)++lT x l++post:=by simp
  have ih:=Ch l (pre++put (x-last-1).toNat) post x q0 h2.2 (λy hy=>h3 y (List.mem_cons_of_mem _ hy));rw[e0,List.length_cons,zo (by rw[e1]) (by rw[e1];simp only;omega),e1];simp only;have e3:last+1+(((x-last-1).toNat:Nat):Int)=x:=by omega
  rw[e3,e2,show((pre.length+(put (x-last-1).toNat).length:Nat):Int)=((pre++put (x-last-1).toNat).length:Int)from by simp,ih];simp[lT];omega
theorem BD (pre post:List UInt8) {l:List Int} (hr:gm (-1) l=true) (h3:∀x∈l,x<=4611686018427387904) (hl:l.length<=9223372036854775807):
  gT (pre++fc l++post) pre.length=(0,l,((pre.length+(fc l).length:Nat):Int)):=by
 have e0:pre++fc l++post=pre++put l.length++(lT (-1) l++post):=by simp[fc]
 have e1:=Dp pre (lT (-1) l++post) (n:=l.length) hl;have e2:pre++put l.length++(lT (-1) l++post)=(pre++put l.length)++lT (-1) l++post:=by simp
 unfold gT;rw[e0,e1,if_neg (by simp)];simp only;have:=Ch l (pre++put l.length) post (-1) q0 hr h3;rw[e2,show((pre.length+(put l.length).length:Nat):Int)=((pre++put l.length).length:Int)from by simp,Int.toNat_natCast,this];simp[fc];omega
end Go.K
namespace Go.K
section
variable {P:Program} {r:Option Nat} {n:Nat} {L:Sl} {ds:List Deferred} {w:World} {K:Kt} {ops:Array Oper} {rest:List Oper} {d:Nat} {x:Operand} {ty:TypeId} {pos:String} {af:Array Edge}
theorem Rg.tg {t e:TypeId} {a:Option Addr} {l c:Nat} (ht:P.underlying t=some (.slice e)) (hx:ev L x=some (.slice a l c)) (hd:Nat.blt d n=true)
  (k:Rg P r n ops rest ((d,.int .i64 (l:Int))::L) ds w K):
  Rg P r n ops ({dst:=some d,op:= .call {callee:= .builtin .len,args:= #[x],argTypes:= #[t]},type:=ty,pos,after:=af,guard:=none}::rest) L ds w K:=by
 refine .op a05 G G hd _ w (λρ h=>?_) k;simp only[execOp,resolve,List.map_toArray,List.map_cons,List.map_nil,h x _ hx];simp[invoke,builtin,Builtin.len_,run_underlying ht,goInt]
end
end Go.K

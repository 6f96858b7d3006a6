/- What the law 'MatchParts' needs of walks and plain Lean, part 1: nothing is assumed beyond the texts that it imports. -/
import Derived.ArgAppend
import Derived.Below
import Derived.ChangeOld
import Derived.Deep.MidRow
import Derived.IntWalk
import Derived.LaidByTextLater
import Derived.LaidHandle
import Derived.LaidLaws
import Derived.LaidMore
import Derived.Laws.AppendOwn
import Derived.Laws.BytesString
import Derived.Laws.Cover3
import Derived.Laws.NewBlocks
import Derived.Laws.Pointers
import Derived.Laws.Slices
import Derived.Laws.Small
import Derived.MakeChecks
import Derived.OpenShut
import Derived.Orders
import Derived.ProofKit
import Derived.RangeFuncLeaves
import Derived.RangeFuncNested
import Derived.SevenTiedAt
import Derived.ShutString
import Derived.SizedLaws
import Derived.Stop.Joined
import Derived.TacticsIn
import Derived.WalkKit
set_option linter.unusedVariables false
set_option linter.unusedSimpArgs false
theorem G {α:Sort _} {a:α}:a=a:=rfl
theorem hV {p:Prop} (h:p:=by omega):p:=h
theorem q0 {p:Prop} (h:p:=by decide):p:=h
theorem VR {p:Prop} (h:p:=by assumption):p:=h
theorem VS {p:Prop} (h:p:=by exact (.cons G (.cons G (.cons G (.cons G .nil))))):p:=h
theorem VT {p:Prop} (h:p:=by exact ad ⟨G,G,_,G,G,bg⟩):p:=h
theorem a00 {p:Prop} (h:p:=by unfold fS;rw[fg,fC];first|omega|(rw[if_pos cK];omega)|(split<;>omega)):p:=h
theorem a01 {p:Prop} (h:p:=by unfold fS;rw[fg,fC];first|omega|(rw[if_neg cK];omega)|(split<;>omega)):p:=h
theorem a02 {p:Prop} (h:p:=by first|exact kp|exact kp.xW VR|exact kp.goN VR|exact kp.go VR (λ_ _ h=>by first|exact h|exact h.elim)):p:=h
theorem a03 {p:Prop} (h:p:=by exact (congrArg some (by kernel_rfl))):p:=h
theorem a04 {p:Prop} (h:p:=by exact (.cons G (.cons G VS))):p:=h
theorem a05 {p:Prop} (h:p:=by exact (λhk=>by have hk:_=_:=hk;omega)):p:=h
theorem a06 {p:Prop} (h:p:=by simp;omega):p:=h
theorem a07 {p:Prop} (h:p:=by exact (λ_ h=>by cases h)):p:=h
theorem a08 {p:Prop} (h:p:=by first|(exfalso;omega)|(unfold nO;repeat (first|rw[if_pos hV]|rw[if_neg hV]))):p:=h
theorem a09 {p:Prop} (h:p:=by first|(exfalso;omega)|(unfold iC;repeat (first|rw[if_pos hV]|rw[if_neg hV]))):p:=h
theorem a10 {p:Prop} (h:p:=by first|(exfalso;omega)|(unfold xm;repeat (first|rw[if_pos hV]|rw[if_neg hV]))):p:=h
theorem a11 {p:Prop} (h:p:=by exact (.cons G (.cons G (.cons G .nil)))):p:=h
theorem a13 {p:Prop} (h:p:=by exact aj G G G G (ad ⟨G,G,_,G,G,bg⟩)):p:=h
theorem a14 {p:Prop} (h:p:=by first|omega|decide):p:=h
theorem a15 {p:Prop} (h:p:=by exact (.cons G (.cons (congrArg some (by first|(show sv [97]=_;rw[if_neg GR])|(show sv q.term.2=_;rw[if_pos (cF.1 GR)]))) (.nil)))):p:=h
theorem a16 {p:Prop} (h:p:=by intro u hu;simp at hu;rcases hu with rfl|rfl<;>first|rfl|exact jX VR rfl rfl):p:=h
theorem a18 {p:Prop} (h:p:=by first|exact λk v c hv hc h=>(hR.o k v hv).jK ho q0 hc h|exact λk v c hv hc (h:c=b)=>(hR.o k v hv).fN gb q0 (h▸hc)|exact λk v c hv hc (h:c=An)=>(hR.o k v hv).fN pX q0 (h▸hc)):p:=h
theorem a19 {p:Prop} (h:p:=by exact (.cons G (.cons G (.cons G (.cons G (.cons (by first|exact MI (λh=>p6 h.1.1)|exact MI (λh=>D7 h.1.2)|exact MI (λh=>wo h.2.1)|exact J9y ⟨p6,D7⟩ wo) (.nil))))))):p:=h
theorem a30 {p:Prop} (h:p:=by exact (λ_ h=>h.elim)):p:=h
theorem a34 {p:Prop} (h:p:=by exact aT rfl rfl ⟨by rw[eo,if_neg hV],G⟩):p:=h
theorem a38 {p:Prop} (h:p:=by first|exact λh=>ho.lu hW.at_ h|exact fun(h:mb=b)=>U2 h.symm|exact fun(h:mb=An)=>by have h9:=hW.at_;rw[h,pX]at h9;cases h9):p:=h
theorem a42 {p:Prop} (h:p:=by first|exact λk hk=>by(obtain⟨cs,hc⟩:=lM.isCells hk;exact⟨cs,_,hc,by decide,by decide,by decide⟩)|exact λk (hk:k=gR)=>⟨_,_,hk▸g2,by decide,by decide,by decide⟩):p:=h
theorem a43 {p:Prop} (h:p:=by have:=gI (xs.take k);rw[bI]at this;simp;omega):p:=h
theorem a47 {p:Prop} (h:p:=by exact (.cons rfl (.cons rfl (.cons rfl (.cons (by first|rfl|(rw[Co];rfl)|(rw[Co,Ha];rfl)) (.cons rfl (.cons rfl .nil))))))):p:=h
theorem a48 {p:Prop} (h:p:=by exact (.cons G (.cons G (.cons G (.cons G (.cons G (.cons (show some (Value.int .i64 ((many:Int)-1))=some (Value.int .i64 ((many-1:Nat):Int))from by congr 2;omega) .nil))))))):p:=h
theorem a52 {p:Prop} (h:p:=by congr 1;omega):p:=h
theorem a56 {p:Prop} (h:p:=by exact aT rfl rfl ⟨by rw[eo,if_pos hV],G⟩):p:=h
theorem a61 {p:Prop} (h:p:=by exact aT G G ⟨congrArg Value.bool (decide_eq_decide.2 ⟨λh=>iL.2 ⟨lZ,vV,vW,h⟩,λe=>(iL.1 e).2.2.2⟩),S⟩):p:=h
theorem a62 {p:Prop} (h:p:=by unfold eW;rw[if_neg (by rw[BX];decide)];exact IY.le eg.le):p:=h
theorem a65 {p:Prop} (h:p:=by first|assumption|exact Step.lt VR VR|exact Step.lt VR (Step.lt VR VR)):p:=h
theorem a68 {p:Prop} (h:p:=by exact aT G G ⟨congrArg Value.bool (cY (decide_eq_false hV)),G⟩):p:=h
theorem a69 {p:Prop} (h:p:=by exact aT G G ⟨congrArg Value.bool (decide_eq_decide.2 hV),G⟩):p:=h
theorem a71 {p:Prop} (h:p:=by intro u hu;simp at hu;rcases hu with rfl|rfl|rfl|rfl|rfl<;>rfl):p:=h
theorem a73 {p:Prop} (h:p:=by exact ad ⟨G,G,_,G,vJ,bg⟩):p:=h
theorem a74 {p:Prop} (h:p:=by exact (.cons G VS)):p:=h
theorem a81 {p:Prop} (h:p:=by simp[ByteArray.size]):p:=h
theorem a83 {p:Prop} (h:p:=by exact (.cons G (.cons G .nil))):p:=h
theorem a84 {p:Prop} (h:p:=by simpa using h):p:=h
theorem a86 {p:Prop} (h:p:=by exact aT G G ⟨congrArg Value.bool (decide_eq_false (λe=>vW (iL.1 e).2.2.1)).symm,S⟩):p:=h
theorem a88 {p:Prop} (h:p:=by exact aT G G ⟨congrArg Value.bool (decide_eq_false (λe=>vV (iL.1 e).2.1)).symm,S⟩):p:=h
theorem a89 {p:Prop} (h:p:=by exact aT G G ⟨congrArg Value.bool (decide_eq_false (λe=>lZ (iL.1 e).1)).symm,S⟩):p:=h
theorem a90 {p:Prop} (h:p:=by exact λp hp=>by cases hp):p:=h
theorem a92 {p:Prop} (h:p:=by exact (.cons G a04)):p:=h
theorem a94 {p:Prop} (h:p:=by exact kM G ⟨_,hM,⟨⟨_,go,ep _ _ _ _ _⟩,⟨_,gs,hs⟩,il,jk,ZZ,Z0⟩,S⟩):p:=h
theorem a95 {p:Prop} (h:p:=by simpa using hj):p:=h
theorem a96 {p:Prop} (h:p:=by first|assumption|exact λh=>h|(intro h;have h:_=_:=h;omega)):p:=h
theorem a97 {p:Prop} (h:p:=by exact (.cons rfl (.cons rfl (.cons rfl (.cons (by first|(rw[vQ,Gw,yd,dF];rfl)|(rw[vQ,(Bool.not_eq_true _).mp Gw,eT];rfl)) (.cons rfl (.cons rfl (.cons rfl (.cons rfl (.cons rfl (.cons rfl .nil))))))))))):p:=h
theorem a98 {p:Prop} (h:p:=by obtain⟨_,_,he,_⟩:=ho.isSlice;rw[he];rfl):p:=h
theorem a99 {p:Prop} (h:p:=by intro u hu;simp at hu;rcases hu with rfl|rfl|rfl|rfl|rfl<;>first|rfl|exact jX VR rfl rfl):p:=h
theorem ab2 {p:Prop} (h:p:=by simp[List.countP_replicate]):p:=h
theorem ab3 {p:Prop} (h:p:=by first|exact(uT hV).symm|exact(oU hV).symm):p:=h
theorem ac5 {p:Prop} (h:p:=by rw[BX];decide):p:=h
theorem ac6 {p:Prop} (h:p:=by have:=eG (if orr=true then(1:Int)else 2) a b k;omega):p:=h
theorem ad0 {p:Prop} (h:p:=by exact aT rfl rfl ⟨by rw[eK,decide_eq_false (p:=1<=s.length/\s.length<=12) hV,eT],λM=>bg⟩):p:=h
theorem ae4 {p:Prop} (h:p:=by exact (.cons G (.cons G (.cons (congrArg some (by first|(show sv [116]=_;rw[eZ,if_neg (by rw[c3];decide)])|(show sv q.term.1=_;rw[eZ,if_pos (by simpa using c3)]))) (.nil))))):p:=h
theorem af1 {p:Prop} (h:p:=by rw[<-hc];exact λk h1 h2=>fh k h1 hV):p:=h
theorem af3 {p:Prop} (h:p:=by simp;have:=gZ l;rw[Dr]at this;simp at this;omega):p:=h
theorem af4 {p:Prop} (h:p:=by exact fk rfl rfl rfl ⟨⟨_,rfl,λh=>by cases h⟩,S.back⟩):p:=h
theorem af5 {p:Prop} (h:p:=by simpa using hx):p:=h
theorem af6 {p:Prop} (h:p:=by obtain⟨_,_,he,_⟩:=dX.isSlice;rw[he];rfl):p:=h
theorem af7 {p:Prop} (h:p:=by exact aT G G ⟨⟨k,Ef,yv,I8,kH hM S ho ac6⟩,S.back⟩):p:=h
theorem af8 {p:Prop} (h:p:=by rw[Zk];exact tZ.le pS.le):p:=h
theorem af9 {p:Prop} (h:p:=by first|exact .inl hV|exact .inr (.inl hV)|exact .inr (.inr VR)):p:=h
theorem ag4 {p:Prop} (h:p:=by rw[mD hV hx,decide_eq_true AT,dF];exact decide_eq_decide.2 hV):p:=h
theorem ah7 {p:Prop} (h:p:=by exact fk rfl rfl rfl ⟨_,by rw[QP,hy,decide_eq_false (λh=>AU (aG h))],G⟩):p:=h
theorem ah8 {p:Prop} (h:p:=by exact ad ⟨G,G,_,G,IX,bg⟩):p:=h
theorem ai4 {p:Prop} (h:p:=by have:=hY hf;simp;omega):p:=h
theorem aj1 {p:Prop} (h:p:=by have:=S.size;omega):p:=h
theorem aj5 {p:Prop} (h:p:=by rw[av];exact mu):p:=h
theorem ak2 {p:Prop} (h:p:=by have h1:=mi (f:=λe=>qM q.kind ((q.kids.take (i+1)).map (fJ e.1.2))) L 0;have h2:=mi (f:=λe=>fJ e.1.2 x) L 0;omega):p:=h
theorem ak5 {p:Prop} (h:p:=by intro u hu;simp at hu;rcases hu with rfl|rfl|rfl|rfl|rfl<;>first|rfl|(obtain⟨_,_,ZC,_⟩:=fh.isSlice;rw[ZC];rfl)):p:=h
theorem ak6 {p:Prop} (h:p:=by intro u hu;simp at hu;rcases hu with rfl|rfl|rfl|rfl|rfl<;>first|rfl|(obtain⟨_,_,ZC,_⟩:=py.isSlice;rw[ZC];rfl)):p:=h
theorem al3 {p:Prop} (h:p:=by simpa using hi):p:=h
theorem al4 {p:Prop} (h:p:=by intro x hx;simp at hx;rcases hx with rfl|rfl|rfl<;>rfl):p:=h
theorem al6 {p:Prop} (h:p:=by exact (.cons rfl (.cons (by first|(rw[sa hx,if_pos K5];rfl)|(rw[sa hx,if_neg K5];rfl)) (.cons rfl (.cons rfl (.cons rfl .nil)))))):p:=h
theorem al7 {p:Prop} (h:p:=by exact fk rfl rfl rfl ⟨_,by rw[QP,hy,AU,decide_eq_true rfl],rfl⟩):p:=h
theorem al8 {p:Prop} (h:p:=by rw[lU];decide):p:=h
theorem al9 {p:Prop} (h:p:=by unfold UF bit;rw[decide_eq_true kZ,dF,av,Nat.testBit_eq_decide_div_mod_eq];exact decide_eq_decide.2 hV):p:=h
theorem am1 {p:Prop} (h:p:=by rw[<-hc];congr 1;omega):p:=h
theorem am2 {p:Prop} (h:p:=by kernel_rfl):p:=h
theorem am3 {p:Prop} (h:p:=by simp[binOp,Op.intArith,IntWalk.i64_in _ hb]):p:=h
theorem am4 {p:Prop} (h:p:=by rintro(h|h)<;>first|exact absurd h VR|omega):p:=h
theorem am5 {p:Prop} (h:p:=by show¬k=1;have hk:k=2\/k=3\/k=4:=hk;omega):p:=h
theorem an5 {p:Prop} (h:p:=by show¬k=5;have hk:k=2\/k=3\/k=4:=hk;omega):p:=h
theorem an7 {p:Prop} (h:p:=by simp only;omega):p:=h
theorem an8 {p:Prop} (h:p:=by rw[iD];rintro⟨h,_⟩;exact h (cG.1 hV)):p:=h
theorem an9 {p:Prop} (h:p:=by simpa[Nat.blt_eq]using VV):p:=h
theorem ao2 {p:Prop} (h:p:=by exact aT G G ⟨G,G⟩):p:=h
theorem ao4 {p:Prop} (h:p:=by exact GL (zC ⟨by decide,by decide⟩ ⟨Bq,Zy⟩ ib)):p:=h
theorem ao5 {p:Prop} (h:p:=by rw[iD];rintro⟨_,_,h,_⟩;exact c2 h):p:=h
theorem aA {α:Type} {c:α} {P:α->Prop} (h:P c):∀x,x=c->P x:=λx hx=>hx▸h
namespace Go.K
abbrev Sl:=List (Nat×Value)
def lk:Sl->Nat->Option Value
 |[],_=>none
 |(k,v)::l,t=>bif Nat.beq k t then some v else lk l t
structure jf (n:Nat) (a:Act) (L:Sl) (ds:List Deferred):Prop where
 size:n<=a.tmps.size
 defers:a.defers=ds
 at_:∀t v,lk L t=some v->a.tmps[t]? =some v
def ev (L:Sl):Operand->Option Value
 |.tmp t=>lk L t
 |.const v=>some v
 |.global g=>some (.pointer (some ⟨g,0,none⟩))
 |.func f=>some (.func (.func f) #[] #[])
theorem jf.eval {n a L ds} (h:jf n a L ds) {x:Operand} {v:Value} (hx:ev L x=some v):a.eval x=v:=by
 cases x with
 |tmp t=>simp only[ev]at hx;simp[Act.eval,h.at_ t v hx]
 |const u=>simp only[ev]at hx;cases hx;rfl
 |global g=>simp only[ev]at hx;cases hx;rfl
 |func f=>simp only[ev]at hx;cases hx;rfl
theorem jf.put {n a L ds} (h:jf n a L ds) {d:Nat} (hd:d<n) (v:Value):jf n (a.put (some d) v) ((d,v)::L) ds:=by
 refine⟨?_,h.defers,?_⟩
 ·simp only[Act.put,Array.size_setIfInBounds];exact h.size
 ·intro t u ht;simp only[lk]at ht;have hs:=h.size;by_cases e:d=t
  ·subst e;simp only[Nat.beq_refl,cond_true]at ht
   cases ht;simp only[Act.put];rw[Array.getElem?_setIfInBounds];simp;omega
  ·have e':Nat.beq d t=false:=by
    cases hb:Nat.beq d t with
    |false=>rfl
    |true=>exact absurd (Nat.eq_of_beq_eq_true hb) e
   rw[e']at ht;simp only[cond_false]at ht;simp only[Act.put];rw[Array.getElem?_setIfInBounds,if_neg e];exact h.at_ t u ht
def Sub:Sl->Sl->Prop
 |[],_=>True
 |(t,v)::A,B=>lk B t=some v/\Sub A B
theorem Sub.nil {B:Sl}:Sub [] B:=trivial
theorem Sub.cons {t:Nat} {v:Value} {A B:Sl} (h:lk B t=some v) (h':Sub A B):Sub ((t,v)::A) B:=⟨h,h'⟩
theorem Sub.lk {A B:Sl} (h:Sub A B) {t:Nat} {v:Value} (ht:lk A t=some v):lk B t=some v:=by
 induction A with
 |nil=>simp[K.lk]at ht
 |cons p A ih=>
  obtain⟨k,u⟩:=p;obtain⟨h1,h2⟩:=h;simp only[K.lk]at ht
  cases hb:Nat.beq k t with
  |true=>
   rw[hb]at ht;simp only[cond_true]at ht;cases ht;rw[<-Nat.eq_of_beq_eq_true hb];exact h1
  |false=>rw[hb]at ht;exact ih h2 ht
theorem jf.sub {n a A B ds} (h:jf n a B ds) (hs:Sub A B):jf n a A ds:=⟨h.size,h.defers,λt v ht=>h.at_ t v (hs.lk ht)⟩
abbrev FW (r:Option Nat):Fence:={Fence.wide with round:=r}
abbrev Kt:=Exit->Sl->List Deferred->World->Prop
def up (n:Nat) (K:Kt):Exit->Act->World->Prop:=λe a w=>∃L ds,jf n a L ds/\K e L ds w
structure T (P:Program) (r:Option Nat) (n:Nat) (c:Code) (L:Sl) (ds:List Deferred) (w:World) (K:Kt):Prop where
 run:∀a,jf n a L ds->c.wpIn (FW r) 0 P (up n K) a w
structure Rg (P:Program) (r:Option Nat) (n:Nat) (ops:Array Oper) (rest:List Oper) (L:Sl) (ds:List Deferred) (w:World) (K:Kt):Prop where
 run:∀a,jf n a L ds->wpListIn (FW r) 0 P ops (up n K) rest a w
@[reducible] def C0 (k:Sl->List Deferred->World->Prop) (K:Kt):Kt
 |.normal,L,ds,w=>k L ds w
 |e,L,ds,w=>K e L ds w
@[reducible] def qX (id:Nat) (K:Kt):Kt
 |.exit id',L,ds,w=>if id'=id then K .normal L ds w else K (.exit id') L ds w
 |e,L,ds,w=>K e L ds w
section
variable {P:Program} {r:Option Nat} {n:Nat} {L:Sl} {ds:List Deferred} {w:World} {K:Kt}
theorem T.mono {c:Code} {K':Kt} (h:T P r n c L ds w K) (hK:∀e L ds w,K e L ds w->K' e L ds w):T P r n c L ds w K':=
 ⟨λa ha=>wpIn_mono (h.run a ha) λ_ _ _ ⟨L,ds,h1,h2⟩=>⟨L,ds,h1,hK _ _ _ _ h2⟩⟩
theorem T.weaken {c:Code} (L':Sl) (hs:Sub L' L) (h:T P r n c L' ds w K):T P r n c L ds w K:=⟨λa ha=>h.run a (ha.sub hs)⟩
theorem T.skip (h:K .normal L ds w):T P r n .skip L ds w K:=⟨λa ha=>wpIn_skip ⟨L,ds,ha,h⟩⟩
theorem T.exit {id:Nat} (h:K (.exit id) L ds w):T P r n (.exit id) L ds w K:=⟨λa ha=>wpIn_exit ⟨L,ds,ha,h⟩⟩
theorem T.ret (h:K .ret L ds w):T P r n .ret L ds w K:=⟨λa ha=>wpIn_ret ⟨L,ds,ha,h⟩⟩
theorem T.seq {x y:Code} (h:T P r n x L ds w (C0 (λL ds w=>T P r n y L ds w K) K)):T P r n (.seq x y) L ds w K:=by
 refine⟨λa ha=>wpIn_seq (wpIn_mono (h.run a ha) ?_)⟩;rintro e a' w' ⟨L',qv,si,hK⟩
 cases e with
 |normal=>exact hK.run a' si
 |exit id=>exact⟨L',qv,si,hK⟩
 |goto id=>exact⟨L',qv,si,hK⟩
 |ret=>exact⟨L',qv,si,hK⟩
 |panic c=>exact⟨L',qv,si,hK⟩
 |outgrown=>exact⟨L',qv,si,hK⟩
theorem T.block {id:Nat} {c:Code} (h:T P r n c L ds w (qX id K)):T P r n (.block id c) L ds w K:=by
 refine⟨λa ha=>wpIn_block (wpIn_mono (h.run a ha) ?_)⟩;rintro e a' w' ⟨L',qv,si,hK⟩
 cases e with
 |normal=>exact⟨L',qv,si,hK⟩
 |exit id'=>
  simp only[Exit.inBlock];simp only[qX]at hK
  split
  ·rename_i e';rw[if_pos e']at hK;exact⟨L',qv,si,hK⟩
  ·rename_i e';rw[if_neg e']at hK;exact⟨L',qv,si,hK⟩
 |goto id=>exact⟨L',qv,si,hK⟩
 |ret=>exact⟨L',qv,si,hK⟩
 |panic c=>exact⟨L',qv,si,hK⟩
 |outgrown=>exact⟨L',qv,si,hK⟩
theorem T.cond {c:Operand} {x y:Code} {b:Bool} (hc:ev L c=some (.bool b)) (ht:b=true->T P r n x L ds w K) (hf:b=false->T P r n y L ds w K):
  T P r n (.cond c x y) L ds w K:=by
 refine ⟨λa ha=> ?_⟩;have:=ha.eval hc
 cases b with
 |true=>exact wpIn_cond_true this ((ht rfl).run a ha)
 |false=>exact wpIn_cond_false this ((hf rfl).run a ha)
theorem T.dE {c:Operand} {x y:Code} {p:Prop} [Decidable p] (hc:ev L c=some (.bool (decide p))) (ht:p->T P r n x L ds w K) (hf: ¬p->T P r n y L ds w K):
  T P r n (.cond c x y) L ds w K:= .cond hc (λh=>ht (of_decide_eq_true h)) (λh=>hf (of_decide_eq_false h))
theorem T.nM {c:Operand} {x y:Code} (hc:ev L c=some (.bool true)) (ht:T P r n x L ds w K):T P r n (.cond c x y) L ds w K:= .cond hc (λ_=>ht) (λh=>by cases h)
theorem T.iff {c:Operand} {x y:Code} (hc:ev L c=some (.bool false)) (hf:T P r n y L ds w K):T P r n (.cond c x y) L ds w K:= .cond hc (λh=>by cases h) (λ_=>hf)
theorem least {σ:Type} (m:σ->Nat) (p:σ->Prop):(∃s,p s)->∃s,p s/\∀s',p s'→m s<=m s':=by
 have key:∀k s,m s=k->p s->∃s,p s/\∀s',p s'→m s<=m s':=by
  intro k
  induction k using Nat.strongRecOn with
  |_ k ih=>
   intro s hs hp;by_cases h:∃s',p s'∧m s'<k
   ·obtain⟨s',VU,eU⟩:=h;exact ih (m s') eU s' G VU
   ·exact⟨s,hp,λs' VU=>by
     rcases Nat.lt_or_ge (m s') (m s)with h'|h'
     ·exact absurd ⟨s',VU,hs▸h'⟩ h
     ·exact h'⟩
 rintro⟨s,hp⟩;exact key _ s G hp
theorem T.loop {σ:Type} {c:Code} (Lf:σ->Sl) (I:σ->World->Prop) (m:σ->Nat) (s0:σ) (hL:Sub (Lf s0) L) (h0:I s0 w)
  (round:∀s w,I s w->T P r n c (Lf s) ds w (C0 (λL' qv w'=>qv=ds/\∃s',Sub (Lf s') L'∧I s' w'∧m s'<m s) K)):T P r n (.loop c) L ds w K:=by
 classical
 refine ⟨λa ha=> ?_⟩
 let J:σ->Act->World->Prop:=λs a w=>jf n a (Lf s) ds/\I s w
 let μ:Act->World->Nat:=λa w=>if h:∃s,J s a w then m (Classical.choose (least m (J · a w) h))else 0
 refine wpIn_loop (λa w=>∃s,J s a w) μ ⟨s0,ha.sub hL,h0⟩ ?_;rintro a w hJ;have hc:=Classical.choose_spec (least m (J · a w) hJ);have hμ:μ a w=m (Classical.choose (least m (J · a w) hJ)):=by simp only[μ];rw[dif_pos hJ]
 rw[hμ];generalize Classical.choose (least m (J · a w) hJ)=s at hc;obtain⟨⟨hs,hi⟩,_⟩:=hc;refine wpIn_mono ((round s w hi).run a hs) ?_;rintro e a' w' ⟨L',qv,si,hK⟩
 cases e with
 |normal=>
  obtain⟨rfl,s',aam,lC,eU⟩:=hK;have hJ':∃s,J s a' w':=⟨s',si.sub aam,lC⟩;refine ⟨hJ',?_⟩;have h2:=(Classical.choose_spec (least m (J · a' w') hJ')).2 s' ⟨si.sub aam,lC⟩;simp only[μ];rw[dif_pos hJ'];omega
 |exit id=>exact⟨L',qv,si,hK⟩
 |goto id=>exact⟨L',qv,si,hK⟩
 |ret=>exact⟨L',qv,si,hK⟩
 |panic c=>exact⟨L',qv,si,hK⟩
 |outgrown=>exact⟨L',qv,si,hK⟩
theorem T.region {id:Nat} {l:List Oper} (h:Rg P r n l.toArray l L ds w K):T P r n (.region id l.toArray false) L ds w K:=
 ⟨λa ha=>wpIn_region_lit (h.run a ha)⟩
variable {ops:Array Oper} {rest:List Oper} {o:Oper}
theorem Rg.nil (h:K .normal L ds w):Rg P r n ops [] L ds w K:=⟨λ_ ha=>wpListIn_nil ⟨L,ds,ha,h⟩⟩
theorem Jd (nN:∀c,o.op≠ .defer c) {a:Act} {next:Act->World->Prop} {Q:Exit->Act->World->Prop}
  (h:o.uponIn (FW r) 0 P a next Q ((execOp a.eval o).run P w)):o.wpIn (FW r) 0 P a w next Q:=
 ⟨λ_ _=>trivial,by rw[Oper.semAt_eq _ _ _ nN];exact h⟩
theorem Rg.op (nN:∀c,o.op≠ .defer c) (hg:o.guard=none) {d:Nat} (hd:o.dst=some d) (VV:Nat.blt d n=true) (v:Value) (w':World)
  (jg:∀ρ:Operand->Value,(∀x u,ev L x=some u->ρ x=u)->(execOp ρ o).run P w= .ok (.value v) w')
  (h:Rg P r n ops rest ((d,v)::L) ds w' K):Rg P r n ops (o::rest) L ds w K:=by
 refine ⟨λa ha=>wpListIn_plain hg λK' RQ=>Jd nN ?_⟩;rw[jg a.eval (λx u hx=>ha.eval hx),Oper.uponIn_value,hd];exact RQ _ _ (h.run _ (ha.put an9 v))
theorem Rg.VW (nN:∀c,o.op≠ .defer c) (hg:o.guard=none) (hd:o.dst=none) (w':World)
  (jg:∀ρ:Operand->Value,(∀x u,ev L x=some u->ρ x=u)->(execOp ρ o).run P w= .ok .skip w')
  (h:Rg P r n ops rest L ds w' K):Rg P r n ops (o::rest) L ds w K:=by
 refine ⟨λa ha=>wpListIn_plain hg λK' RQ=>Jd nN ?_⟩;rw[jg a.eval (λx u hx=>ha.eval hx),Oper.uponIn_skip,hd];exact RQ _ _ (h.run _ ha)
def Spec (P:Program) (f:FuncId) (args:Array Value) (w:World) (Q:Value->World->Prop):Prop:=
 Calls P f args w λe w'=>∃v,e= .returned v/\Q v w'
theorem Spec.mono {f:FuncId} {args:Array Value} {Q Q':Value->World->Prop} (h:Spec P f args w Q) (hq:∀v w',Q v w'→Q' v w'):Spec P f args w Q':=
 Calls.mono h λ_ _ ⟨v,he,hv⟩=>⟨v,he,hq _ _ hv⟩
theorem Rg.MK (nN:∀c,o.op≠ .defer c) (hg:o.guard=none) {d:Nat} (hd:o.dst=some d) (VV:Nat.blt d n=true) {f:FuncId} {args:Array Value} {w1:World} {Q:Value->World->Prop}
  (jg:∀ρ:Operand->Value,(∀x u,ev L x=some u->ρ x=u)->(execOp ρ o).run P w= .ok (.enter f args) w1)
  (hs:Spec P f args w1 Q) (h:∀v w',Q v w'→Rg P r n ops rest ((d,v)::L) ds w' K):Rg P r n ops (o::rest) L ds w K:=by
 refine ⟨λa ha=>wpListIn_plain hg λK' RQ=>Jd nN ?_⟩;rw[jg a.eval (λx u hx=>ha.eval hx),Oper.uponIn_enter,hd];refine ⟨λh=>by simp[FW,Fence.wide]at h,?_⟩
 have hc:CallsIn (FW r) (0-1) P f args w1 λe w'=>∃v,e= .returned v/\Q v w':=by
  cases r with
  |none=>exact callsIn_wide.2 hs
  |some l=>exact CallsIn.inRound l (callsIn_wide.2 hs)
 refine hc.mono ?_;rintro e w' ⟨v,rfl,hv⟩;exact RQ _ _ ((h v w' hv).run _ (ha.put an9 v))
def y5 (ops:Array Oper) (j:Nat):Option Nat:=(ops[j]?).bind (·.dst)
theorem y6 {a:Act} (ha:jf n a L ds) {j g:Nat} {b:Bool} (hj:y5 ops j=some g) (hb:lk L g=some (.bool b)):yielded ops a.tmps j=some b:=by
 unfold yielded;unfold y5 at hj;rw[hj];simp[ha.at_ g _ hb]
theorem Rg.VX {g:Nat} {b:Bool} (hb:lk L g=some (.bool b)) (ht:b=true->Rg P r n ops rest ((g,.bool true)::L) ds w K) (hf:b=false->Rg P r n ops rest ((g,.bool false)::L) ds w K):
  Rg P r n ops rest L ds w K:=by
 have key:∀c,b=c->∀t v,lk ((g,.bool c)::L) t=some v->lk L t=some v:=by
  rintro c rfl t v h;simp only[lk]at h
  cases hbq:Nat.beq g t with
  |true=>rw[hbq]at h;simp only[cond_true]at h;rw[<-Nat.eq_of_beq_eq_true hbq,hb];exact h
  |false=>rw[hbq]at h;exact h
 refine ⟨λa ha=> ?_⟩
 cases b with
 |true=>exact(ht rfl).run a ⟨ha.size,ha.defers,λt v h=>ha.at_ t v (key true rfl t v h)⟩
 |false=>exact(hf rfl).run a ⟨ha.size,ha.defers,λt v h=>ha.at_ t v (key false rfl t v h)⟩
theorem Rg.aY {g:Nat} {p:Prop} [Decidable p] (hb:lk L g=some (.bool (decide p))) (ht:p->Rg P r n ops rest ((g,.bool true)::L) ds w K) (hf: ¬p->Rg P r n ops rest ((g,.bool false)::L) ds w K):
  Rg P r n ops rest L ds w K:= .VX hb (λh=>ht (of_decide_eq_true h)) (λh=>hf (of_decide_eq_false h))
theorem Rg.ML {g:Nat} {p:Prop} [Decidable p] (hb:lk L g=some (.bool (decide p))) (hp:p) (k:Rg P r n ops rest ((g,.bool true)::L) ds w K):Rg P r n ops rest L ds w K:=
 .aY hb (λ_=>k) (λh=>absurd hp h)
theorem Rg.G5 {g:Nat} {p:Prop} [Decidable p] (hb:lk L g=some (.bool (decide p))) (hp: ¬p) (k:Rg P r n ops rest ((g,.bool false)::L) ds w K):Rg P r n ops rest L ds w K:=
 .aY hb (λh=>absurd h hp) (λ_=>k)
theorem T.agh {c:Operand} {x y:Code} {p:Prop} [Decidable p] (hc:ev L c=some (.bool (decide p))) (hp:p) (h:T P r n x L ds w K):T P r n (.cond c x y) L ds w K:= .dE hc (λ_=>h) (λh=>absurd hp h)
theorem T.MM {c:Operand} {x y:Code} {p:Prop} [Decidable p] (hc:ev L c=some (.bool (decide p))) (hp: ¬p) (h:T P r n y L ds w K):T P r n (.cond c x y) L ds w K:= .dE hc (λh=>absurd h hp) (λ_=>h)
theorem Rg.az {dst:Option Nat} {op:Op} {ty:TypeId} {pos:String} {af:Array Edge} {j g:Nat} {b:Bool} (hj:y5 ops j=some g) (hb:lk L g=some (.bool b))
  (h:Rg P r n ops ({dst,op,type:=ty,pos,after:=af,guard:=none}::rest) L ds w K):Rg P r n ops ({dst,op,type:=ty,pos,after:=af,guard:=some (j,b)}::rest) L ds w K:=by
 refine ⟨λa ha=> ?_⟩;have h1:=h.run a ha;have hy:=y6 ha hj hb;simp only[wpListIn,Region.wanted,if_true]at h1;simp only[wpListIn,Region.wanted,hy,beq_self_eq_true,if_true];exact h1
theorem Rg.bF {d:Nat} {op:Op} {ty:TypeId} {pos:String} {af:Array Edge} {j g:Nat} {b c:Bool} (hj:y5 ops j=some g) (hb:lk L g=some (.bool b)) (fB:(b==c)=false)
  (VV:Nat.blt d n=true) (h:Rg P r n ops rest ((d,undef)::L) ds w K):Rg P r n ops ({dst:=some d,op,type:=ty,pos,after:=af,guard:=some (j,c)}::rest) L ds w K:=by
 refine ⟨λa ha=> ?_⟩;have hy:=y6 ha hj hb;have VY:b≠c:=by simpa using fB
 simp only[wpListIn,Region.wanted,hy];rw[if_neg (by simpa using VY)];exact⟨λ_ _=>trivial,h.run _ (ha.put an9 undef)⟩
end
section
variable {P:Program} {r:Option Nat} {n:Nat} {L:Sl} {ds:List Deferred} {w:World} {K:Kt} {ops:Array Oper} {rest:List Oper}
theorem Bx {a:Act} (ha:jf n a L ds) {j g:Nat} (hj:y5 ops j=some g) (hb:lk L g=some undef):yielded ops a.tmps j=none:=by
 unfold yielded;unfold y5 at hj;rw[hj];simp[ha.at_ g _ hb,undef]
theorem Rg.dr {d:Nat} {op:Op} {ty:TypeId} {pos:String} {af:Array Edge} {j g:Nat} {c:Bool} (hj:y5 ops j=some g) (hb:lk L g=some undef)
  (VV:Nat.blt d n=true) (h:Rg P r n ops rest ((d,undef)::L) ds w K):Rg P r n ops ({dst:=some d,op,type:=ty,pos,after:=af,guard:=some (j,c)}::rest) L ds w K:=by
 refine ⟨λa ha=> ?_⟩;have hy:=Bx ha hj hb;simp only[wpListIn,Region.wanted,hy];rw[if_neg (by simp)];exact⟨λ_ _=>trivial,h.run _ (ha.put an9 undef)⟩
end
def wM:Nat->List Value->Sl
 |_,[]=>[]
 |i,v::l=>(i,v)::wM (i+1) l
theorem B1 (l:List Value):∀(i t:Nat) (v:Value),lk (wM i l) t=some v->i<=t/\l[t-i]? =some v:=by
 induction l with
 |nil=>intro i t v h;simp[wM,lk]at h
 |cons u l ih=>
  intro i t v h;simp only[wM,lk]at h
  cases hb:Nat.beq i t with
  |true=>
   rw[hb]at h;simp only[cond_true]at h;cases h;have:=Nat.eq_of_beq_eq_true hb;subst this;exact⟨Nat.le_refl _,by simp⟩
  |false=>
   rw[hb]at h;obtain⟨h1,h2⟩:=ih (i+1) t v h;refine ⟨by omega,?_⟩;rw[show t-i=(t-(i+1))+1 from by omega];simpa using h2
def yu (P:Program) (fn:Func) (Q:Value->World->Prop):Kt
 |.normal,L,ds,w| .ret,L,ds,w=>ds=[]/\∀a:Act,(∀t v,lk L t=some v->a.tmps[t]? =some v)->∃v,(results fn a.tmps).run P w= .ok v w/\Q v w
 |_,_,_,_=>False
theorem bD {P:Program} {f:FuncId} {fn:Func} {c:Code} {args:List Value} {w:World} {Q:Value->World->Prop} (hf:P.funcs[f]? =some fn) (hb:fn.body=some c) {n:Nat} (hn:fn.ntmps=n)
  (h:T P none n c (wM 0 args) [] w (yu P fn Q)):Spec P f args.toArray w Q:=by
 refine(callsIn_wide (n:=0)).1 (callsIn_of_wp hf hb trivial ?_);refine wpIn_mono (h.run _ ⟨?_,G,?_⟩) ?_
 ·simp[hn];omega
 ·intro t v ht;obtain⟨_,h2⟩:=B1 args 0 t v ht;simp only[Nat.sub_zero]at h2;have eU:t<args.length:=(List.getElem?_eq_some_iff.1 h2).1;simp only;rw[Array.getElem?_append_left (by simpa using eU)];simpa using h2
 ·rintro e a w' ⟨L,ds,ha,hK⟩
  cases e with
  |normal=>obtain⟨h1,h2⟩:=hK;obtain⟨v,h3,h4⟩:=h2 a ha.at_;exact⟨ha.defers.trans h1,v,h3,v,G,h4⟩
  |ret=>obtain⟨h1,h2⟩:=hK;obtain⟨v,h3,h4⟩:=h2 a ha.at_;exact⟨ha.defers.trans h1,v,h3,v,G,h4⟩
  |exit id=>exact hK.elim
  |goto id=>exact hK.elim
  |panic c=>exact hK.elim
  |outgrown=>exact hK.elim
section
variable {P:Program} {fn:Func} {L:Sl} {w:World} {Q:Value->World->Prop}
theorem aT {t:Nat} {v:Value} (hr:fn.results= #[.tmp t]) (hv:lk L t=some v) (h:Q v w):
  yu P fn Q .ret L [] w:=
 ⟨rfl,λa ha=>⟨v,by simp[results,hr,ha t v hv],h⟩⟩
theorem Ei (hr:fn.results= #[]) (h:Q (.tuple #[]) w):
  yu P fn Q .ret L [] w:=
 ⟨rfl,λa ha=>⟨_,by simp[results,hr],h⟩⟩
theorem fk {t u:Nat} {x y:Value} (hr:fn.results= #[.tmp t,.tmp u]) (hx:lk L t=some x) (hy:lk L u=some y) (h:Q (.tuple #[x,y]) w):
  yu P fn Q .ret L [] w:=
 ⟨rfl,λa ha=>⟨_,by simp[results,hr,ha _ _ hx,ha _ _ hy],h⟩⟩
theorem sK {t u s:Nat} {x y z:Value} (hr:fn.results= #[.tmp t,.tmp u,.tmp s]) (hx:lk L t=some x) (hy:lk L u=some y) (hz:lk L s=some z) (h:Q (.tuple #[x,y,z]) w):
  yu P fn Q .ret L [] w:=
 ⟨rfl,λa ha=>⟨_,by simp[results,hr,ha _ _ hx,ha _ _ hy,ha _ _ hz],h⟩⟩
end
section
variable {P:Program} {r:Option Nat} {n:Nat} {L:Sl} {ds:List Deferred} {w:World} {K:Kt} {ops:Array Oper}
theorem Rg.dI {F:Sl->Prop} (h:F L):Rg P r n ops [] L ds w (λe L' qv w'=>e=.normal/\qv=ds/\w'=w/\F L'):=Rg.nil ⟨rfl,rfl,rfl,h⟩
theorem T.aU {id:Nat} {l:List Oper} {y:Code} (h:Rg P r n l.toArray l L ds w (C0 (λL ds w=>T P r n y L ds w K) K)):T P r n (.seq (.region id l.toArray false) y) L ds w K:=T.seq (T.region h)
end
end Go.K
namespace Go.K
open Go.RowKit (Below)
abbrev aP:=Nat->Prop
def aH:aP:=λ_=>False
def ins (M:aP) (b:Nat):aP:=λk=>k=b\/M k
def Le (M:aP) (w:World) (M':aP) (w':World):Prop:=∀b,b<w.heap.size->¬M b->¬M' b/\w'.heap[b]? =w.heap[b]?
theorem ah {w:World} {b:Nat} {o:Obj} (h:w.heap[b]? =some o):b<w.heap.size:=(Array.getElem?_eq_some_iff.1 h).1
theorem Le.refl (M:aP) (w:World):Le M w M w:=λ_ _ h=>⟨h,rfl⟩
theorem Le.trans {M1 M2 M3:aP} {w1 w2 w3:World} (h:Le M1 w1 M2 w2) (h':Le M2 w2 M3 w3):Le M1 w1 M3 w3:=λb hb hm=>by
 obtain⟨h1,h2⟩:=h b hb hm
 have yv:b<w2.heap.size:=by
  have:w1.heap[b]? =some w1.heap[b]:=Array.getElem?_eq_getElem hb;exact ah (h2.trans this)
 obtain⟨h3,h4⟩:=h' b yv h1;exact⟨h3,h4.trans h2⟩
def Lt (M:aP) (w:World):Prop:=∀b,M b->b<w.heap.size
theorem Lt.none (w:World):Lt aH w:=λ_ h=>h.elim
structure Step (M:aP) (w:World) (M':aP) (w':World) (N:aP):Prop where
 lt:Lt M w->Lt M' w'
 os:w'.os=w.os
 tape:w'.tape=w.tape
 output:w'.output=w.output
 size:w.heap.size<=w'.heap.size
 mem:∀b,b<w.heap.size->(M' b↔M b)
 same:∀b,b<w.heap.size->¬N b->w'.heap[b]? =w.heap[b]?
 sub:∀b,N b->M b
theorem Step.refl (M:aP) (w:World):Step M w M w aH:=⟨id,rfl,rfl,rfl,Nat.le_refl _,λ_ _=>Iff.rfl,λ_ _ _=>rfl,λ_ h=>h.elim⟩
theorem Step.le {M M' N:aP} {w w':World} (h:Step M w M' w' N):Le M w M' w':=λb hb hm=>⟨λD8=>hm ((h.mem b hb).1 D8),h.same b hb λhn=>hm (h.sub b hn)⟩
theorem Step.trans {M1 M2 M3 N N':aP} {w1 w2 w3:World} (h:Step M1 w1 M2 w2 N) (h':Step M2 w2 M3 w3 N') (hN:∀b,b<w1.heap.size->N' b->N b):Step M1 w1 M3 w3 N:=
 ⟨λh0=>h'.lt (h.lt h0),h'.os.trans h.os,h'.tape.trans h.tape,h'.output.trans h.output,Nat.le_trans h.size h'.size,
  λb hb=>(h'.mem b (Nat.lt_of_lt_of_le hb h.size)).trans (h.mem b hb),
  λb hb hn=>(h'.same b (Nat.lt_of_lt_of_le hb h.size) (λh2=>hn (hN b hb h2))).trans (h.same b hb hn),h.sub⟩
theorem Step.ar {M1 M2 M3 N:aP} {w1 w2 w3:World} (h:Step M1 w1 M2 w2 N) (h':Step M2 w2 M3 w3 aH):Step M1 w1 M3 w3 N:=h.trans h' λ_ _ h=>h.elim
theorem Step.eE {M M' N N':aP} {w w':World} (h:Step M w M' w' N) (hN:∀b,N b->N' b) (hs:∀b,N' b->M b):Step M w M' w' N':=
 ⟨h.lt,h.os,h.tape,h.output,h.size,h.mem,λb hb hn=>h.same b hb λh2=>hn (hN b h2),hs⟩
theorem Step.any {M M':aP} {w w':World} (h:Step M w M' w' aH) (M1:aP):Step M1 w M1 w' aH:=
 ⟨λh0 b hb=>Nat.lt_of_lt_of_le (h0 b hb) h.size,h.os,h.tape,h.output,h.size,λ_ _=>Iff.rfl,h.same,λ_ h=>h.elim⟩
theorem Step.back {M M' N:aP} {w w':World} (h:Step M w M' w' N):Step M w M w' N:=⟨λh0 b hb=>Nat.lt_of_lt_of_le (h0 b hb) h.size,h.os,h.tape,h.output,h.size,λ_ _=>Iff.rfl,h.same,h.sub⟩
theorem Step.below {M:aP} {M':aP} {w w':World} (h:Step M w M' w' aH):Below w.heap.size w w':=⟨h.os,h.tape,h.output,h.size,λk hk=>h.same k hk λh=>h.elim⟩
theorem Step.aF {M M':aP} {w w':World} (h:Step M w M' w' aH) {b:Nat} {o:Obj} (hb:w.heap[b]? =some o):w'.heap[b]? =some o:=(h.same b (ah hb) λh=>h.elim).trans hb
theorem Step.bY {M M' N:aP} {w w':World} (h:Step M w M' w' N) {b:Nat} {o:Obj} (hb:w.heap[b]? =some o) (hn: ¬N b):w'.heap[b]? =some o:=(h.same b (ah hb) hn).trans hb
theorem Le.close {M0 M N:aP} {w0 w:World} (hl:Lt M0 w0) (s:Step M0 w0 M w N):Le M w M0 w:=λb _ hm=>
 ⟨λh0=>hm ((s.mem b (hl b h0)).2 h0),rfl⟩
theorem ef (M:aP) (w:World) (o:Obj):Step M w M (w.alloc o) aH:=
 ⟨λh b hb=>Nat.lt_of_lt_of_le (h b hb) (by simp),rfl,rfl,rfl,by simp,λ_ _=>Iff.rfl,λk hk _=>Below.heap_alloc w o k hk,λ_ h=>h.elim⟩
theorem oI (M:aP) (w:World):Step M w M w.drew aH:=⟨λh=>h,rfl,rfl,rfl,Nat.le_refl _,λ_ _=>Iff.rfl,λ_ _ _=>rfl,λ_ h=>h.elim⟩
theorem Step.own {M M' N:aP} {w w':World} (s:Step M w M' w' N) {b:Nat} (hb:w.heap.size<=b) (D9:b<w'.heap.size):Step M w (ins M' b) w' N:=
 ⟨λh k hk=>by
  rcases hk with rfl|hk
  ·exact D9
  ·exact s.lt h k hk,s.os,s.tape,s.output,s.size,λk hk=>⟨λh=>by
  rcases h with rfl|h
  ·omega
  ·exact(s.mem k hk).1 h,λh=> .inr ((s.mem k hk).2 h)⟩,s.same,s.sub⟩
structure RT (α:Type) where
 n:Nat
 agg:Bool
 R:aP->World->α->List Value->Prop
 len:∀{M w x vs},R M w x vs->vs.length=n
 one:∀{M w x vs},R M w x vs->∀v∈vs,v.oneCell'=true
 le:∀{M w M' w' x vs},Le M w M' w'→R M w x vs->R M' w' x vs
def RT.val {α:Type} (A:RT α) (vs:List Value):Value:=if A.agg then .agg vs.toArray else vs.headD undef
def RT.V {α:Type} (A:RT α) (M:aP) (w:World) (x:α) (v:Value):Prop:=∃vs,A.R M w x vs/\v=A.val vs
theorem RT.V.le {α:Type} {A:RT α} {M M':aP} {w w':World} {x:α} {v:Value} (hl:Le M w M' w') (h:A.V M w x v):A.V M' w' x v:=by
 obtain⟨vs,h1,h2⟩:=h;exact⟨vs,A.le hl h1,h2⟩
def RT.int (k:IntKind):RT Int where
 n:=1
 agg:=false
 R:=λ_ _ x vs=>vs=[.int k x]/\k.min<=x/\x<=k.max
 len:=by rintro _ _ x vs ⟨rfl,_⟩;rfl
 one:=by rintro _ _ x vs ⟨rfl,_⟩ v hv;simp at hv;subst hv;rfl
 le:=λ_ h=>h
def RT.u8:RT UInt8 where
 n:=1
 agg:=false
 R:=λ_ _ x vs=>vs=[.int .u8 x.toNat]
 len:=by rintro _ _ x vs rfl;rfl
 one:=by rintro _ _ x vs rfl v hv;simp at hv;subst hv;rfl
 le:=λ_ h=>h
def RT.str:RT (List UInt8) where
 n:=1
 agg:=false
 R:=λ_ _ x vs=>vs=[.string ⟨x.toArray⟩]/\x.length<=140737488355328
 len:=by rintro _ _ x vs ⟨rfl,_⟩;rfl
 one:=by rintro _ _ x vs ⟨rfl,_⟩ v hv;simp at hv;subst hv;rfl
 le:=λ_ h=>h
theorem tp {M M':aP} {w w':World} (hl:Le M w M' w') {b o:Nat} {vs:List Value} (hm: ¬M b) (h:w.rangeAt b o vs):w'.rangeAt b o vs:=by
 intro j v hv;have hc:=h j v hv;have hb:b<w.heap.size:=World.block_lt_of_cell? w ⟨b,o+j,none⟩ hc;rw[World.cell?_of_block (w:=w) (hl b hb hm).2];exact hc
def wN {α:Type} (A:RT α) (M:aP) (w:World) (a:Option Addr) (xs:List α):Prop:=
 xs=[]\/∃b o,a=some ⟨b,o,none⟩/\¬M b/\∀i x,xs[i]? =some x->∃vs,A.R M w x vs/\w.rangeAt b (o+i*A.n) vs
theorem wN.le {α:Type} {A:RT α} {M M':aP} {w w':World} {a:Option Addr} {xs:List α} (hn:0<A.n) (hl:Le M w M' w') (h:wN A M w a xs):wN A M' w' a xs:=by
 rcases h with h|⟨b,o,h1,h2,h3⟩
 ·exact .inl h
 ·cases xs with
  |nil=>exact .inl rfl
  |cons x xs=>
   obtain⟨vs,hv,hr⟩:=h3 0 x rfl;have y9:0<vs.length:=by rw[A.len hv];exact hn
   have hc:=hr 0 vs[0] (List.getElem?_eq_getElem y9);have hb:b<w.heap.size:=World.block_lt_of_cell? w _ hc;refine .inr ⟨b,o,h1,(hl b hb h2).1,λi x hi=> ?_⟩;obtain⟨vs,hv,hr⟩:=h3 i x hi;exact⟨vs,A.le hl hv,tp hl h2 hr⟩
def RT.sl {α:Type} (A:RT α) (hn:0<A.n:=by decide):RT (List α) where
 n:=1
 agg:=false
 R:=λM w xs vs=>∃a cap,vs=[.slice a xs.length cap]/\xs.length<=cap/\xs.length<=140737488355328/\wN A M w a xs
 len:=by rintro _ _ x vs ⟨a,cap,rfl,_⟩;rfl
 one:=by rintro _ _ x vs ⟨a,cap,rfl,_⟩ v hv;simp at hv;subst hv;rfl
 le:=by
  rintro M w M' w' xs vs hl ⟨a,cap,h1,h2,h3,h4⟩;exact⟨a,cap,h1,h2,h3,h4.le hn hl⟩
def RT.pair {α β:Type} (A:RT α) (B:RT β):RT (α×β) where
 n:=A.n+B.n
 agg:=true
 R:=λM w x vs=>∃va vb,vs=va++vb/\A.R M w x.1 va/\B.R M w x.2 vb
 len:=by rintro _ _ x vs ⟨va,vb,rfl,h1,h2⟩;rw[List.length_append,A.len h1,B.len h2]
 one:=by
  rintro _ _ x vs ⟨va,vb,rfl,h1,h2⟩ v hv;rcases List.mem_append.1 hv with hv|hv
  ·exact A.one h1 v hv
  ·exact B.one h2 v hv
 le:=by rintro M w M' w' x vs hl ⟨va,vb,h0,h1,h2⟩;exact⟨va,vb,h0,A.le hl h1,B.le hl h2⟩
def RT.VZ {α β:Type} (A:RT α) (f:β->α):RT β where
 n:=A.n
 agg:=A.agg
 R:=λM w x vs=>A.R M w (f x) vs
 len:=A.len
 one:=A.one
 le:=A.le
theorem MN {k:IntKind} {M:aP} {w:World} {x:Int} {v:Value}:(RT.int k).V M w x v↔v= .int k x/\k.min<=x/\x<=k.max:=
 ⟨fun⟨_,⟨h1,h2⟩,h3⟩=>by subst h1;exact⟨h3,h2⟩,fun⟨h1,h2⟩=>⟨_,⟨G,h2⟩,h1⟩⟩
theorem V0 {M:aP} {w:World} {x:UInt8} {v:Value}:RT.u8.V M w x v↔v= .int .u8 x.toNat:=⟨fun⟨_,h1,h2⟩=>by cases h1;exact h2,λh=>⟨_,G,h⟩⟩
theorem mH {M:aP} {w:World} {x:List UInt8} {v:Value}:RT.str.V M w x v↔v= .string ⟨x.toArray⟩/\x.length<=140737488355328:=
 ⟨fun⟨_,⟨h1,h2⟩,h3⟩=>by subst h1;exact⟨h3,h2⟩,fun⟨h1,h2⟩=>⟨_,⟨G,h2⟩,h1⟩⟩
theorem jE {α:Type} {A:RT α} {hn:0<A.n} {M:aP} {w:World} {xs:List α} {v:Value}:
  (A.sl hn).V M w xs v↔∃a cap,v= .slice a xs.length cap/\xs.length<=cap/\xs.length<=140737488355328/\wN A M w a xs:=
 ⟨fun⟨_,⟨a,cap,h1,h2⟩,h3⟩=>by subst h1;exact⟨a,cap,h3,h2⟩,fun⟨a,cap,h1,h2⟩=>⟨_,⟨a,cap,G,h2⟩,h1⟩⟩
theorem ib {α:Type} {A:RT α} {hn:0<A.n} {M:aP} {w:World}:(A.sl hn).V M w [] (.slice none 0 0):=jE.2 ⟨none,0,rfl,Nat.zero_le _,Nat.zero_le _,.inl rfl⟩
theorem dJ {α:Type} {A:RT α} {hn:0<A.n} {M:aP} {w:World} {xs:List α} {v:Value} (h:(A.sl hn).V M w xs v):xs.length<=140737488355328:=by
 obtain⟨_,_,_,_,h,_⟩:=jE.1 h;exact h
def fX {α:Type} (A:RT α) (M:aP) (w:World):List α->List Value->Prop
 |[],C=>C=[]
 |x::xs,C=>∃vs rest,C=vs++rest/\A.R M w x vs/\fX A M w xs rest
theorem fX.le {α:Type} {A:RT α} {M M':aP} {w w':World} (hl:Le M w M' w'):∀{xs:List α} {C:List Value},fX A M w xs C->fX A M' w' xs C
 |[],_,h=>h
 |_::_,_,⟨vs,rest,h1,h2,h3⟩=>⟨vs,rest,h1,A.le hl h2,fX.le hl h3⟩
theorem fX.length {α:Type} {A:RT α} {M:aP} {w:World}:∀{xs:List α} {C:List Value},fX A M w xs C->C.length=xs.length*A.n
 |[],_,h=>by cases h;simp
 |x::xs,_,⟨vs,rest,h1,h2,h3⟩=>by subst h1;rw[List.length_append,A.len h2,fX.length h3,List.length_cons,Nat.add_mul];omega
theorem fX.one {α:Type} {A:RT α} {M:aP} {w:World}:∀{xs:List α} {C:List Value},fX A M w xs C->∀u∈C,u.oneCell'=true
 |[],_,h,u,hu=>by cases h;cases hu
 |x::xs,_,⟨vs,rest,h1,h2,h3⟩,u,hu=>by
  subst h1;rcases List.mem_append.1 hu with hu|hu
  ·exact A.one h2 u hu
  ·exact fX.one h3 u hu
theorem fX.append {α:Type} {A:RT α} {M:aP} {w:World} {ys:List α} {D:List Value} (hd:fX A M w ys D):∀{xs:List α} {C:List Value},fX A M w xs C->fX A M w (xs++ys) (C++D)
 |[],_,h=>by cases h;simpa using hd
 |_::_,_,⟨vs,rest,h1,h2,h3⟩=>⟨vs,rest++D,by subst h1;simp,h2,fX.append hd h3⟩
theorem fX.at_ {α:Type} {A:RT α} {M:aP} {w:World}:∀{xs:List α} {C:List Value},fX A M w xs C->∀i x,xs[i]? =some x->∃vs,A.R M w x vs/\∀j v,vs[j]? =some v->C[i*A.n+j]? =some v
 |[],_,_,i,x,hi=>by simp at hi
 |y::xs,_,⟨vs,rest,h1,h2,h3⟩,0,x,hi=>by
  simp at hi;subst hi;subst h1;refine ⟨vs,h2,λj v hv=> ?_⟩;have hj:j<vs.length:=(List.getElem?_eq_some_iff.1 hv).1;rw[Nat.zero_mul,Nat.zero_add,List.getElem?_append_left hj];exact hv
 |y::xs,_,⟨vs,rest,h1,h2,h3⟩,i+1,x,hi=>by
  subst h1;obtain⟨us,hu,hr⟩:=fX.at_ h3 i x al3;refine ⟨us,hu,λj v hv=> ?_⟩;have:=hr j v hv;have hl:=A.len h2;rw[List.getElem?_append_right (by rw[hl,Nat.add_mul];omega),hl,Nat.add_mul];rw[show i*A.n+1*A.n+j-A.n=i*A.n+j from by omega];exact this
theorem wN.all {α:Type} {A:RT α} {M:aP} {w:World} {b o:Nat}:∀{xs:List α},(∀i x,xs[i]? =some x->∃vs,A.R M w x vs/\w.rangeAt b (o+i*A.n) vs)->
  ∃C,fX A M w xs C/\w.rangeAt b o C:=by
 intro xs
 induction xs generalizing o with
 |nil=>intro _;exact⟨[],rfl,λj v hv=>by simp at hv⟩
 |cons x xs ih=>
  intro h;obtain⟨vs,hv,hr⟩:=h 0 x rfl
  obtain⟨C,hC,hD⟩:=ih (o:=o+A.n) (λi y hi=>by
   obtain⟨us,hu,hs⟩:=h (i+1) y al3;refine ⟨us,hu,?_⟩;rw[show o+A.n+i*A.n=o+(i+1)*A.n from by rw[Nat.add_mul];omega];exact hs)
  refine ⟨vs++C,⟨vs,C,G,hv,hC⟩,λj v hj=> ?_⟩;have hl:=A.len hv;rcases Nat.lt_or_ge j vs.length with eU|Mr
  ·rw[List.getElem?_append_left eU]at hj;have:=hr j v hj;simpa using this
  ·rw[List.getElem?_append_right Mr]at hj;have:=hD (j-vs.length) v hj;rw[show o+A.n+(j-vs.length)=o+j from by omega]at this;exact this
structure Own {α:Type} (A:RT α) (e:TypeId) (M:aP) (w:World) (base:Nat) (v:Value) (xs:List α):Prop where
 row:∃C,w.ownsRow base e A.n v xs.length C/\fX A M w xs C
 mut_:∀b,v.ownBlock=some b->M b
theorem Own.nil {α:Type} (A:RT α) (e:TypeId) (M:aP) (w:World) (base:Nat):Own A e M w base (.slice none 0 0) []:=
 ⟨⟨[],World.ownsRow_nil w base e A.n,rfl⟩,λb h=>by simp[Value.ownBlock]at h⟩
theorem Own.isSlice {α:Type} {A:RT α} {e:TypeId} {M:aP} {w:World} {base:Nat} {v:Value} {xs:List α} (h:Own A e M w base v xs):∃a cap,v= .slice a xs.length cap/\xs.length<=cap:=by
 obtain⟨⟨C,hr,_⟩,_⟩:=h;rcases hr.2 with⟨h1,h2⟩|⟨g,cap,cur,h1,_,_,h4,_⟩
 ·exact⟨none,0,by rw[h1,h2],by omega⟩
 ·exact⟨_,cap,h1,h4⟩
theorem Own.base {α:Type} {A:RT α} {e:TypeId} {M:aP} {w:World} {base:Nat} {v:Value} {xs:List α} (h:Own A e M w base v xs):∀b,v.ownBlock=some b->base<=b/\b<w.heap.size:=by
 obtain⟨⟨C,hr,_⟩,_⟩:=h;exact hr.lt
theorem Own.step {α:Type} {A:RT α} {e:TypeId} {M M' N:aP} {w w':World} {base:Nat} {v:Value} {xs:List α} (h:Own A e M w base v xs) (s:Step M w M' w' N)
  (hn:∀b,v.ownBlock=some b->¬N b):Own A e M' w' base v xs:=by
 obtain⟨⟨C,hr,ha⟩,hm⟩:=h;refine⟨⟨C,⟨hr.1,?_⟩,ha.le s.le⟩,λb hb=>(s.mem b (hr.lt b hb).2).2 (hm b hb)⟩;rcases hr.2 with h1|⟨g,cap,cur,h1,h2,h3,h4⟩
 ·exact .inl h1
 ·exact .inr ⟨g,cap,cur,h1,h2,s.bY h3 (hn g (by rw[h1];rfl)),h4⟩
theorem Own.br {α:Type} {A:RT α} {e:TypeId} {M M':aP} {w w':World} {base:Nat} {v:Value} {xs:List α} (h:Own A e M w base v xs) (s:Step M w M' w' aH):Own A e M' w' base v xs:=h.step s λ_ _ h=>h
theorem Own.sl {α:Type} {A:RT α} {hn:0<A.n} {e:TypeId} {M:aP} {w:World} {base:Nat} {v:Value} {xs:List α} (h:Own A e M w base v xs) {M0:aP} (hle:Le M w M0 w)
  (hb:∀b,v.ownBlock=some b->¬M0 b) (hlen:xs.length<=140737488355328):(A.sl hn).V M0 w xs v:=by
 obtain⟨⟨C,hr,ha⟩,hm⟩:=h;rcases hr.2 with⟨h1,h2⟩|⟨g,cap,cur,h1,h2,h3,h4,h5,h6,h7⟩
 ·have:xs=[]:=List.eq_nil_of_length_eq_zero h2;subst this;subst h1;exact ib
 ·subst h1;refine jE.2 ⟨_,cap,G,h4,hlen,.inr ⟨g,0,G,hb g G,λi x hi=>?_⟩⟩;obtain⟨vs,hv,hj⟩:=ha.at_ i x hi;refine ⟨vs,A.le hle hv,λj u hu=> ?_⟩;have h8:=hj j u hu;rw[<-h7,List.getElem?_take]at h8
  split at h8
  ·simp only[World.cell?,h3];simpa using h8
  ·cases h8
theorem Own.close {α:Type} {A:RT α} {hn:0<A.n} {e:TypeId} {M0 M N:aP} {w0 w:World} {v:Value} {xs:List α} (hl:Lt M0 w0) (s:Step M0 w0 M w N) (h:Own A e M w w0.heap.size v xs)
  (hlen:xs.length<=140737488355328):(A.sl hn).V M0 w xs v:=
 h.sl (Le.close hl s) (λb hb h0=>by have:=(h.base b hb).1;have:=hl b h0;omega) hlen
def TI (P:Program) (t:TypeId) (z:Value) (size bytes:Nat):Prop:=(P.info? t).map (λi=>(i.zero,i.size,i.bytes))=some (some z,size,bytes)
theorem TI.get {P:Program} {t:TypeId} {z:Value} {size bytes:Nat} (h:TI P t z size bytes):∃i,P.info? t=some i/\i.zero=some z/\i.size=size/\i.bytes=bytes:=by
 unfold TI at h
 cases hi:P.info? t with
 |none=>simp[hi]at h
 |some i=>simp[hi]at h;exact⟨i,G,h.1,h.2.1,h.2.2⟩
theorem TI.sizeOf {P:Program} {t:TypeId} {z:Value} {size bytes:Nat} (h:TI P t z size bytes) (w:World):(Go.sizeOf t).run P w= .ok size w:=by
 obtain⟨i,h1,h2,h3,h4⟩:=h.get;simp[Go.sizeOf,typeInfo,h1,h3]
end Go.K
namespace Go.K
theorem ck {M:aP} {w:World}:Le M w M w:=Le.refl M w
theorem bg {M:aP} {w:World}:Step M w M w aH:=Step.refl M w
section
variable {P:Program} {r:Option Nat} {n:Nat} {L:Sl} {ds:List Deferred} {w:World} {K:Kt} {ops:Array Oper} {rest:List Oper}
variable {d:Nat} {ty:TypeId} {pos:String} {af:Array Edge} {x y z:Operand}
theorem Rg.eqv {d:Nat} {v v':Value} (h:v=v') (k:Rg P r n ops rest ((d,v')::L) ds w K):Rg P r n ops rest ((d,v)::L) ds w K:=by subst h;exact k
theorem Rg.move {v:Value} (hx:ev L x=some v) (hd:Nat.blt d n=true) (k:Rg P r n ops rest ((d,v)::L) ds w K):
  Rg P r n ops ({dst:=some d,op:= .move x,type:=ty,pos,after:=af,guard:=none}::rest) L ds w K:=
 .op a07 rfl rfl hd v w (λρ h=>by simp only[execOp];rw[h x v hx];simp) k
theorem Rg.assign {v:Value} (hx:ev L x=some v) (hd:Nat.blt d n=true) (k:Rg P r n ops rest ((d,v)::L) ds w K):
  Rg P r n ops ({dst:=some d,op:= .assign x,type:=ty,pos,after:=af,guard:=none}::rest) L ds w K:=
 .op a07 rfl rfl hd v w (λρ h=>by simp only[execOp];rw[h x v hx];simp) k
theorem Rg.bU {v:Value} (hx:ev L x=some (.bool true)) (hy:ev L y=some v) (hd:Nat.blt d n=true) (k:Rg P r n ops rest ((d,v)::L) ds w K):
  Rg P r n ops ({dst:=some d,op:= .pick x y z,type:=ty,pos,after:=af,guard:=none}::rest) L ds w K:=
 .op a07 rfl rfl hd v w (λρ h=>by simp only[execOp];rw[h x _ hx,h y v hy];simp[asBool]) k
theorem Rg.bh {v:Value} (hx:ev L x=some (.bool false)) (hz:ev L z=some v) (hd:Nat.blt d n=true) (k:Rg P r n ops rest ((d,v)::L) ds w K):
  Rg P r n ops ({dst:=some d,op:= .pick x y z,type:=ty,pos,after:=af,guard:=none}::rest) L ds w K:=
 .op a07 rfl rfl hd v w (λρ h=>by simp only[execOp];rw[h x _ hx,h z v hz];simp[asBool]) k
theorem Rg.not {b:Bool} {xt:TypeId} (hx:ev L x=some (.bool b)) (hd:Nat.blt d n=true) (k:Rg P r n ops rest ((d,.bool (!b))::L) ds w K):
  Rg P r n ops ({dst:=some d,op:= .unOp .not xt x,type:=ty,pos,after:=af,guard:=none}::rest) L ds w K:=
 .op a07 rfl rfl hd _ w (λρ h=>by simp only[execOp];rw[h x _ hx];simp[Op.unary]) k
theorem RR {op:BinOp} {k:IntKind} {p q:Int} {t:TypeId} {x y:Operand} {v:Value} {s:Sem Value} (hs:binOp op t (.int k p) (.int k q)=s) (hr:s.run P w= .ok v w):
  Sem.run P (do eqGuard op t x y (.int k p) (.int k q);binOp op t (.int k p) (.int k q)) w= .ok v w:=by
 rw[hs];have:(eqGuard op t x y (.int k p) (.int k q)).run P w= .ok () w:=by unfold eqGuard;cases op<;>simp
 simp[Sem.run_bind,this,hr]
theorem Rg.bin {op:BinOp} {t t':TypeId} {k:IntKind} {p q:Int} {v:Value} (hx:ev L x=some (.int k p)) (hy:ev L y=some (.int k q)) (hd:Nat.blt d n=true)
  (hr:(binOp op t (.int k p) (.int k q)).run P w= .ok v w) (kk:Rg P r n ops rest ((d,v)::L) ds w K):
  Rg P r n ops ({dst:=some d,op:= .binOp op t x y t',type:=ty,pos,after:=af,guard:=none}::rest) L ds w K:=
 .op a07 rfl rfl hd v w (λρ h=>by
  simp only[execOp];rw[h x _ hx,h y _ hy,Sem.run_bind,RR rfl hr];simp) kk
theorem Rg.cB {t t':TypeId} {p q:Int} (hx:ev L x=some (.int .i64 p)) (hy:ev L y=some (.int .i64 q)) (hd:Nat.blt d n=true)
  (hb: -9223372036854775808<=p+q/\p+q<=9223372036854775807) (k:Rg P r n ops rest ((d,.int .i64 (p+q))::L) ds w K):
  Rg P r n ops ({dst:=some d,op:= .binOp .add t x y t',type:=ty,pos,after:=af,guard:=none}::rest) L ds w K:=
 .bin hx hy hd am3 k
theorem Rg.lD {t t':TypeId} {p q:Int} (hx:ev L x=some (.int .i64 p)) (hy:ev L y=some (.int .i64 q)) (hd:Nat.blt d n=true)
  (hb: -9223372036854775808<=p-q/\p-q<=9223372036854775807) (k:Rg P r n ops rest ((d,.int .i64 (p-q))::L) ds w K):
  Rg P r n ops ({dst:=some d,op:= .binOp .sub t x y t',type:=ty,pos,after:=af,guard:=none}::rest) L ds w K:=
 .bin hx hy hd am3 k
theorem Rg.V1 {t t':TypeId} {p q:Int} (hx:ev L x=some (.int .i64 p)) (hy:ev L y=some (.int .i64 q)) (hd:Nat.blt d n=true)
  (hb: -9223372036854775808<=p*q/\p*q<=9223372036854775807) (k:Rg P r n ops rest ((d,.int .i64 (p*q))::L) ds w K):
  Rg P r n ops ({dst:=some d,op:= .binOp .mul t x y t',type:=ty,pos,after:=af,guard:=none}::rest) L ds w K:=
 .bin hx hy hd am3 k
theorem Rg.zc {t t':TypeId} {κ:IntKind} {p q:Int} (hx:ev L x=some (.int κ p)) (hy:ev L y=some (.int κ q)) (hd:Nat.blt d n=true)
  (k:Rg P r n ops rest ((d,.int κ (κ.wrap (p+q)))::L) ds w K):
  Rg P r n ops ({dst:=some d,op:= .binOp .add t x y t',type:=ty,pos,after:=af,guard:=none}::rest) L ds w K:= .bin hx hy hd (by simp[binOp,Op.intArith]) k
theorem Rg.V2 {t t':TypeId} {κ:IntKind} {p q:Int} (hx:ev L x=some (.int κ p)) (hy:ev L y=some (.int κ q)) (hd:Nat.blt d n=true)
  (k:Rg P r n ops rest ((d,.int κ (κ.wrap (p-q)))::L) ds w K):
  Rg P r n ops ({dst:=some d,op:= .binOp .sub t x y t',type:=ty,pos,after:=af,guard:=none}::rest) L ds w K:= .bin hx hy hd (by simp[binOp,Op.intArith]) k
theorem Rg.agi {t t':TypeId} {κ:IntKind} {p q:Int} (hx:ev L x=some (.int κ p)) (hy:ev L y=some (.int κ q)) (hd:Nat.blt d n=true)
  (k:Rg P r n ops rest ((d,.int κ (κ.wrap (p*q)))::L) ds w K):
  Rg P r n ops ({dst:=some d,op:= .binOp .mul t x y t',type:=ty,pos,after:=af,guard:=none}::rest) L ds w K:= .bin hx hy hd (by simp[binOp,Op.intArith]) k
theorem Rg.zd {t t':TypeId} {p q:Int} (hx:ev L x=some (.int .i64 p)) (hy:ev L y=some (.int .i64 q)) (hd:Nat.blt d n=true)
  (hb:0<=p/\p<=9223372036854775807/\1<=q) (k:Rg P r n ops rest ((d,.int .i64 (p/q))::L) ds w K):
  Rg P r n ops ({dst:=some d,op:= .binOp .quo t x y t',type:=ty,pos,after:=af,guard:=none}::rest) L ds w K:=
 .bin hx hy hd (by simp[binOp,Op.intDiv,show q≠0 from by omega,IntWalk.i64_quo p q hb]) k
theorem Rg.yx {t t':TypeId} {κ:IntKind} {p q:Int} (hx:ev L x=some (.int κ p)) (hy:ev L y=some (.int κ q)) (hd:Nat.blt d n=true)
  (hb:0<=p/\1<=q) (k:Rg P r n ops rest ((d,.int κ (p%q))::L) ds w K):
  Rg P r n ops ({dst:=some d,op:= .binOp .rem t x y t',type:=ty,pos,after:=af,guard:=none}::rest) L ds w K:=
 .bin hx hy hd (by simp[binOp,Op.intDiv,show q≠0 from by omega,IntWalk.rem_in p q hb.1]) k
theorem Rg.neg {xt:TypeId} {p:Int} (hx:ev L x=some (.int .i64 p)) (hd:Nat.blt d n=true) (hb: -9223372036854775808<= -p/\ -p<=9223372036854775807)
  (k:Rg P r n ops rest ((d,.int .i64 (-p))::L) ds w K):
  Rg P r n ops ({dst:=some d,op:= .unOp .neg xt x,type:=ty,pos,after:=af,guard:=none}::rest) L ds w K:=
 .op a07 rfl rfl hd _ w (λρ h=>by simp only[execOp];rw[h x _ hx];simp[Op.unary,Op.intArith,IntWalk.i64_in _ hb]) k
theorem Rg.shr {t t':TypeId} {κ κ':IntKind} {p q:Int} (hx:ev L x=some (.int κ p)) (hy:ev L y=some (.int κ' q)) (hd:Nat.blt d n=true) (hq:0<=q)
  (k:Rg P r n ops rest ((d,.int κ (p.fdiv (2^min q.toNat κ.bits)))::L) ds w K):
  Rg P r n ops ({dst:=some d,op:= .binOp .shr t x y t',type:=ty,pos,after:=af,guard:=none}::rest) L ds w K:=
 .op a07 rfl rfl hd _ w (λρ h=>by
  simp only[execOp];rw[h x _ hx,h y _ hy];simp[eqGuard,binOp,Op.shift,show¬q<0 from by omega]) k
theorem Rg.shl {t t':TypeId} {κ κ':IntKind} {p q:Int} (hx:ev L x=some (.int κ p)) (hy:ev L y=some (.int κ' q)) (hd:Nat.blt d n=true) (hq:0<=q)
  (k:Rg P r n ops rest ((d,.int κ (κ.wrap (p*2^min q.toNat κ.bits)))::L) ds w K):
  Rg P r n ops ({dst:=some d,op:= .binOp .shl t x y t',type:=ty,pos,after:=af,guard:=none}::rest) L ds w K:=
 .op a07 rfl rfl hd _ w (λρ h=>by
  simp only[execOp];rw[h x _ hx,h y _ hy];simp[eqGuard,binOp,Op.shift,show¬q<0 from by omega]) k
theorem Rg.and {t t':TypeId} {κ:IntKind} {p q:Int} (hx:ev L x=some (.int κ p)) (hy:ev L y=some (.int κ q)) (hd:Nat.blt d n=true)
  (k:Rg P r n ops rest ((d,.int κ (κ.wrap (BitVec.ofInt κ.bits p&&&BitVec.ofInt κ.bits q).toNat))::L) ds w K):
  Rg P r n ops ({dst:=some d,op:= .binOp .and t x y t',type:=ty,pos,after:=af,guard:=none}::rest) L ds w K:= .bin hx hy hd (by simp[binOp,Op.intBits]) k
theorem Rg.or {t t':TypeId} {κ:IntKind} {p q:Int} (hx:ev L x=some (.int κ p)) (hy:ev L y=some (.int κ q)) (hd:Nat.blt d n=true)
  (k:Rg P r n ops rest ((d,.int κ (κ.wrap (BitVec.ofInt κ.bits p|||BitVec.ofInt κ.bits q).toNat))::L) ds w K):
  Rg P r n ops ({dst:=some d,op:= .binOp .or t x y t',type:=ty,pos,after:=af,guard:=none}::rest) L ds w K:= .bin hx hy hd (by simp[binOp,Op.intBits]) k
theorem Rg.xor {t t':TypeId} {κ:IntKind} {p q:Int} (hx:ev L x=some (.int κ p)) (hy:ev L y=some (.int κ q)) (hd:Nat.blt d n=true)
  (k:Rg P r n ops rest ((d,.int κ (κ.wrap (BitVec.ofInt κ.bits p^^^BitVec.ofInt κ.bits q).toNat))::L) ds w K):
  Rg P r n ops ({dst:=some d,op:= .binOp .xor t x y t',type:=ty,pos,after:=af,guard:=none}::rest) L ds w K:= .bin hx hy hd (by simp[binOp,Op.intBits]) k
theorem Rg.andNot {t t':TypeId} {κ:IntKind} {p q:Int} (hx:ev L x=some (.int κ p)) (hy:ev L y=some (.int κ q)) (hd:Nat.blt d n=true)
  (k:Rg P r n ops rest ((d,.int κ (κ.wrap (BitVec.ofInt κ.bits p&&& ~~~ BitVec.ofInt κ.bits q).toNat))::L) ds w K):
  Rg P r n ops ({dst:=some d,op:= .binOp .andNot t x y t',type:=ty,pos,after:=af,guard:=none}::rest) L ds w K:= .bin hx hy hd (by simp[binOp,Op.intBits]) k
theorem Rg.tq {t t':TypeId} {κ:IntKind} {p q:Int} (hx:ev L x=some (.int κ p)) (hy:ev L y=some (.int κ q)) (hd:Nat.blt d n=true)
  (k:Rg P r n ops rest ((d,.bool (decide (p=q)))::L) ds w K):
  Rg P r n ops ({dst:=some d,op:= .binOp .eql t x y t',type:=ty,pos,after:=af,guard:=none}::rest) L ds w K:=
 .bin hx hy hd (by simp[binOp,Op.intCmp];rfl) k
theorem Rg.om {t t':TypeId} {κ:IntKind} {p q:Int} (hx:ev L x=some (.int κ p)) (hy:ev L y=some (.int κ q)) (hd:Nat.blt d n=true)
  (k:Rg P r n ops rest ((d,.bool (decide (p≠q)))::L) ds w K):
  Rg P r n ops ({dst:=some d,op:= .binOp .neq t x y t',type:=ty,pos,after:=af,guard:=none}::rest) L ds w K:=
 .bin hx hy hd (by simp[binOp,Op.intCmp];by_cases h:p=q<;>simp[h]) k
theorem Rg.gv {t t':TypeId} {κ:IntKind} {p q:Int} (hx:ev L x=some (.int κ p)) (hy:ev L y=some (.int κ q)) (hd:Nat.blt d n=true)
  (k:Rg P r n ops rest ((d,.bool (decide (p<q)))::L) ds w K):
  Rg P r n ops ({dst:=some d,op:= .binOp .lss t x y t',type:=ty,pos,after:=af,guard:=none}::rest) L ds w K:= .bin hx hy hd (by simp[binOp,Op.intCmp]) k
theorem Rg.qj {t t':TypeId} {κ:IntKind} {p q:Int} (hx:ev L x=some (.int κ p)) (hy:ev L y=some (.int κ q)) (hd:Nat.blt d n=true)
  (k:Rg P r n ops rest ((d,.bool (decide (p<=q)))::L) ds w K):
  Rg P r n ops ({dst:=some d,op:= .binOp .leq t x y t',type:=ty,pos,after:=af,guard:=none}::rest) L ds w K:= .bin hx hy hd (by simp[binOp,Op.intCmp]) k
theorem Rg.px {t t':TypeId} {κ:IntKind} {p q:Int} (hx:ev L x=some (.int κ p)) (hy:ev L y=some (.int κ q)) (hd:Nat.blt d n=true)
  (k:Rg P r n ops rest ((d,.bool (decide (q<p)))::L) ds w K):
  Rg P r n ops ({dst:=some d,op:= .binOp .gtr t x y t',type:=ty,pos,after:=af,guard:=none}::rest) L ds w K:= .bin hx hy hd (by simp[binOp,Op.intCmp]) k
theorem Rg.fU {t t':TypeId} {κ:IntKind} {p q:Int} (hx:ev L x=some (.int κ p)) (hy:ev L y=some (.int κ q)) (hd:Nat.blt d n=true)
  (k:Rg P r n ops rest ((d,.bool (decide (q<=p)))::L) ds w K):
  Rg P r n ops ({dst:=some d,op:= .binOp .geq t x y t',type:=ty,pos,after:=af,guard:=none}::rest) L ds w K:= .bin hx hy hd (by simp[binOp,Op.intCmp]) k
theorem Rg.bne {t t':TypeId} {p q:Bool} (ht:P.underlying t=some .bool) (hx:ev L x=some (.bool p)) (hy:ev L y=some (.bool q)) (hd:Nat.blt d n=true)
  (k:Rg P r n ops rest ((d,.bool (decide (p≠q)))::L) ds w K):
  Rg P r n ops ({dst:=some d,op:= .binOp .neq t x y t',type:=ty,pos,after:=af,guard:=none}::rest) L ds w K:=
 .op a07 rfl rfl hd _ w (λρ h=>by
  have h1:=run_neq_bool (P:=P) w t p q ht;have h2:(!(p==q))=decide (p≠q):=by cases p<;>cases q<;>rfl
  rw[h2]at h1;simp only[execOp];rw[h x _ hx,h y _ hy,Sem.run_bind,Sem.run_bind];simp[eqGuard,h1]) k
theorem Rg.conv {s t:TypeId} {κ κ':IntKind} {p:Int} {u:TypeDesc} (hs:P.underlying s=some u) (ht:P.underlying t=some (.int κ')) (hx:ev L x=some (.int κ p)) (hd:Nat.blt d n=true)
  (k:Rg P r n ops rest ((d,.int κ' (κ'.wrap p))::L) ds w K):
  Rg P r n ops ({dst:=some d,op:= .convert s t x,type:=ty,pos,after:=af,guard:=none}::rest) L ds w K:=
 .op a07 rfl rfl hd _ w (λρ h=>by
  simp only[execOp];rw[h x _ hx];simp[convert,run_underlying hs,run_underlying ht,Conv.intToInt]) k
theorem Rg.wO {s t:TypeId} {κ:IntKind} {p:Int} {u:TypeDesc} (hs:P.underlying s=some u) (ht:P.underlying t=some (.int .i64)) (hx:ev L x=some (.int κ p)) (hd:Nat.blt d n=true)
  (hb: -9223372036854775808<=p/\p<=9223372036854775807) (k:Rg P r n ops rest ((d,.int .i64 p)::L) ds w K):
  Rg P r n ops ({dst:=some d,op:= .convert s t x,type:=ty,pos,after:=af,guard:=none}::rest) L ds w K:=
 .conv hs ht hx hd (by rw[IntWalk.i64_in _ hb];exact k)
theorem Rg.min2 {Ko:Array TypeId} {κ κ':IntKind} {p q:Int} (hx:ev L x=some (.int κ p)) (hy:ev L y=some (.int κ' q)) (hd:Nat.blt d n=true)
  (k:Rg P r n ops rest ((d,.int κ (min p q))::L) ds w K):
  Rg P r n ops ({dst:=some d,op:= .call {callee:= .builtin .min,args:= #[x,y],argTypes:=Ko},type:=ty,pos,after:=af,guard:=none}::rest) L ds w K:=
 .op a07 rfl rfl hd _ w (λρ h=>by
  simp only[execOp,resolve,List.map_toArray,List.map_cons,List.map_nil,h x _ hx,h y _ hy];simp[invoke,builtin,Builtin.min_,Builtin.min2];rw[Int.min_def];split<;>split<;>omega) k
theorem Rg.max2 {Ko:Array TypeId} {κ κ':IntKind} {p q:Int} (hx:ev L x=some (.int κ p)) (hy:ev L y=some (.int κ' q)) (hd:Nat.blt d n=true)
  (k:Rg P r n ops rest ((d,.int κ (max p q))::L) ds w K):
  Rg P r n ops ({dst:=some d,op:= .call {callee:= .builtin .max,args:= #[x,y],argTypes:=Ko},type:=ty,pos,after:=af,guard:=none}::rest) L ds w K:=
 .op a07 rfl rfl hd _ w (λρ h=>by
  simp only[execOp,resolve,List.map_toArray,List.map_cons,List.map_nil,h x _ hx,h y _ hy];simp[invoke,builtin,Builtin.max_,Builtin.max2];rw[Int.max_def];split<;>split<;>omega) k
theorem Rg.extract {vs:Array Value} {i:Nat} {v:Value} (hx:ev L x=some (.tuple vs)) (hv:vs[i]? =some v) (hd:Nat.blt d n=true) (k:Rg P r n ops rest ((d,v)::L) ds w K):
  Rg P r n ops ({dst:=some d,op:= .extract x i,type:=ty,pos,after:=af,guard:=none}::rest) L ds w K:=
 .op a07 rfl rfl hd v w (λρ h=>by simp only[execOp];rw[h x _ hx];simp[Instr.extract,hv]) k
theorem Rg.cU {t e:TypeId} {α:Type} {A:RT α} {hn:0<A.n} {M:aP} {w1:World} {xs:List α} {v:Value} (ht:P.underlying t=some (.slice e)) (hx:ev L x=some v) (hv:(A.sl hn).V M w1 xs v) (hd:Nat.blt d n=true)
  (k:Rg P r n ops rest ((d,.int .i64 xs.length)::L) ds w K):
  Rg P r n ops ({dst:=some d,op:= .call {callee:= .builtin .len,args:= #[x],argTypes:= #[t]},type:=ty,pos,after:=af,guard:=none}::rest) L ds w K:=by
 obtain⟨a,cap,rfl,_⟩:=jE.1 hv
 exact .op a07 G G hd _ w (λρ h=>by
  simp only[execOp,resolve,List.map_toArray,List.map_cons,List.map_nil,h x _ hx];simp[invoke,builtin,Builtin.len_,run_underlying ht,goInt]) k
theorem Rg.ju {t e e':TypeId} {α:Type} {A:RT α} {M:aP} {w1:World} {base:Nat} {xs:List α} {v:Value} (ht:P.underlying t=some (.slice e)) (hx:ev L x=some v) (hv:Own A e' M w1 base v xs) (hd:Nat.blt d n=true)
  (k:Rg P r n ops rest ((d,.int .i64 xs.length)::L) ds w K):
  Rg P r n ops ({dst:=some d,op:= .call {callee:= .builtin .len,args:= #[x],argTypes:= #[t]},type:=ty,pos,after:=af,guard:=none}::rest) L ds w K:=by
 obtain⟨a,cap,rfl,_⟩:=hv.isSlice
 exact .op a07 G G hd _ w (λρ h=>by
  simp only[execOp,resolve,List.map_toArray,List.map_cons,List.map_nil,h x _ hx];simp[invoke,builtin,Builtin.len_,run_underlying ht,goInt]) k
theorem Rg.lR {t:TypeId} {s:ByteArray} (ht:P.underlying t=some .string) (hx:ev L x=some (.string s)) (hd:Nat.blt d n=true)
  (k:Rg P r n ops rest ((d,.int .i64 s.size)::L) ds w K):
  Rg P r n ops ({dst:=some d,op:= .call {callee:= .builtin .len,args:= #[x],argTypes:= #[t]},type:=ty,pos,after:=af,guard:=none}::rest) L ds w K:=
 .op a07 rfl rfl hd _ w (λρ h=>by
  simp only[execOp,resolve,List.map_toArray,List.map_cons,List.map_nil,h x _ hx];simp[invoke,builtin,Builtin.len_,run_underlying ht,goInt]) k
theorem kJ (l:List UInt8):(⟨l.toArray⟩:ByteArray).toList=l:=by
 have key:∀(k i:Nat) (acc:List UInt8),i<=l.length->l.length-i=k->ByteArray.toList.loop ⟨l.toArray⟩ i acc=acc.reverse++l.drop i:=by
  intro k
  induction k with
  |zero=>
   intro i acc hi hk;unfold ByteArray.toList.loop;rw[if_neg (by simp[ByteArray.size];omega),List.drop_eq_nil_of_le hV];simp
  |succ k ih=>
   intro i acc hi hk;unfold ByteArray.toList.loop;rw[if_pos (by simp[ByteArray.size];omega),ih (i+1) _ hV hV];have eU:i<l.length:=by omega
   rw[List.drop_eq_getElem_cons eU];simp[ByteArray.get!,getElem!_pos,eU]
 have:=key l.length 0 [] (Nat.zero_le _) hV;simpa[ByteArray.toList]using this
theorem Rg.cat {t t':TypeId} {p q:List UInt8} (hx:ev L x=some (.string ⟨p.toArray⟩)) (hy:ev L y=some (.string ⟨q.toArray⟩)) (hd:Nat.blt d n=true) (hb:p.length+q.length<=9223372036854775807)
  (k:Rg P r n ops rest ((d,.string ⟨(p++q).toArray⟩)::L) ds w K):
  Rg P r n ops ({dst:=some d,op:= .binOp .add t x y t',type:=ty,pos,after:=af,guard:=none}::rest) L ds w K:=by
 have e:(⟨p.toArray⟩:ByteArray)++⟨q.toArray⟩=⟨(p++q).toArray⟩:=by apply ByteArray.ext;simp
 refine .op a07 G G hd _ w (λρ h=>?_) k;simp only[execOp];rw[h x _ hx,h y _ hy];have: ¬(IntKind.max .i64<((ByteArray.size ⟨p.toArray⟩+ByteArray.size ⟨q.toArray⟩:Nat):Int)):=by simp[ByteArray.size,IntKind.max,IntKind.signed,IntKind.bits];omega
 simp[eqGuard,binOp,Op.stringOp,this,e];simp[ByteArray.size];omega
theorem Rg.Ej {t t':TypeId} {p q:List UInt8} (hx:ev L x=some (.string ⟨p.toArray⟩)) (hy:ev L y=some (.string ⟨q.toArray⟩)) (hd:Nat.blt d n=true)
  (k:Rg P r n ops rest ((d,.bool (decide (p=q)))::L) ds w K):
  Rg P r n ops ({dst:=some d,op:= .binOp .eql t x y t',type:=ty,pos,after:=af,guard:=none}::rest) L ds w K:=
 .op a07 rfl rfl hd _ w (λρ h=>by
  simp only[execOp];rw[h x _ hx,h y _ hy];simp[eqGuard,binOp,Op.stringOp,kJ];by_cases h:p=q<;>simp[h]) k
theorem Rg.Je {t t':TypeId} {p q:List UInt8} (hx:ev L x=some (.string ⟨p.toArray⟩)) (hy:ev L y=some (.string ⟨q.toArray⟩)) (hd:Nat.blt d n=true)
  (k:Rg P r n ops rest ((d,.bool (decide (p≠q)))::L) ds w K):
  Rg P r n ops ({dst:=some d,op:= .binOp .neq t x y t',type:=ty,pos,after:=af,guard:=none}::rest) L ds w K:=
 .op a07 rfl rfl hd _ w (λρ h=>by
  simp only[execOp];rw[h x _ hx,h y _ hy];simp[eqGuard,binOp,Op.stringOp,kJ];by_cases h:p=q<;>simp[h]) k
def RS (L:Sl):List Operand->Option (List Value)
 |[]=>some []
 |x::xs=>match ev L x,RS L xs with
  |some v,some vs=>some (v::vs)
  |_,_=>none
theorem rQ {L:Sl} {ρ:Operand->Value} (h:∀x u,ev L x=some u->ρ x=u):∀{xs:List Operand} {vs:List Value},RS L xs=some vs->xs.map ρ=vs
 |[],vs,he=>by simp only[RS]at he;cases he;rfl
 |x::xs,vs,he=>by
  simp only[RS]at he
  split at he
  ·rename_i v us h1 h2
   cases he;simp[h x v h1,rQ h h2]
  ·cases he
def Enters (P:Program) (f:FuncId):Prop:=∀args w,(callFunc f args).run P w= .ok (.enter f args) w
theorem enters {f:FuncId} {fn:Func} (hf:P.funcs[f]? =some fn) (hb:fn.body.isNone=false) (hn:(fn.name== "runtime.NumGoroutine")=false):Enters P f:=λargs w=>by
 unfold callFunc;simp only[Sem.run_bind,program,Sem.run,Result.andThen,hf,hn];simp[hb]
theorem Rg.call {f:FuncId} {xs:List Operand} {vs:List Value} {Ko:Array TypeId} {Q:Value->World->Prop} (ot:RS L xs=some vs) (hd:Nat.blt d n=true) (he:Enters P f)
  (hs:Spec P f vs.toArray w Q) (k:∀v w',Q v w'→Rg P r n ops rest ((d,v)::L) ds w' K):
  Rg P r n ops ({dst:=some d,op:= .call {callee:= .value (.func f),args:=xs.toArray,argTypes:=Ko},type:=ty,pos,after:=af,guard:=none}::rest) L ds w K:=
 .MK (w1:=w) a07 rfl rfl hd (λρ h=>by
  have h1:=rQ h ot;have h2:ρ (.func f)= .func (.func f) #[] #[]:=h _ _ rfl;simp only[execOp,resolve,List.map_toArray,h1,h2];simpa[Deferred.ofValue,invoke]using he _ _) hs k
theorem Rg.oJ {f:FuncId} {first captured:List Value} {xs:List Operand} {vs:List Value} {Ko:Array TypeId} {Q:Value->World->Prop} (hx:ev L x=some (.func (.func f) first.toArray captured.toArray))
  (ot:RS L xs=some vs) (hd:Nat.blt d n=true) (he:Enters P f)
  (hs:Spec P f (first++vs++captured).toArray w Q) (k:∀v w',Q v w'→Rg P r n ops rest ((d,v)::L) ds w' K):
  Rg P r n ops ({dst:=some d,op:= .call {callee:= .value x,args:=xs.toArray,argTypes:=Ko},type:=ty,pos,after:=af,guard:=none}::rest) L ds w K:=
 .MK (w1:=w) a07 rfl rfl hd (λρ h=>by
  have h1:=rQ h ot;simp only[execOp,resolve,List.map_toArray,h1,h x _ hx];simpa[Deferred.ofValue,invoke]using he _ _) hs k
theorem Rg.makeFunc {f:FuncId} {xs ys:List Operand} {vs us:List Value} (ot:RS L xs=some vs) (Ea:RS L ys=some us) (hd:Nat.blt d n=true)
  (k:Rg P r n ops rest ((d,.func (.func f) vs.toArray us.toArray)::L) ds w K):
  Rg P r n ops ({dst:=some d,op:= .makeFunc (.func f) xs.toArray ys.toArray,type:=ty,pos,after:=af,guard:=none}::rest) L ds w K:=
 .op a07 rfl rfl hd _ w (λρ h=>by
  simp only[execOp,List.map_toArray,rQ h ot,rQ h Ea];simp[Instr.makeFunc]) k
end
theorem Rg.a8 {P:Program} {r:Option Nat} {n:Nat} {L:Sl} {ds:List Deferred} {w:World} {K:Kt} {ops:Array Oper} {d:Nat} {x:Operand} {ty:TypeId} {pos:String} {af:Array Edge} {v:Value} (hx:ev L x=some v) (hd:Nat.blt d n=true) (h:K .normal ((d,v)::L) ds w):Rg P r n ops [{dst:=some d,op:= .assign x,type:=ty,pos,after:=af,guard:=none}] L ds w K:=Rg.assign hx hd (Rg.nil h)
def dp {α:Type} (A:RT α) (M:aP) (w:World) (v:Value) (x:α):Prop:=∃b o vs,v= .pointer (some ⟨b,o,none⟩)/\¬M b/\A.R M w x vs/\w.rangeAt b o vs
theorem dp.le {α:Type} {A:RT α} (hn:0<A.n) {M M':aP} {w w':World} {v:Value} {x:α} (hl:Le M w M' w') (h:dp A M w v x):dp A M' w' v x:=by
 obtain⟨b,o,vs,h1,h2,h3,h4⟩:=h;have hp:0<vs.length:=by rw[A.len h3];exact hn
 have hc:=h4 0 (vs[0]'hp) (List.getElem?_eq_getElem hp);exact⟨b,o,vs,h1,(hl b (World.block_lt_of_cell? w _ hc) h2).1,A.le hl h3,tp hl h2 h4⟩
structure Part {α β:Type} (A:RT α) (B:RT β) (f:α->β) (off:Nat):Prop where
 get:∀{M w x vs},A.R M w x vs->∃a b c,vs=a++b++c/\a.length=off/\B.R M w (f x) b
theorem Part.fst {α β:Type} (A:RT α) (B:RT β):Part (A.pair B) A Prod.fst 0:=⟨λ{_ _ _ _} ⟨va,vb,h0,h1,_⟩=>⟨[],va,vb,by simpa using h0,rfl,h1⟩⟩
theorem Part.snd {α β:Type} (A:RT α) (B:RT β):Part (A.pair B) B Prod.snd A.n:=⟨λ{_ _ _ _} ⟨va,vb,h0,h1,h2⟩=>⟨va,vb,[],by simpa using h0,A.len h1,h2⟩⟩
theorem Part.trans {α β γ:Type} {A:RT α} {B:RT β} {C:RT γ} {f:α->β} {g:β->γ} {i j:Nat} (h:Part A B f i) (h':Part B C g j):Part A C (g∘f) (i+j):=
 ⟨λ{_ _ _ _} hx=>by
  obtain⟨a,b,c,h1,h2,h3⟩:=h.get hx;obtain⟨a',b',c',h4,h5,h6⟩:=h'.get h3;exact⟨a++a',b',c'++c,by rw[h1,h4];simp,by rw[List.length_append,h2,h5],h6⟩⟩
theorem Part.VZ {α β γ:Type} {A:RT α} {B:RT γ} {f:α->γ} {i:Nat} (g:β->α) (h:Part A B f i):Part (A.VZ g) B (f∘g) i:=⟨λ{_ _ _ _} hx=>h.get hx⟩
theorem dp.part {α β:Type} {A:RT α} {B:RT β} {f:α->β} {off:Nat} (hp:Part A B f off) {M:aP} {w:World} {b o:Nat} {x:α} {vs:List Value} (hm: ¬M b) (hx:A.R M w x vs) (hr:w.rangeAt b o vs):
  dp B M w (.pointer (some ⟨b,o+off,none⟩)) (f x):=by
 obtain⟨a,c,e,h1,h2,h3⟩:=hp.get hx;refine ⟨b,o+off,c,G,hm,h3,λj v hv=> ?_⟩;have hj:j<c.length:=(List.getElem?_eq_some_iff.1 hv).1
 have:=hr (off+j) v (by
  rw[h1,List.append_assoc,List.getElem?_append_right hV,h2,List.getElem?_append_left hV];rw[show off+j-off=j from by omega];exact hv)
 rwa [show o+(off+j)=o+off+j from by omega]at this
def flat:TypeDesc->Bool
 |.struct _| .array _ _=>false
 |_=>true
theorem pA {P:Program} {w:World} {t:TypeId} {u:TypeDesc} (hu:P.underlying t=some u) (hf:flat u=true) {b o:Nat} {v:Value} (hc:w.cell? ⟨b,o,none⟩=some v):
  (Instr.loadAt t (.pointer (some ⟨b,o,none⟩))).run P w= .ok v w:=by
 have G6:(isAgg t).run P w= .ok false w:=by
  unfold isAgg;rw[Sem.run_bind,run_underlying hu w]
  cases u<;>simp_all [flat,Result.andThen]
 simp[Instr.loadAt,Instr.sureAddr,loadVar,G6,load,Sem.run,hc]
theorem sL {P:Program} {w:World} {t:TypeId} {z:Value} {bytes:Nat} (ht:TI P t z 1 bytes) {b o:Nat} {v:Value} (h1:v.oneCell'=true) (hc:(w.cell? ⟨b,o,none⟩).isSome=true) (hf:w.frozen? ⟨b,o,none⟩=false):
  (Instr.storeAt t (.pointer (some ⟨b,o,none⟩)) v).run P w= .ok () (w.setCell ⟨b,o,none⟩ v):=by
 obtain⟨u,hu⟩:=Option.isSome_iff_exists.1 hc;have hv:v.cells= #[v]:=by cases v<;>simp_all [Value.oneCell',Value.cells]
 simp only[Instr.storeAt,Instr.sureAddr,storeVar,Sem.run_bind,Sem.run_pure,Result.andThen_ok,ht.sizeOf,hv];simp only[List.size_toArray,List.length_cons,List.length_nil,ne_eq,not_true_eq_false,if_false,storeCells,Addr.add_mid]
 cases v<;>simp_all [store,Sem.run,Value.oneCell']
section
variable {P:Program} {r:Option Nat} {n:Nat} {L:Sl} {ds:List Deferred} {w:World} {K:Kt} {ops:Array Oper} {rest:List Oper}
variable {d:Nat} {ty:TypeId} {pos:String} {af:Array Edge} {x y z:Operand} {α:Type} {A:RT α}
theorem Rg.idx {t e:TypeId} {i:Operand} {κ:IntKind} {j:Int} {hn:0<A.n} {M M1:aP} {w1:World} {xs:List α} {v zv:Value} {bytes:Nat} (ht:P.underlying t=some (.slice e)) (hi:TI P e zv A.n bytes)
  (hx:ev L x=some v) (G7:ev L i=some (.int κ j)) (hd:Nat.blt d n=true) (hv:(A.sl hn).V M1 w1 xs v) (hle:Le M1 w1 M w) (hj:0<=j/\j<xs.length)
  (k:∀u a,xs[j.toNat]? =some a->dp A M w u a->Rg P r n ops rest ((d,u)::L) ds w K):
  Rg P r n ops ({dst:=some d,op:= .indexAddr t x i,type:=ty,pos,after:=af,guard:=none}::rest) L ds w K:=by
 obtain⟨a,cap,rfl,hc,hl,hs⟩:=jE.1 (hv.le hle);have eU:j.toNat<xs.length:=by omega
 rcases hs with rfl|⟨b,o,rfl,hm,C1⟩
 ·simp at eU
 ·obtain⟨vs,h1,h2⟩:=C1 _ _ (List.getElem?_eq_getElem eU);refine .op a07 G G hd (.pointer (some ⟨b,o+j.toNat*A.n,none⟩)) w (λρ h=>?_) (k _ xs[j.toNat] (List.getElem?_eq_getElem eU) ⟨b,_,vs,G,hm,h1,h2⟩);simp only[execOp,h x _ hx,h i _ G7];simp[Instr.indexAt,run_underlying ht,asIntOf,hj,hi.sizeOf,Addr.add_mid]
theorem Rg.load {t:TypeId} {u:TypeDesc} {M M1:aP} {w1:World} {p:Value} {a:α} (hu:P.underlying t=some u) (hf:flat u=true) (hA:A.n=1) (hg:A.agg=false)
  (hx:ev L x=some p) (hd:Nat.blt d n=true) (hp:dp A M1 w1 p a) (hle:Le M1 w1 M w) (k:∀v,A.V M w a v->Rg P r n ops rest ((d,v)::L) ds w K):
  Rg P r n ops ({dst:=some d,op:= .load t x,type:=ty,pos,after:=af,guard:=none}::rest) L ds w K:=by
 obtain⟨b,o,vs,rfl,hm,h1,h2⟩:=hp.le hV hle;have hl:=A.len h1
 match vs,hl with
 |[v],_=>
  refine .op a07 G G hd v w (λρ h=>?_) (k v ⟨[v],h1,by simp[RT.val,hg]⟩);simp only[execOp,h x _ hx];have:=pA (P:=P) hu hf (h2 0 v rfl);simp only[Nat.add_zero]at this;rw[Sem.run_bind,this];simp
 |[],hl=>simp at hl;omega
 |_::_::_,hl=>simp at hl;omega
theorem Rg.RU {t:TypeId} {κ:IntKind} {M1:aP} {w1:World} {p:Value} {a:Int} (hu:P.underlying t=some (.int κ)) (hx:ev L x=some p) (hd:Nat.blt d n=true) {M:aP} (hp:dp (RT.int κ) M1 w1 p a)
  (hle:Le M1 w1 M w) (k:κ.min<=a->a<=κ.max->Rg P r n ops rest ((d,.int κ a)::L) ds w K):
  Rg P r n ops ({dst:=some d,op:= .load t x,type:=ty,pos,after:=af,guard:=none}::rest) L ds w K:=
 .load hu rfl rfl rfl hx hd hp hle λv hv=>by obtain⟨rfl,h1,h2⟩:=MN.1 hv;exact k h1 h2
theorem ic {hn:0<A.n} {M:aP} {w:World} {xs:List α} {v:Value} (h:(A.sl hn).V M w xs v):v.cells= #[v]:=by
 obtain⟨a,cap,rfl,_⟩:=jE.1 h;rfl
theorem iF {M:aP} {w:World} {x:Int} (h: -9223372036854775808<=x/\x<=9223372036854775807):(RT.int .i64).V M w x (.int .i64 x):=MN.2 ⟨rfl,h.1,h.2⟩
theorem Rg.cJ {t:TypeId} {M1:aP} {w1:World} {p:Value} {a:Int} (hu:P.underlying t=some (.int .i64)) (hx:ev L x=some p) (hd:Nat.blt d n=true) {M:aP} (hp:dp (RT.int .i64) M1 w1 p a)
  (hle:Le M1 w1 M w) (k: -9223372036854775808<=a/\a<=9223372036854775807->Rg P r n ops rest ((d,.int .i64 a)::L) ds w K):
  Rg P r n ops ({dst:=some d,op:= .load t x,type:=ty,pos,after:=af,guard:=none}::rest) L ds w K:=
 .RU hu hx hd hp hle λh1 h2=>k ⟨h1,h2⟩
theorem MO {hn:0<(RT.int .i64).n} {M:aP} {w:World} {xs:List Int} {v:Value} (h:((RT.int .i64).sl hn).V M w xs v) {i:Nat} {x:Int} (hx:xs[i]? =some x): -9223372036854775808<=x/\x<=9223372036854775807:=by
 obtain⟨a,cap,_,_,_,hs⟩:=jE.1 h;rcases hs with rfl|⟨b,o,_,_,C1⟩
 ·simp at hx
 ·obtain⟨vs,h1,_⟩:=C1 i x hx;exact⟨h1.2.1,h1.2.2⟩
theorem Rg.V3 {t:TypeId} {M1:aP} {w1:World} {p:Value} {a:UInt8} (hu:P.underlying t=some (.int .u8)) (hx:ev L x=some p) (hd:Nat.blt d n=true) {M:aP} (hp:dp RT.u8 M1 w1 p a)
  (hle:Le M1 w1 M w) (k:Rg P r n ops rest ((d,.int .u8 a.toNat)::L) ds w K):
  Rg P r n ops ({dst:=some d,op:= .load t x,type:=ty,pos,after:=af,guard:=none}::rest) L ds w K:=
 .load hu rfl rfl rfl hx hd hp hle λv hv=>by rw[V0.1 hv];exact k
theorem Rg.cZ {t:TypeId} {fs:TypeDesc} {zv:Value} {bytes:Nat} {M M1:aP} {w1:World} {p:Value} {a:α} (hu:P.underlying t=some fs) (hf:fs.isRow=true) (hi:TI P t zv A.n bytes) (hA:0<A.n) (hg:A.agg=true)
  (hx:ev L x=some p) (hd:Nat.blt d n=true) (hp:dp A M1 w1 p a) (hle:Le M1 w1 M w) (k:∀v,A.V M w a v->Rg P r n ops rest ((d,v)::L) ds w K):
  Rg P r n ops ({dst:=some d,op:= .load t x,type:=ty,pos,after:=af,guard:=none}::rest) L ds w K:=by
 obtain⟨b,o,vs,rfl,hm,h1,h2⟩:=hp.le hA hle;refine .op a07 G G hd (.agg vs.toArray) w (λρ h=>?_) (k _ ⟨vs,h1,by simp[RT.val,hg]⟩);simp only[execOp,h x _ hx];obtain⟨i,qQ,_,mu,_⟩:=hi.get;have:=run_loadAt_mid (P:=P) w b o t vs fs h2 hu hf (by simp[qQ,mu,A.len h1]);simp[this]
theorem Rg.fieldAddr {β:Type} {B:RT β} {f:α->β} {off:Nat} {s:TypeId} {fs:Array Field} {fd:Field} {j:Nat} {zv:Value} {bytes:Nat} {M M1:aP} {w1:World} {p:Value} {a:α}
  (hu:P.underlying s=some (.struct fs)) (V4:fs[j]? =some fd) (ho:fd.offset=off) (hi:TI P fd.type zv B.n bytes) (hB:0<B.n) (hp:Part A B f off)
  (hx:ev L x=some p) (hd:Nat.blt d n=true) (hA:0<A.n) (hpt:dp A M1 w1 p a) (hle:Le M1 w1 M w) (k:∀u,dp B M w u (f a)->Rg P r n ops rest ((d,u)::L) ds w K):
  Rg P r n ops ({dst:=some d,op:= .fieldAddr s x j,type:=ty,pos,after:=af,guard:=none}::rest) L ds w K:=by
 obtain⟨b,o,vs,rfl,hm,h1,h2⟩:=hpt.le hA hle;refine .op a07 G G hd _ w (λρ h=>?_) (k _ (dp.part hp hm h1 h2));simp only[execOp,h x _ hx];simp[Instr.fieldAt,run_underlying hu,V4,Instr.sureAddr,fieldPlace,hi.sizeOf,show B.n≠0 from by omega,ho,Addr.add_mid]
theorem wN.slice {M:aP} {w:World} {a:Option Addr} {xs:List α} (lo hi cap m:Nat) (h1:lo<=hi) (h2:hi<=xs.length) (hm:hi<=m) (hs:wN A M w a xs):
  wN A M w (if m=lo then a else a.map (·.add (lo*A.n))) ((xs.take hi).drop lo):=by
 by_cases ze:m=lo
 ·left;apply List.drop_eq_nil_of_le;rw[List.length_take];omega
 ·rw[if_neg ze];rcases hs with rfl|⟨b,o,rfl,h3,h4⟩
  ·left;simp
  ·right;refine ⟨b,o+lo*A.n,by simp[Addr.add_mid],h3,λi x hx=> ?_⟩;rw[List.getElem?_drop,List.getElem?_take]at hx
   split at hx
   ·obtain⟨vs,h5,h6⟩:=h4 _ _ hx;refine ⟨vs,h5,?_⟩;rw[show o+lo*A.n+i*A.n=o+(lo+i)*A.n from by rw[Nat.add_mul];omega];exact h6
   ·cases hx
theorem lB {t e:TypeId} (ht:P.underlying t=some (.slice e)):P.underlying t=some (.slice (P.elem t)):=by simp[Program.elem,ht]
theorem uy {t e:TypeId} (ht:P.underlying t=some (.slice e)):P.elem t=e:=by simp[Program.elem,ht]
theorem Rg.MP {t e:TypeId} {l h:Operand} {κ κ':IntKind} {lo hi:Int} {hn:0<A.n} {M:aP} {w1:World} {xs:List α} {v zv:Value} {bytes:Nat} (ht:P.underlying t=some (.slice e)) (RV:TI P e zv A.n bytes)
  (hx:ev L x=some v) (hl:ev L l=some (.int κ lo)) (hh:ev L h=some (.int κ' hi)) (hd:Nat.blt d n=true) (hv:(A.sl hn).V M w1 xs v) (hb:0<=lo/\lo<=hi/\hi<=xs.length)
  (k:∀u,(A.sl hn).V M w1 ((xs.take hi.toNat).drop lo.toNat) u->Rg P r n ops rest ((d,u)::L) ds w K):
  Rg P r n ops ({dst:=some d,op:= .slice t x (some l) (some h) none,type:=ty,pos,after:=af,guard:=none}::rest) L ds w K:=by
 obtain⟨a,cap,rfl,hc,hlen,hs⟩:=jE.1 hv;have zf:((xs.take hi.toNat).drop lo.toNat).length=hi.toNat-lo.toNat:=by rw[List.length_drop,List.length_take];omega
 refine .op a07 G G hd (sliced a lo.toNat hi.toNat cap A.n) w (λρ hρ=>?_) (k _ (jE.2 ⟨_,cap-lo.toNat,?_,by omega,by omega,hs.slice lo.toNat hi.toNat cap cap hV hV hV⟩))
 ·simp only[execOp,hρ x _ hx,Option.map_some,Option.map_none,hρ l _ hl,hρ h _ hh];rw[Sem.run_bind,run_sliceAt_slice _ _ _ _ _ _ (lB ht),run_slice_lh _ _ _ _ _ (lB ht) _ _ _ _ hb.1 hb.2.1 hV,uy ht,RV.sizeOf];simp
 ·rw[zf];rfl
theorem Rg.RW {t e:TypeId} {h:Operand} {κ':IntKind} {hi:Int} {hn:0<A.n} {M:aP} {w1:World} {xs:List α} {v zv:Value} {bytes:Nat} (ht:P.underlying t=some (.slice e)) (RV:TI P e zv A.n bytes)
  (hx:ev L x=some v) (hh:ev L h=some (.int κ' hi)) (hd:Nat.blt d n=true) (hv:(A.sl hn).V M w1 xs v) (hb:0<=hi/\hi<=xs.length)
  (k:∀u,(A.sl hn).V M w1 (xs.take hi.toNat) u->Rg P r n ops rest ((d,u)::L) ds w K):
  Rg P r n ops ({dst:=some d,op:= .slice t x none (some h) none,type:=ty,pos,after:=af,guard:=none}::rest) L ds w K:=by
 obtain⟨a,cap,rfl,hc,hlen,hs⟩:=jE.1 hv;have zf:(xs.take hi.toNat).length=hi.toNat:=by rw[List.length_take];omega
 have iA:=hs.slice (A:=A) 0 hi.toNat cap cap hV hV hV;rw[List.drop_zero]at iA;refine .op a07 G G hd (sliced a 0 hi.toNat cap A.n) w (λρ hρ=>?_) (k _ (jE.2 ⟨_,cap,?_,by omega,by omega,iA⟩))
 ·simp only[execOp,hρ x _ hx,Option.map_some,Option.map_none,hρ h _ hh];rw[Sem.run_bind,run_sliceAt_slice _ _ _ _ _ _ (lB ht),run_slice_h _ _ _ _ _ (lB ht) _ _ hb.1 hV,uy ht,RV.sizeOf];simp
 ·rw[zf];simp[sliced]
theorem Rg.pB {t e:TypeId} {l:Operand} {κ:IntKind} {lo:Int} {hn:0<A.n} {M:aP} {w1:World} {xs:List α} {v zv:Value} {bytes:Nat} (ht:P.underlying t=some (.slice e)) (RV:TI P e zv A.n bytes)
  (hx:ev L x=some v) (hl:ev L l=some (.int κ lo)) (hd:Nat.blt d n=true) (hv:(A.sl hn).V M w1 xs v) (hb:0<=lo/\lo<=xs.length)
  (k:∀u,(A.sl hn).V M w1 (xs.drop lo.toNat) u->Rg P r n ops rest ((d,u)::L) ds w K):
  Rg P r n ops ({dst:=some d,op:= .slice t x (some l) none none,type:=ty,pos,after:=af,guard:=none}::rest) L ds w K:=by
 obtain⟨a,cap,rfl,hc,hlen,hs⟩:=jE.1 hv;have zf:(xs.drop lo.toNat).length=xs.length-lo.toNat:=by rw[List.length_drop]
 have iA:=hs.slice (A:=A) lo.toNat xs.length cap cap hV hV hV;rw[List.take_length]at iA;refine .op a07 G G hd (sliced a lo.toNat xs.length cap A.n) w (λρ hρ=>?_) (k _ (jE.2 ⟨_,cap-lo.toNat,?_,by omega,by omega,iA⟩))
 ·simp only[execOp,hρ x _ hx,Option.map_some,Option.map_none,hρ l _ hl];rw[Sem.run_bind,run_sliceAt_slice _ _ _ _ _ _ (lB ht),run_slice_l _ _ _ _ _ (lB ht) _ _ hb.1 hV,uy ht,RV.sizeOf];simp
 ·rw[zf];rfl
theorem Rg.G8 {t e:TypeId} {h m:Operand} {κ κ':IntKind} {hi mx:Int} {hn:0<A.n} {M:aP} {w1:World} {xs:List α} {v zv:Value} {bytes:Nat} (ht:P.underlying t=some (.slice e)) (RV:TI P e zv A.n bytes)
  (hx:ev L x=some v) (hh:ev L h=some (.int κ hi)) (hm:ev L m=some (.int κ' mx)) (hd:Nat.blt d n=true) (hv:(A.sl hn).V M w1 xs v) (hb:hi=xs.length/\mx=xs.length)
  (k:∀a,(A.sl hn).V M w1 xs (.slice a xs.length xs.length)->(a=none->xs=[])->Rg P r n ops rest ((d,.slice a xs.length xs.length)::L) ds w K):
  Rg P r n ops ({dst:=some d,op:= .slice t x none (some h) (some m),type:=ty,pos,after:=af,guard:=none}::rest) L ds w K:=by
 obtain⟨a,cap,rfl,hc,hlen,hs⟩:=jE.1 hv;obtain⟨rfl,rfl⟩:=hb;refine .op a07 G G hd (.slice a xs.length xs.length) w (λρ hρ=>?_) (k a (jE.2 ⟨_,xs.length,G,Nat.le_refl _,hlen,hs⟩) ?_)
 ·simp only[execOp,hρ x _ hx,Option.map_some,Option.map_none,hρ h _ hh,hρ m _ hm];rw[Sem.run_bind,run_sliceAt_slice _ _ _ _ _ _ (lB ht),run_slice_hm _ _ _ _ _ (lB ht) _ _ _ _ hV hV hV,uy ht,RV.sizeOf];simp only[Result.andThen_ok,sliced,Int.toNat_natCast,Nat.zero_mul,Nat.sub_zero,Sem.run_pure];by_cases h0:xs.length=0
  ·simp[h0]
  ·rw[if_neg h0];rcases hs with rfl|⟨b,o,rfl,_⟩
   ·simp at h0
   ·simp[Addr.add_mid]
 ·rintro rfl;rcases hs with h|⟨b,o,h,_⟩
  ·exact h
  ·cases h
theorem dC (w:World) (o:Obj):(w.alloc o).heap[w.heap.size]? =some o:=heap_alloc_new w o
theorem Rg.box {e:TypeId} {v:Value} (M:aP) (hx:ev L x=some v) (hd:Nat.blt d n=true)
  (k:∀b w',w.heap.size<=b->b<w'.heap.size->w'.heap[b]? =some (.cells v.cells e (0,0))->Step M w (ins M b) w' aH->Rg P r n ops rest ((d,.pointer (some ⟨b,0,none⟩))::L) ds w' K):
  Rg P r n ops ({dst:=some d,op:= .box e x,type:=ty,pos,after:=af,guard:=none}::rest) L ds w K:=by
 refine .op a07 G G hd _ (w.alloc (.cells v.cells e)) (λρ hρ=>?_) (k w.heap.size _ (Nat.le_refl _) (by simp) (dC w _) ((ef M w _).own (Nat.le_refl _) (by simp)));simp only[execOp,hρ x _ hx];simp[Instr.box,newVar,newRow,newObj,Sem.run]
theorem Rg.alloc {e:TypeId} {zv:Value} {size bytes:Nat} (M:aP) (hi:TI P e zv size bytes) (hd:Nat.blt d n=true)
  (k:∀b w',w.heap.size<=b->b<w'.heap.size->w'.heap[b]? =some (.cells zv.cells e (0,0))->Step M w (ins M b) w' aH->Rg P r n ops rest ((d,.pointer (some ⟨b,0,none⟩))::L) ds w' K):
  Rg P r n ops ({dst:=some d,op:= .alloc e,type:=ty,pos,after:=af,guard:=none}::rest) L ds w K:=by
 obtain⟨i,h1,h2,h3,h4⟩:=hi.get;refine .op a07 G G hd _ (w.alloc (.cells zv.cells e)) (λρ hρ=>?_) (k w.heap.size _ (Nat.le_refl _) (by simp) (dC w _) ((ef M w _).own (Nat.le_refl _) (by simp)));simp only[execOp];simp[Instr.alloc,zeroValue,typeInfo,h1,h2,newVar,newRow,newObj,Sem.run]
theorem jR {b o:Nat} {cs:Array Value} {e:TypeId} {fr:Nat×Nat} {v:Value} (hb:w.heap[b]? =some (.cells cs e fr)) (hv:cs[o]? =some v):w.cell? ⟨b,o,none⟩=some v:=by
 simp[World.cell?,hb,hv]
theorem Rg.bW {t:TypeId} {u:TypeDesc} {b o:Nat} {cs:Array Value} {e:TypeId} {fr:Nat×Nat} {v:Value} (hu:P.underlying t=some u) (hf:flat u=true) (hx:ev L x=some (.pointer (some ⟨b,o,none⟩))) (hd:Nat.blt d n=true)
  (hb:w.heap[b]? =some (.cells cs e fr)) (hv:cs[o]? =some v) (k:Rg P r n ops rest ((d,v)::L) ds w K):
  Rg P r n ops ({dst:=some d,op:= .load t x,type:=ty,pos,after:=af,guard:=none}::rest) L ds w K:=
 .op a07 rfl rfl hd v w (λρ hρ=>by
  simp only[execOp,hρ x _ hx];rw[Sem.run_bind,pA (P:=P) hu hf (jR hb hv)];simp) k
theorem zg {b o:Nat} {cs:Array Value} {e:TypeId} {fr:Nat×Nat} {v:Value} (hb:w.heap[b]? =some (.cells cs e fr)):(w.setCell ⟨b,o,none⟩ v).heap[b]? =some (.cells (cs.setIfInBounds o v) e fr):=by
 simp[World.setCell,Array.getElem?_modify,hb]
theorem uz (M:aP) {b o:Nat} {v:Value} (hm:M b):Step M w M (w.setCell ⟨b,o,none⟩ v) (λk=>k=b):=
 ⟨λh b hb=>by simpa[World.setCell]using h b hb,rfl,rfl,rfl,by simp[World.setCell],λ_ _=>Iff.rfl,λk _ hn=>Go.RowKit.Below.heap_setCell w _ v k hn,λk hk=>by subst hk;exact hm⟩
theorem Rg.dx {t:TypeId} {zv:Value} {bytes:Nat} {b o:Nat} {cs:Array Value} {e:TypeId} {u v:Value} {M:aP} (hi:TI P t zv 1 bytes) (hx:ev L x=some (.pointer (some ⟨b,o,none⟩))) (hy:ev L y=some v)
  (hb:w.heap[b]? =some (.cells cs e (0,0))) (hv:cs[o]? =some u) (h1:v.oneCell'=true) (hm:M b)
  (k:∀w',w'.heap[b]? =some (.cells (cs.setIfInBounds o v) e (0,0))->Step M w M w' (λk=>k=b)->Rg P r n ops rest L ds w' K):
  Rg P r n ops ({dst:=none,op:= .store t x y,type:=ty,pos,after:=af,guard:=none}::rest) L ds w K:=by
 refine .VW a07 G G (w.setCell ⟨b,o,none⟩ v) (λρ hρ=>?_) (k _ (zg hb) (uz M hm));simp only[execOp,hρ x _ hx,hρ y _ hy];have:=sL (P:=P) hi (w:=w) (b:=b) (o:=o) h1 (by rw[jR hb hv];rfl) (by simp[World.frozen?,hb]);simp[this]
theorem MQ (size:Nat) (zs vs:Array Value) (v:Value) (hz:zs.size=size) (hv:v.cells=vs) (hs:vs.size=size):Instr.fill (λi=>some (i*size,size)) zs [(0,v)]=some vs:=by
 simp only[Instr.fill,hv,hs,Nat.zero_mul,Nat.zero_add,hz];simp only[ne_eq,not_true_eq_false,decide_false,Bool.false_or,Nat.lt_irrefl,decide_false,gt_iff_lt,if_false,Bool.false_eq_true];congr 1
 have key:∀(l:List Value) (k:Nat) (cs:Array Value),k+l.length=cs.size->∀j:Nat,((l.zipIdx k).foldl (fun(cs:Array Value) (x:Value×Nat)=>cs.setIfInBounds x.2 x.1) cs)[j]? =if j<k then cs[j]? else l[j-k]? :=by
  intro l
  induction l with
  |nil=>
   intro k cs hk j;simp at hk ⊢;intro h;omega
  |cons a l ih=>
   intro k cs hk j;simp only[List.zipIdx_cons,List.foldl_cons];rw[ih (k+1) _ (by simp at hk ⊢;omega) j];rw[Array.getElem?_setIfInBounds];simp at hk;by_cases h1:j<k
   ·rw[if_pos hV,if_pos h1,if_neg hV]
   ·by_cases h2:j=k
    ·subst h2;rw[if_pos hV,if_pos rfl,if_neg h1];simp;omega
    ·rw[if_neg hV,if_neg h1,show j-k=(j-(k+1))+1 from by omega];simp
 apply Array.ext_getElem?;intro j;have:=key vs.toList 0 zs (by simp[hs,hz]) j;simp only[Nat.not_lt_zero,if_false,Nat.sub_zero,Array.getElem?_toList]at this;rw[<-this];rw[<-Array.foldl_toList];simp[Array.toList_zipIdx]
theorem Rg.kc {t e:TypeId} {zv v:Value} {bytes:Nat} {hn:0<A.n} {M:aP} {a:α} (ht:P.underlying t=some (.slice e)) (hi:TI P e zv A.n bytes) (C2:A.n<=1000) (hx:ev L x=some v) (hd:Nat.blt d n=true) (hm:Lt M w)
  (hv:A.V M w a v) (Eb:A.agg=true\/A.n=1/\A.agg=false) (k:∀u w',(A.sl hn).V M w' [a] u->Step M w M w' aH->Rg P r n ops rest ((d,u)::L) ds w' K):
  Rg P r n ops ({dst:=some d,op:= .buildSlice t 1 #[(0,x)],type:=ty,pos,after:=af,guard:=none}::rest) L ds w K:=by
 obtain⟨vs,h1,h2⟩:=hv;have hl:=A.len h1;have wR:=A.one h1
 have hc:v.cells=vs.toArray:=by
  subst h2;rcases Eb with hg|⟨h3,hg⟩
  ·simp[RT.val,hg,Value.cells]
  ·match vs,hl,h3 with
   |[u],_,_=>
    have:=wR u (by simp);simp only[RT.val,hg,List.headD_cons]
    cases u<;>simp_all [Value.cells,Value.oneCell']
   |[],hl,h3=>simp at hl;omega
   |_::_::_,hl,h3=>simp at hl;omega
 obtain⟨i,qQ,mu,hi3,hi4⟩:=hi.get;have hs:=ef M w (.cells vs.toArray e)
 refine .op a07 G G hd (.slice (some ⟨w.heap.size,0,none⟩) 1 1) (w.alloc (.cells vs.toArray e)) (λρ hρ=>?_)
  (k _ _ (jE.2 ⟨_,1,rfl,Nat.le_refl _,by simp,.inr ⟨w.heap.size,0,rfl,λh=>by have:=hm _ h;omega,λi x hx=>?_⟩⟩) hs)
 ·simp only[execOp,List.map_toArray,List.map_cons,List.map_nil,hρ x _ hx];simp only[Instr.buildSlice,Sem.run_bind,run_underlying ht,Result.andThen_ok,hi.sizeOf,Nat.one_mul];rw[if_neg hV,if_neg hV];simp only[Sem.run_bind,zeroValue,typeInfo,program,Sem.run,qQ,mu,Result.andThen_ok,Sem.run_pure];rw[MQ A.n _ vs.toArray v (by simp) hc (by simpa using hl)];simp[newRow,newObj,Sem.run]
 ·cases i with
  |zero=>
   simp at hx;subst hx;refine ⟨vs,A.le hs.le h1,λj u hu=> ?_⟩;exact jR (dC w _) (by simpa using hu)
  |succ i=>simp at hx
theorem B2 (size:Nat) (zs:Array Value) (i:Nat) (v:Value) (vs:List Value) (rest:List (Nat×Value)) (hv:v.cells=vs.toArray) (hs:vs.length=size) (hz:i*size+size<=zs.size):
  ∃RX,Instr.fill (λi=>some (i*size,size)) zs ((i,v)::rest)=Instr.fill (λi=>some (i*size,size)) RX rest/\RX.size=zs.size/\
   ∀j,RX[j]? =if i*size<=j/\j<i*size+size then vs[j-i*size]? else zs[j]? :=by
 have key:∀(l:List Value) (k o:Nat) (cs:Array Value),o+k+l.length<=cs.size->((l.zipIdx k).foldl (fun(cs:Array Value) (x:Value×Nat)=>cs.setIfInBounds (o+x.2) x.1) cs).size=cs.size/\
   ∀j:Nat,((l.zipIdx k).foldl (fun(cs:Array Value) (x:Value×Nat)=>cs.setIfInBounds (o+x.2) x.1) cs)[j]? =if o+k<=j/\j<o+k+l.length then l[j-(o+k)]? else cs[j]? :=by
  intro l
  induction l with
  |nil=>
   intro k o cs hk;refine ⟨G,λj=> ?_⟩;simp;intro h1 h2;omega
  |cons a l ih=>
   intro k o cs hk;simp only[List.zipIdx_cons,List.foldl_cons];simp only[List.length_cons]at hk;obtain⟨h1,h2⟩:=ih (k+1) o (cs.setIfInBounds (o+k) a) a06;refine ⟨by rw[h1];simp,λj=> ?_⟩;rw[h2 j,Array.getElem?_setIfInBounds,List.length_cons];by_cases h3:o+(k+1)<=j/\j<o+(k+1)+l.length
   ·rw[if_pos h3,if_pos hV,show j-(o+k)=(j-(o+(k+1)))+1 from by omega];simp
   ·rw[if_neg h3];by_cases h4:o+k=j
    ·subst h4;rw[if_pos rfl,if_pos hV,if_pos hV];simp
    ·rw[if_neg h4,if_neg hV]
 obtain⟨k1,k2⟩:=key vs 0 (i*size) zs hV;refine⟨_,?_,k1,λj=>?_⟩
 ·conv=>lhs;rw[Instr.fill]
  simp only[hv,hs];simp[hs,show¬(zs.size<i*size+size) by omega]
 ·rw[k2 j,Nat.add_zero,hs]
def V5 {α:Type} (A:RT α) (M:aP) (w:World) (L:List (Nat×Value)):Nat->List (Nat×Operand)->List α->Prop
 |_,[],xs=>xs=[]
 |i,p::ps,xs=>∃a aa v,xs=a::aa/\p.1=i/\ev L p.2=some v/\A.V M w a v/\V5 A M w L (i+1) ps aa
theorem MR {α:Type} {A:RT α} {M:aP} {w:World} {a:α} {vs:List Value} (h1:A.R M w a vs) (Eb:A.agg=true\/A.n=1/\A.agg=false):(A.val vs).cells=vs.toArray:=by
 have hl:=A.len h1;have wR:=A.one h1;rcases Eb with hg|⟨h3,hg⟩
 ·simp[RT.val,hg,Value.cells]
 ·match vs,hl,h3 with
  |[u],_,_=>
   have:=wR u (by simp);simp only[RT.val,hg,List.headD_cons]
   cases u<;>simp_all [Value.cells,Value.oneCell']
  |[],hl,h3=>simp at hl;omega
  |_::_::_,hl,h3=>simp at hl;omega
theorem Ek {α:Type} {A:RT α} {M:aP} {w:World} {L:List (Nat×Value)} (Eb:A.agg=true\/A.n=1/\A.agg=false):∀(ps:List (Nat×Operand)) (i:Nat) (xs:List α) (zs:Array Value),
  V5 A M w L i ps xs->zs.size=(i+xs.length)*A.n->
  ∃(iB:List (Nat×Value)) (C:List Value) (RX:Array Value),(∀ρ:Operand->Value,(∀x v,ev L x=some v->ρ x=v)->ps.map (λp=>(p.1,ρ p.2))=iB)/\fX A M w xs C/\Instr.fill (λi=>some (i*A.n,A.n)) zs iB=some RX/\RX.size=zs.size/\
   ∀j,RX[j]? =if i*A.n<=j then C[j-i*A.n]? else zs[j]?
 |[],i,xs,zs,hp,hz=>by
  cases hp;refine ⟨[],[],zs,λρ _=>G,G,G,G,λj=> ?_⟩
  split
  ·simp at hz ⊢;omega
  ·rfl
 |p::ps,i,xs,zs,hp,hz=>by
  obtain⟨a,aa,v,rfl,hpi,Ms,hv,hr⟩:=hp;obtain⟨vs,h1,h2⟩:=hv;have hc:=MR h1 Eb;rw[<-h2]at hc;have hl:=A.len h1;have hmul:(i+(a::aa).length)*A.n=i*A.n+A.n+aa.length*A.n:=by rw[List.length_cons,Nat.add_mul,Nat.add_mul];omega
  obtain⟨z1,e1,e2,e3⟩:=B2 A.n zs i v vs (ps.map λ_=>(0,undef)) hc hl (by rw[hz,hmul];omega);obtain⟨iB,C,z2,f1,f2,f3,f4,f5⟩:=Ek Eb ps (i+1) aa z1 hr (by rw[e2,hz,List.length_cons,show i+1+aa.length=i+(aa.length+1)from by omega]);obtain⟨z1',e1',e2',e3'⟩:=B2 A.n zs i v vs iB hc hl (by rw[hz,hmul];omega);have hzz:z1=z1':=Array.ext_getElem? λj=>by rw[e3 j,e3' j]
  subst hzz;refine ⟨(i,v)::iB,vs++C,z2,λρ hρ=>by rw[List.map_cons,f1 ρ hρ,hpi,hρ _ _ Ms],⟨vs,C,rfl,h1,f2⟩,by rw[e1',f3],by rw[f4,e2],λj=> ?_⟩;rw[f5 j,e3 j,Nat.add_mul,Nat.one_mul];by_cases h3:i*A.n+A.n<=j
  ·rw[if_pos h3,if_pos hV,List.getElem?_append_right hV,hl,show j-i*A.n-A.n=j-(i*A.n+A.n)from by omega]
  ·rw[if_neg h3];by_cases h4:i*A.n<=j
   ·rw[if_pos hV,if_pos h4,List.getElem?_append_left hV]
   ·rw[if_neg hV,if_neg h4]
theorem Rg.Kp {t e:TypeId} {zv:Value} {bytes nn:Nat} {ps:Array (Nat×Operand)} {hn:0<A.n} {M:aP} {xs:List α} (ht:P.underlying t=some (.slice e)) (hi:TI P e zv A.n bytes) (hz:zv.cells.size=A.n) (C2:nn*A.n<=16777216) (Us:nn=xs.length) (tu:V5 A M w L 0 ps.toList xs) (hd:Nat.blt d n=true) (hm:Lt M w)
  (Eb:A.agg=true\/A.n=1/\A.agg=false) (hnz:0<nn) (k:∀u w',(A.sl hn).V M w' xs u->Step M w M w' aH->Rg P r n ops rest ((d,u)::L) ds w' K):
  Rg P r n ops ({dst:=some d,op:= .buildSlice t nn ps,type:=ty,pos,after:=af,guard:=none}::rest) L ds w K:=by
 subst Us;obtain⟨i,qQ,mu,hi3,hi4⟩:=hi.get;obtain⟨iB,C,RX,f1,f2,f3,f4,f5⟩:=Ek Eb ps.toList 0 xs (Array.map (λx=>zv.cells[x%zv.cells.size]!) (Array.range (xs.length*A.n))) tu (by simp);have hzC:RX=C.toArray:=Array.ext_getElem? λj=>by rw[f5 j,Nat.zero_mul,if_pos (Nat.zero_le _),Nat.sub_zero];simp
 subst hzC;have hs:=ef M w (.cells C.toArray e);have y9:0<xs.length*A.n:=Nat.mul_pos hnz hn;have hlen:xs.length<=16777216:=Nat.le_trans (by have:=Nat.mul_le_mul_left xs.length hn;omega) C2
 refine .op a07 G G hd (.slice (some ⟨w.heap.size,0,none⟩) xs.length xs.length) (w.alloc (.cells C.toArray e)) (λρ hρ=>?_)
  (k _ _ (jE.2 ⟨_,_,rfl,Nat.le_refl _,by omega,.inr ⟨w.heap.size,0,rfl,λh=>by have:=hm _ h;omega,λi x hx=>?_⟩⟩) hs)
 ·have hmp:(ps.map fun(i,x)=>(i,ρ x)).toList=iB:=by rw[Array.toList_map];exact f1 ρ hρ
  simp only[execOp];simp only[Instr.buildSlice,Sem.run_bind,run_underlying ht,Result.andThen_ok,hi.sizeOf];rw[if_neg hV,if_neg hV];simp only[Sem.run_bind,zeroValue,typeInfo,program,Sem.run,qQ,mu,Result.andThen_ok,Sem.run_pure];rw[hmp,f3];simp[newRow,newObj,Sem.run]
 ·obtain⟨us,h1,h2⟩:=(f2.le hs.le).at_ i x hx;exact⟨us,h1,λj u hu=>by rw[Nat.zero_add];exact jR (dC w _) (by simpa using h2 j u hu)⟩
def mI (M:aP) (v:Value):aP:=λk=>v.ownBlock=some k\/M k
def nJ (v:Value):aP:=λk=>v.ownBlock=some k
theorem yL {M:aP} {w':World} {v':Value} (hs:w.heap.size<=w'.heap.size) (hv:∀b,v'.ownBlock=some b->b<w'.heap.size) (h:Lt M w):Lt (mI M v') w':=λb hb=>by
 rcases hb with hb|hb
 ·exact hv b hb
 ·exact Nat.lt_of_lt_of_le (h b hb) hs
theorem G9 {M:aP} {w':World} {v v':Value} (hg:w.grownBy w' v.ownBlock) (hm:∀b,v.ownBlock=some b->M b) (hv:∀b,v'.ownBlock=some b->w.heap.size<=b\/v.ownBlock=some b) (eU:∀b,v'.ownBlock=some b->b<w'.heap.size):
  Step M w (mI M v') w' (nJ v):=
 ⟨yL hg.size eU,hg.os,hg.tape,hg.output,hg.size,λb hb=>⟨λh=>by
  rcases h with h|h
  ·rcases hv b h with h2|h2
   ·omega
   ·exact hm b h2
  ·exact h,λh=> .inr h⟩,λb hb hn=>hg.block b hb (λh=>hn h.symm),λb hb=>hm b hb⟩
theorem qk {t ty e:TypeId} {zv:Value} {size bytes:Nat} (ht:P.underlying t=some (.slice e)) (hi:TI P e zv size bytes) (a:Option Addr) (l cap c:Nat) (b:Option Addr) (hl:l<=cap):
  (Builtin.append_ #[t,t] ty #[.slice a l cap,.slice b 0 c]).run P w= .ok (.slice a l cap) w:=by
 obtain⟨i,h1,h2,h3,h4⟩:=hi.get
 cases a<;>cases b<;>simp[Builtin.append_,run_underlying ht,sizeOf,typeInfo,h1,Builtin.lenOf,hl,Builtin.firstCells,loadCells,loadCellsFrom,storeCells]
theorem Own.nP {t ty e:TypeId} {zv:Value} {bytes:Nat} {hn:0<A.n} {M M2:aP} {base:Nat} {v u:Value} {xs ys:List α} (ht:P.underlying t=some (.slice e)) (hi:TI P e zv A.n bytes) (hz:zv.cells.size=A.n)
  (h:Own A e M w base v xs) (hle:Le M2 w M w) (hu:(A.sl hn).V M2 w ys u) (hlen:xs.length+ys.length<=140737488355328) (hb:(xs.length+ys.length)*bytes<=140737488355328) (lE:base<=w.heap.size):
  ∃v' w',(Builtin.append_ #[t,t] ty #[v,u]).run P w= .ok v' w'∧Own A e (mI M v') w' base v' (xs++ys)/\Step M w (mI M v') w' (nJ v)/\(∀b,v'.ownBlock=some b->w.heap.size<=b\/v.ownBlock=some b):=by
 obtain⟨a,c,rfl,hc,hl,hs⟩:=jE.1 hu;obtain⟨i,h1,h2,h3,h4⟩:=hi.get;have MS:xs.length+ys.length<=maxLen:=by unfold maxLen;omega
 rcases hs with rfl|⟨b,o,rfl,hmb,C1⟩
 ·obtain⟨a',cap,rfl,agn⟩:=h.isSlice;refine⟨_,w,qk ht hi a' xs.length cap c a agn,?_,?_,λb hb=> .inr hb⟩
  ·rw[List.append_nil];obtain⟨⟨C,hr,ha⟩,hm⟩:=h;have hs:Step M w (mI M (.slice a' xs.length cap)) w aH:=⟨yL (Nat.le_refl _) (λb hb=>(hr.lt b hb).2),rfl,rfl,rfl,Nat.le_refl _,λb _=>⟨λh=>h.elim (hm b) id,λh=> .inr h⟩,λ_ _ _=>rfl,λ_ h=>h.elim⟩;exact⟨⟨C,hr,ha.le hs.le⟩,λb hb=> .inl hb⟩
  ·exact⟨yL (Nat.le_refl _) (λb hb=>(h.base b hb).2),G,G,G,Nat.le_refl _,λb _=>⟨λh'=>h'.elim (h.mut_ b) id,λh=> .inr h⟩,λ_ _ _=>G,λb hb=>h.mut_ b hb⟩
 ·obtain⟨D,hD,hDr⟩:=wN.all C1;have Kq:=hD.length;have B3:∀j u,D[j]? =some u->w.cell? ((⟨b,o,none⟩:Addr).add j)=some u:=λj u hj=>by rw[Addr.add_mid];exact hDr j u hj
  have hD1:=hD.one;obtain⟨⟨C,hr,ha⟩,hm⟩:=h;have hr':=hr;obtain⟨V6,RY⟩:=hr'
  have fin:∀v' w',w'.ownsRow base e A.n v' (xs.length+ys.length) (C++D)->w.grownBy w' v.ownBlock->(∀b,v'.ownBlock=some b->w.heap.size<=b\/v.ownBlock=some b)->
    Own A e (mI M v') w' base v' (xs++ys)/\Step M w (mI M v') w' (nJ v):=by
   intro v' w' ho hg sM;have lF:=G9 (M:=M) hg hm sM (λb hb=>(ho.lt b hb).2);refine⟨⟨⟨C++D,by rw[List.length_append];exact ho,?_⟩,λb hb=> .inl hb⟩,lF⟩;exact fX.append (hD.le (hle.trans lF.le)) (ha.le lF.le)
  rcases RY with⟨rfl,wT⟩|⟨g,cap,cur,rfl,hbg,hg,hnc,hcm,hcs,aap⟩
  ·have hx:xs=[]:=List.eq_nil_of_length_eq_zero wT;subst hx;have hC:C=[]:=List.eq_nil_of_length_eq_zero (by simpa using V6);subst hC
   obtain⟨v',w',jg,ho,zh,_⟩:=run_append_own (P:=P) w w.heap.size t ty e i zv A.n bytes ht h1 h2 h3 h4 hz hn (.slice none 0 0) 0 [] (World.ownsRow_nil w _ e A.n) ⟨b,o,none⟩ ys.length c D Kq B3 hD1
    (by simpa using MS) (by simpa using hb) (Nat.le_refl _)
   obtain⟨q1,q2⟩:=fin v' w' (by
    obtain⟨p1,p2⟩:=ho;refine ⟨by simpa using p1,p2.imp (λh=>by simpa using h) ?_⟩;rintro⟨g,cap,cur,p3,p4,p5⟩;exact⟨g,cap,cur,by simpa using p3,Nat.le_trans lE p4,by simpa using p5⟩) zh (λk hk=> .inl (ho.lt k hk).1)
   exact⟨v',w',jg,q1,q2,λk hk=> .inl (ho.lt k hk).1⟩
  ·by_cases MT:xs.length+ys.length<=cap
   ·have ags:xs.length*A.n+D.length<=cur.size:=by rw[Kq,hcs,<-Nat.add_mul];exact Nat.mul_le_mul_right _ MT
    have jg:=run_append_room (P:=P) w t ty e i ht h1 g xs.length cap cur hg ⟨b,o,none⟩ ys.length c D (by rw[Kq,<-h3]) B3 hD1 MT (by rw[h3];exact ags);rw[h3]at jg;have hCD:(C++D).length=(xs.length+ys.length)*A.n:=by rw[List.length_append,V6,Kq,Nat.add_mul]
    obtain⟨RZ,V7⟩:∃c,c=(cur.toList.take (xs.length*A.n)++D++cur.toList.drop (xs.length*A.n+D.length)).toArray:=⟨_,rfl⟩;rw[<-V7]at jg
    have e1:RZ.size=cap*A.n:=by
     rw[V7];simp only[List.size_toArray,List.length_append,List.length_take,List.length_drop,Array.length_toList];omega
    have e2:RZ.toList.take ((xs.length+ys.length)*A.n)=C++D:=by
     rw[V7];simp only[aap];rw[<-hCD];exact List.take_left
    obtain⟨q1,q2⟩:=fin (.slice (some ⟨g,0,none⟩) (xs.length+ys.length) cap) (w.setRow g RZ)
     ⟨hCD,.inr ⟨g,cap,RZ,rfl,hbg,setRow_heap w g cur _ e _ hg,MT,hcm,e1,e2⟩⟩
     ⟨rfl,rfl,rfl,by simp,λk _ hk=>setRow_other w g k _ (λe=>hk (by simp[Value.ownBlock,e]))⟩ (λk hk=> .inr hk)
    exact⟨_,_,jg,q1,q2,λk hk=> .inr hk⟩
   ·have holds:∀j u,C[j]? =some u->w.cell? ((⟨g,0,none⟩:Addr).add j)=some u:=hr.cells (g:=g) rfl;obtain⟨v',w',jg,ho,zh⟩:=run_append_arg_grows (P:=P) w t ty e i zv A.n bytes ht h1 h2 h3 h4 hz hn ⟨g,0,none⟩ xs.length cap C V6 holds ⟨b,o,none⟩ ys.length c D Kq B3 hV MS hb
    obtain⟨q1,q2⟩:=fin v' w' ⟨ho.1,ho.2.imp id (fun⟨g',R0,aaq,p3,p4,p5⟩=>⟨g',R0,aaq,p3,Nat.le_trans lE p4,p5⟩)⟩
     ⟨zh.os,zh.tape,zh.output,zh.size,λk hk _=>zh.block k hk (by simp)⟩ (λk hk=> .inl (ho.lt k hk).1)
    exact⟨v',w',jg,q1,q2,λk hk=> .inl (ho.lt k hk).1⟩
theorem Own.append {t ty e:TypeId} {zv:Value} {bytes:Nat} {hn:0<A.n} {M M2:aP} {base:Nat} {v u:Value} {xs ys:List α} (ht:P.underlying t=some (.slice e)) (hi:TI P e zv A.n bytes) (hz:zv.cells.size=A.n)
  (h:Own A e M w base v xs) (hle:Le M2 w M w) (hu:(A.sl hn).V M2 w ys u) (hlen:xs.length+ys.length<=140737488355328) (hb:(xs.length+ys.length)*bytes<=140737488355328) (lE:base<=w.heap.size):
  ∃v' w',(Builtin.append_ #[t,t] ty #[v,u]).run P w= .ok v' w'∧Own A e (mI M v') w' base v' (xs++ys)/\Step M w (mI M v') w' (nJ v):=by
 obtain⟨v',w',h1,h2,h3,_⟩:=Own.nP (ty:=ty) ht hi hz h hle hu hlen hb lE;exact⟨v',w',h1,h2,h3⟩
theorem Rg.nP {t e:TypeId} {zv:Value} {bytes:Nat} {hn:0<A.n} {M M2:aP} {w2:World} {base:Nat} {v u:Value} {xs ys:List α} (ht:P.underlying t=some (.slice e)) (hi:TI P e zv A.n bytes) (hz:zv.cells.size=A.n)
  (hx:ev L x=some v) (hy:ev L y=some u) (hd:Nat.blt d n=true) (h:Own A e M w base v xs) (hu:(A.sl hn).V M2 w2 ys u) (hle:Le M2 w2 M w) (hlen:xs.length+ys.length<=140737488355328)
  (hb:(xs.length+ys.length)*bytes<=140737488355328) (lE:base<=w.heap.size)
  (k:∀v' w',Own A e (mI M v') w' base v' (xs++ys)->Step M w (mI M v') w' (nJ v)->(∀b,v'.ownBlock=some b->w.heap.size<=b\/v.ownBlock=some b)->Rg P r n ops rest ((d,v')::L) ds w' K):
  Rg P r n ops ({dst:=some d,op:= .call {callee:= .builtin .append,args:= #[x,y],argTypes:= #[t,t]},type:=ty,pos,after:=af,guard:=none}::rest) L ds w K:=by
 obtain⟨v',w',jg,h1,h2,h3⟩:=Own.nP (ty:=ty) ht hi hz h (Le.refl M w) (hu.le hle) hlen hb lE;refine .op a07 G G hd v' w' (λρ hρ=>?_) (k v' w' h1 h2 h3);simp only[execOp,resolve,List.map_toArray,List.map_cons,List.map_nil,hρ x _ hx,hρ y _ hy];simp[invoke,builtin,jg]
def k5 (v u:Value):Prop:=∀b,v.ownBlock=some b->u.ownBlock≠some b
theorem k5.symm {v u:Value} (h:k5 v u):k5 u v:=λb h1 h2=>h b h2 h1
theorem k5.nil (v:Value):k5 v (.slice none 0 0):=λb _ h=>by cases h
theorem k5.grown {v v' u:Value} (h:k5 v u) (hF:∀b,v'.ownBlock=some b->w.heap.size<=b\/v.ownBlock=some b) (hu:∀b,u.ownBlock=some b->b<w.heap.size):k5 v' u:=λb h1 h2=>by
 rcases hF b h1 with h3|h3
 ·have:=hu b h2;omega
 ·exact h b h3 h2
theorem Rg.append {t e:TypeId} {zv:Value} {bytes:Nat} {hn:0<A.n} {M M2:aP} {w2:World} {base:Nat} {v u:Value} {xs ys:List α} (ht:P.underlying t=some (.slice e)) (hi:TI P e zv A.n bytes) (hz:zv.cells.size=A.n)
  (hx:ev L x=some v) (hy:ev L y=some u) (hd:Nat.blt d n=true) (h:Own A e M w base v xs) (hu:(A.sl hn).V M2 w2 ys u) (hle:Le M2 w2 M w) (hlen:xs.length+ys.length<=140737488355328)
  (hb:(xs.length+ys.length)*bytes<=140737488355328) (lE:base<=w.heap.size)
  (k:∀v' M' w',Own A e M' w' base v' (xs++ys)->Step M w M' w' (nJ v)->Rg P r n ops rest ((d,v')::L) ds w' K):
  Rg P r n ops ({dst:=some d,op:= .call {callee:= .builtin .append,args:= #[x,y],argTypes:= #[t,t]},type:=ty,pos,after:=af,guard:=none}::rest) L ds w K:=by
 obtain⟨v',w',jg,h1,h2⟩:=Own.append (ty:=ty) ht hi hz h (Le.refl M w) (hu.le hle) hlen hb lE;refine .op a07 G G hd v' w' (λρ hρ=>?_) (k v' _ w' h1 h2);simp only[execOp,resolve,List.map_toArray,List.map_cons,List.map_nil,hρ x _ hx,hρ y _ hy];simp[invoke,builtin,jg]
theorem Rg.zi {t e:TypeId} {zv:Value} {bytes:Nat} {hn:0<A.n} {M M2:aP} {w2:World} {a:Option Addr} {u:Value} {xs ys:List α} (ht:P.underlying t=some (.slice e)) (hi:TI P e zv A.n bytes) (hz:zv.cells.size=A.n)
  (hx:ev L x=some (.slice a xs.length xs.length)) (hy:ev L y=some u) (hd:Nat.blt d n=true) (h:(A.sl hn).V M w xs (.slice a xs.length xs.length)) (uA:a=none->xs=[]) (hu:(A.sl hn).V M2 w2 ys u) (hle:Le M2 w2 M w)
  (fB:0<ys.length) (hlen:xs.length+ys.length<=140737488355328) (hb:(xs.length+ys.length)*bytes<=140737488355328)
  (k:∀v' M' w',Own A e M' w' w.heap.size v' (xs++ys)->Step M w M' w' aH->Rg P r n ops rest ((d,v')::L) ds w' K):
  Rg P r n ops ({dst:=some d,op:= .call {callee:= .builtin .append,args:= #[x,y],argTypes:= #[t,t]},type:=ty,pos,after:=af,guard:=none}::rest) L ds w K:=by
 obtain⟨a2,c,rfl,hc,hl,hs⟩:=jE.1 (hu.le hle);obtain⟨i,h1,h2,h3,h4⟩:=hi.get;have MS:xs.length+ys.length<=maxLen:=by unfold maxLen;omega
 rcases hs with rfl|⟨b,o,rfl,hmb,C1⟩
 ·simp at fB
 obtain⟨D,hD,hDr⟩:=wN.all C1;have Kq:=hD.length;have B3:∀j u,D[j]? =some u->w.cell? ((⟨b,o,none⟩:Addr).add j)=some u:=λj u hj=>by rw[Addr.add_mid];exact hDr j u hj
 have hD1:=hD.one
 have hold:∃C,fX A M w xs C/\∃v' w',(Builtin.append_ #[t,t] ty #[.slice a xs.length xs.length,.slice (some ⟨b,o,none⟩) ys.length c]).run P w= .ok v' w'∧w'.ownsRow w.heap.size e A.n v' (xs.length+ys.length) (C++D)/\w.grownBy w' none:=by
  cases a with
  |none=>
   have:=uA rfl;subst this
   obtain⟨v',w',jg,ho,zh,_⟩:=run_append_own (P:=P) w w.heap.size t ty e i zv A.n bytes ht h1 h2 h3 h4 hz hn (.slice none 0 0) 0 [] (World.ownsRow_nil w _ e A.n) ⟨b,o,none⟩ ys.length c D Kq B3 hD1
    (by simpa using MS) (by simpa using hb) (Nat.le_refl _)
   exact⟨[],rfl,v',w',jg,by simpa using ho,⟨zh.os,zh.tape,zh.output,zh.size,λk hk _=>zh.block k hk (by simp[Value.ownBlock])⟩⟩
  |some p=>
   obtain⟨_,_,he,_,_,C3⟩:=jE.1 h
   cases he
   have hC:∃C,fX A M w xs C/\∀j u,C[j]? =some u->w.cell? (p.add j)=some u:=by
    rcases C3 with rfl|⟨b1,o1,h5,Ha,agt⟩
    ·exact⟨[],rfl,λj u hj=>by simp at hj⟩
    ·cases h5;obtain⟨C,hC,hCr⟩:=wN.all agt;exact⟨C,hC,λj u hj=>by rw[Addr.add_mid];exact hCr j u hj⟩
   obtain⟨C,hC,hCr⟩:=hC;obtain⟨v',w',jg,ho,zh⟩:=run_append_arg_grows (P:=P) w t ty e i zv A.n bytes ht h1 h2 h3 h4 hz hn p xs.length xs.length C hC.length hCr ⟨b,o,none⟩ ys.length c D Kq B3 hV MS hb;exact⟨C,hC,v',w',jg,ho,zh⟩
 obtain⟨C,hC,v',w',jg,ho,zh⟩:=hold
 have lF:Step M w (mI M v') w' aH:=⟨yL zh.size (λb hb=>(ho.lt b hb).2),zh.os,zh.tape,zh.output,zh.size,λk hk=>⟨λh=>by
   rcases h with h|h
   ·have:=(ho.lt k h).1;omega
   ·exact h,λh=> .inr h⟩,λk hk _=>zh.block k hk (by simp),λ_ h=>h.elim⟩
 refine .op a07 G G hd v' w' (λρ hρ=>?_) (k v' _ w' ⟨⟨C++D,by rw[List.length_append];exact ho,fX.append (hD.le lF.le) (hC.le lF.le)⟩,λb hb=> .inl hb⟩ lF);simp only[execOp,resolve,List.map_toArray,List.map_cons,List.map_nil,hρ x _ hx,hρ y _ hy];simp[invoke,builtin,jg]
def l5 (M:aP) (base:Nat):aP:=λk=>base<=k/\M k
theorem Step.mJ {M0 M M' N:aP} {w0 w w':World} {base:Nat} (h:Step M0 w0 M w N) (h':Step M w M' w' (l5 M base)) (hb:w0.heap.size<=base):Step M0 w0 M' w' N:=
 h.trans h' λb h1 h2=>absurd h2.1 hV
theorem Step.cf {e:TypeId} {M0 M M1 M' N:aP} {w0 w w1 w':World} {base:Nat} {v:Value} {xs:List α} (h:Step M0 w0 M w N) (h':Step M w M' w' (nJ v)) (ho:Own A e M1 w1 base v xs) (hb:w0.heap.size<=base):Step M0 w0 M' w' N:=
 h.trans h' λb h1 h2=>absurd (ho.base b h2).1 hV
theorem Step.cE {M0 M M' N N':aP} {w0 w w':World} (h:Step M0 w0 M w N) (h':Step M w M' w' N') (hb:∀b,N' b->w0.heap.size<=b):Step M0 w0 M' w' N:=
 h.trans h' λb h1 h2=>absurd (hb b h2) hV
def Grow {α:Type} (A:RT α) (hn:0<A.n) (e:TypeId) (M:aP) (w:World) (base:Nat) (v:Value) (xs:List α):Prop:=
 Own A e M w base v xs\/∃a,v= .slice a xs.length xs.length/\(a=none->xs=[])/\(A.sl hn).V M w xs v
theorem Grow.le {hn:0<A.n} {e:TypeId} {M M':aP} {w':World} {base:Nat} {v:Value} {xs:List α} (h:Grow A hn e M w base v xs) (s:Step M w M' w' aH):Grow A hn e M' w' base v xs:=
 h.imp (·.br s) fun⟨a,h1,h2,h3⟩=>⟨a,h1,h2,h3.le s.le⟩
theorem Rg.Jf {t e:TypeId} {zv:Value} {bytes:Nat} {hn:0<A.n} {M M2:aP} {w2:World} {base:Nat} {v u:Value} {xs ys:List α} (ht:P.underlying t=some (.slice e)) (hi:TI P e zv A.n bytes) (hz:zv.cells.size=A.n)
  (hx:ev L x=some v) (hy:ev L y=some u) (hd:Nat.blt d n=true) (h:Grow A hn e M w base v xs) (hu:(A.sl hn).V M2 w2 ys u) (hle:Le M2 w2 M w) (fB:0<ys.length) (hlen:xs.length+ys.length<=140737488355328)
  (hb:(xs.length+ys.length)*bytes<=140737488355328) (lE:base<=w.heap.size)
  (k:∀v' M' w',Own A e M' w' base v' (xs++ys)->Step M w M' w' (l5 M base)->Rg P r n ops rest ((d,v')::L) ds w' K):
  Rg P r n ops ({dst:=some d,op:= .call {callee:= .builtin .append,args:= #[x,y],argTypes:= #[t,t]},type:=ty,pos,after:=af,guard:=none}::rest) L ds w K:=by
 rcases h with h|⟨a,rfl,uA,h⟩
 ·exact .append ht hi hz hx hy hd h hu hle hlen hb lE λv' M' w' h1 h2=>k v' M' w' h1 (h2.eE (λb hb=>⟨(h.base b hb).1,h.mut_ b hb⟩) λb hb=>hb.2)
 ·refine .zi ht hi hz hx hy hd h uA hu hle fB hlen hb λv' M' w' h1 h2=>k v' M' w' ?_ (h2.eE (λb hb=>hb.elim) λb hb=>hb.2)
  obtain⟨⟨C,hr,ha⟩,hm⟩:=h1;exact⟨⟨C,⟨hr.1,hr.2.imp id fun⟨g,cap,cur,p3,p4,p5⟩=>⟨g,cap,cur,p3,Nat.le_trans lE p4,p5⟩⟩,ha⟩,hm⟩
def rm (M:aP) (v:Value):aP:=λk=>M k/\v.ownBlock≠some k
theorem uB (M:aP) (v:Value) (w:World):Le M w (rm M v) w:=λ_ _ h=>⟨λh2=>h h2.1,rfl⟩
theorem Own.view {hn:0<A.n} {e:TypeId} {M:aP} {base:Nat} {v:Value} {xs:List α} (h:Own A e M w base v xs) (hlen:xs.length<=140737488355328):(A.sl hn).V (rm M v) w xs v:=
 h.sl (uB M v w) (λ_ hb h2=>h2.2 hb) hlen
theorem Lt.rm {M:aP} {w:World} (h:Lt M w) (v:Value):Lt (rm M v) w:=λb hb=>h b hb.1
theorem Step.freeze {M0 M N:aP} {w0 w:World} (h:Step M0 w0 M w N) {v:Value} (hv:∀b,v.ownBlock=some b->w0.heap.size<=b):Step M0 w0 (rm M v) w N:=
 ⟨λh0=>(h.lt h0).rm v,h.os,h.tape,h.output,h.size,λb hb=>⟨λh1=>(h.mem b hb).1 h1.1,λh1=>⟨(h.mem b hb).2 h1,λh2=>by have:=hv b h2;omega⟩⟩,h.same,h.sub⟩
theorem Own.jv {e:TypeId} {M:aP} {base base':Nat} {v:Value} {xs:List α} (h:Own A e M w base v xs) (hb:base'≤base):Own A e M w base' v xs:=by
 obtain⟨⟨C,hr,ha⟩,hm⟩:=h;exact⟨⟨C,⟨hr.1,hr.2.imp id fun⟨g,cap,cur,p3,p4,p5⟩=>⟨g,cap,cur,p3,Nat.le_trans hb p4,p5⟩⟩,ha⟩,hm⟩
theorem B4 {M:aP} {w:World}:∀{xs:List UInt8} {C:List Value},fX RT.u8 M w xs C->C=xs.map λb=> .int .u8 (b.toNat:Int)
 |[],_,h=>h
 |x::xs,_,⟨vs,rest,h1,h2,h3⟩=>by
  have GX:vs=[.int .u8 x.toNat]:=h2;subst h1;rw[GX,B4 h3];rfl
theorem Rg.b2s {s t e:TypeId} {hn:0<RT.u8.n} {M:aP} {xs:List UInt8} {v:Value} (hs:P.underlying s=some (.slice e)) (he:P.underlying e=some (.int .u8)) (ht:P.underlying t=some .string) (hx:ev L x=some v) (hd:Nat.blt d n=true)
  {M1:aP} {w1:World} (hv:(RT.u8.sl hn).V M1 w1 xs v) (hle:Le M1 w1 M w) (k:Rg P r n ops rest ((d,.string ⟨xs.toArray⟩)::L) ds w K):
  Rg P r n ops ({dst:=some d,op:= .convert s t x,type:=ty,pos,after:=af,guard:=none}::rest) L ds w K:=by
 obtain⟨a,cap,rfl,hc,hl,uu⟩:=jE.1 (hv.le hle);refine .op a07 G G hd _ w (λρ hρ=>?_) k;simp only[execOp,hρ x _ hx];rw[Sem.run_bind,run_convert_bytes_string (P:=P) w s t e a xs.length cap hs he ht]
 cases a with
 |none=>
  rcases uu with rfl|⟨b,o,h,_⟩
  ·simp[Conv.bytesToString];rfl
  ·cases h
 |some p=>
  have aas:(loadCells p xs.length).run P w= .ok ((xs.map λb=>(b.toNat:Int)).map (Value.int .u8)).toArray w:=by
   rcases uu with rfl|⟨b,o,h,hm,C1⟩
   ·simp[loadCells,loadCellsFrom]
   ·cases h;obtain⟨C,hC,hCr⟩:=wN.all C1;have hCe:=B4 hC;have:=run_loadCells_list (P:=P) w ⟨b,o,none⟩ C (λj u hj=>by rw[Addr.add_mid];exact hCr j u hj);rw[hC.length,show xs.length*RT.u8.n=xs.length from Nat.mul_one _]at this;rw[this,hCe];simp
  rw[run_bytesToString (P:=P) w p xs.length cap _ aas]
  have key:∀(l:List UInt8) (acc:ByteArray),(l.map λb=>(b.toNat:Int)).foldl (λr n=>r.push (UInt8.ofNat n.toNat)) acc=⟨acc.data++l.toArray⟩:=by
   intro l
   induction l with
   |nil=>intro acc;simp
   |cons b l ih=>
    intro acc;simp only[List.map_cons,List.foldl_cons,ih];congr 1;simp[ByteArray.push]
  simp[key]
end
end Go.K
namespace Go.K
open Go.ChangeShapes Go.WideShapes Go.ChangeAt Go.RowKit
def jH {α:Type} (P:Program) (t:TypeId) (A:RT α):Prop:=
 ∀{H:Type} {enc:TypeId×Value->H} {w:World} {base fuel:Nat} {spare:Nat->Bool} {cs:List Value} {d:DataW H} {ps:List MemPlace},
  DataW.trod enc P w base spare true fuel t cs=some (d,ps)->(∀n∈DataW.weights P t d,n<=reachBytes)->∃x,A.R aH w x cs
theorem jH.int {P:Program} {t:TypeId} {k:IntKind} (ht:P.underlying t=some (.int k)):jH P t (RT.int k):=by
 intro H enc w base fuel spare cs d ps h hw
 cases fuel with
 |zero=>simp[DataW.trod]at h
 |succ n=>
  unfold DataW.trod at h;rw[ht]at h
  split at h<;>simp_all
  obtain⟨⟨h1,h2⟩,_⟩:=h;simp only[Lit.wf,Bool.and_eq_true,decide_eq_true_eq]at h2;exact⟨_,G,h2.1,h2.2⟩
theorem jH.str {P:Program} {t:TypeId} (ht:P.underlying t=some .string):jH P t RT.str:=by
 intro H enc w base fuel spare cs d ps h hw
 cases fuel with
 |zero=>simp[DataW.trod]at h
 |succ n=>
  unfold DataW.trod at h;rw[ht]at h
  split at h<;>simp_all
  rename_i s
  obtain⟨h1,h2,h3⟩:=h;subst h2;have:=hw s.data.toList.length (by simp[DataW.weights]);have hr:reachBytes<=140737488355328:=by decide
  refine⟨s.data.toList,?_,Nat.le_trans this hr⟩;simp
theorem MU (a:Addr) (i:Nat) (h:a.spot=none):a.add i=⟨a.block,a.off+i,none⟩:=by
 unfold Addr.add
 split
 ·next h0=>subst h0;cases a;simp_all
 ·rfl
theorem jH.sl {P:Program} {t e:TypeId} {α:Type} {A:RT α} {hn:0<A.n} (ht:P.underlying t=some (.slice e)) {nb:Nat} (hc:P.cellsOf e=A.n) (ZQ:P.bytesOf e=nb) (Mt:nb≠0) (hA:jH P e A):jH P t (A.sl hn):=by
 have R1:P.bytesOf e≠0:=by rw[ZQ];exact Mt
 intro H enc w base fuel spare cs d ps h hw;rcases DataW.trod_slice ht h with⟨h1,h2⟩|⟨a,len,cap,elems,rest,n,_,rfl,hx,hb,hl,hm,hlen,C1,V8,hns⟩
 ·exact⟨[],none,0,by rw[h1];rfl,Nat.le_refl _,Nat.zero_le _,.inl rfl⟩
 ·injection hx with hd tu
  have uC:DataW.weights P t d=(elems.length+rest.length)*P.bytesOf e::(DataW.weightsAll P e (elems.map (·.1))++DataW.weightsAll P e (rest.map (·.1))):=by
   rw[hd];simp[DataW.weights,ht]
  have h1:(elems.length+rest.length)*P.bytesOf e<=reachBytes:=hw _ (by rw[uC];exact List.mem_cons_self ..)
  have h2:elems.length<=140737488355328:=by
   have hr:reachBytes<=140737488355328:=by decide
   have:=Nat.le_mul_of_pos_right (elems.length+rest.length) (Nat.pos_of_ne_zero R1);omega
  have iR:∀y∈elems,∀n∈DataW.weights P e y.1,n<=reachBytes:=λy hy n hn=>by
   refine hw n ?_;rw[uC];refine List.mem_cons_of_mem _ (List.mem_append_left _ ?_);clear uC hw h1 h2 V8 hns C1 hlen hd h tu
   induction elems with
   |nil=>cases hy
   |cons z zs ih=>
    simp only[List.map_cons,DataW.weightsAll,List.mem_append];rcases List.mem_cons.1 hy with rfl|hy
    ·exact .inl hn
    ·exact .inr (ih hy)
  have hex:∀i,i<len->∃x vs,A.R aH w x vs/\∀j:Nat,j<A.n->w.cell? (a.add (i*A.n+j))=vs[j]? :=λi hi=>by
   have h3:=C1 i hi;rw[List.getElem?_eq_getElem hV,Option.bind_eq_some_iff]at h3;obtain⟨vs,h4,h5⟩:=h3;obtain⟨x,h6⟩:=hA (d:=elems[i].1) (ps:=elems[i].2) h5 (iR _ (List.getElem_mem ..));obtain⟨_,h7,h8⟩:=World.cells?_some h4;rw[hc]at h8 h7;refine ⟨x,vs,h6,λj hj=> ?_⟩;rw[<-h8 j hj];unfold Addr.add;by_cases V9:j=0
   ·subst V9;simp
   ·by_cases Wa:i*A.n=0
    ·simp[Wa,V9]
    ·rw[if_neg hV,if_neg Wa,if_neg V9];simp[Nat.add_assoc]
  rcases Nat.eq_zero_or_pos len with h0|y9
  ·subst h0;exact⟨[],some a,cap,G,Nat.zero_le _,Nat.zero_le _,.inl G⟩
  ·obtain⟨x0,v0,wT,hc0⟩:=hex 0 y9;have sk:0<v0.length:=by rw[A.len wT];exact hn
   have hs:=hc0 0 hn;rw[List.getElem?_eq_getElem sk,Nat.zero_mul,Nat.zero_add]at hs
   have MV:a.spot=none:=by
    unfold Addr.add at hs;rw[if_pos rfl]at hs;unfold World.cell? at hs
    cases hh:a.spot with
    |none=>rfl
    |some s=>rw[hh]at hs;split at hs<;>simp_all
   let f:Nat->α:=λi=>if h:i<len then(hex i h).choose else x0
   have hf:∀i,i<len->∃vs,A.R aH w (f i) vs/\∀j:Nat,j<A.n->w.cell? (a.add (i*A.n+j))=vs[j]? :=λi hi=>by
    have:f i=(hex i hi).choose:=dif_pos hi;rw[this];exact(hex i hi).choose_spec
   refine⟨(List.range len).map f,some a,cap,by simp,by simpa using hl,by simp;omega,.inr ⟨a.block,a.off,by cases a;simp_all,λh=>h.elim,λi x G7=>?_⟩⟩;have hi:i<len:=by have:=(List.getElem?_eq_some_iff.1 G7).1;simpa using this
   obtain⟨vs,h3,h4⟩:=hf i hi;have hxe:x=f i:=by simp[hi]at G7;exact G7.symm
   subst hxe;refine ⟨vs,h3,λj v hj=> ?_⟩;have qw:j<A.n:=by rw[<-A.len h3];exact(List.getElem?_eq_some_iff.1 hj).1
   rw[<-hj,<-h4 j qw,MU _ _ MV,Nat.add_assoc]
theorem jH.pair {P:Program} {t:TypeId} {fs:Array Field} {f0 f1:Field} {α β:Type} {A:RT α} {B:RT β} (ht:P.underlying t=some (.struct fs)) (Mu:fs[0]? =some f0) (sm:fs[1]? =some f1) (Wb:fs.size=2) (h0:f0.offset=0) (h1:f1.offset=A.n)
  (c0:P.cellsOf f0.type=A.n) (c1:P.cellsOf f1.type=B.n) (ct:P.cellsOf t=A.n+B.n) (hA:jH P f0.type A) (hB:jH P f1.type B):jH P t (A.pair B):=by
 intro H enc w base fuel spare cs d ps h hw;obtain⟨xs,n,_,hx,hl,hlen,hf⟩:=DataW.trod_struct ht h;injection hx with hd tu
 have yM:xs.length=2:=by omega
 match xs,yM with
 |[y0,y1],_=>
  have g0:=hf 0 f0 Mu;have g1:=hf 1 f1 sm;rw[h0,c0]at g0;rw[h1,c1]at g1
  have hty:fs.toList.map (λx=>x.type)=[f0.type,f1.type]:=by
   have GY:fs.toList.length=2:=by simpa using Wb
   match Bq:fs.toList,GY with
   |[a,b],_=>
    have e0:fs.toList[0]? =some f0:=by simpa using Mu
    have e1:fs.toList[1]? =some f1:=by simpa using sm
    rw[Bq]at e0 e1;simp at e0 e1;simp[e0,e1]
  have uC:DataW.weights P t d=DataW.weightsEach P [f0.type,f1.type] [y0.1,y1.1]:=by
   rw[hd];simp[DataW.weights,ht,hty]
  obtain⟨x0,e0⟩:=hA (d:=y0.1) (ps:=y0.2) g0 (λm hm=>hw m (by rw[uC];exact DataW.weights_mem_each (j:=0) G G m hm));obtain⟨x1,e1⟩:=hB (d:=y1.1) (ps:=y1.2) g1 (λm hm=>hw m (by rw[uC];exact DataW.weights_mem_each (j:=1) G G m hm));refine⟨(x0,x1),_,_,?_,e0,e1⟩;rw[List.drop_zero,List.take_of_length_le (l:=cs.drop A.n) (by rw[List.length_drop,hl,ct];omega),List.take_append_drop]
theorem jH.arg {P:Program} {α:Type} {A:RT α} {t:TypeId} {H:Type} {enc:TypeId×Value->H} {w:World} {base:Nat} {spare:Nat->Bool} {v:Value} {d:DataW H} {ps:List MemPlace} (hA:jH P t A)
  (h:DataW.Trod enc P w base spare true t v d ps) (hv:∀vs,vs.length=A.n->v.cells.toList=vs->(∀u∈vs,u.oneCell'=true)->v=A.val vs) (hw:∀n∈DataW.weights P t d,n<=reachBytes):∃x,A.V aH w x v:=by
 obtain⟨fuel,hf⟩:=h;obtain⟨x,hx⟩:=hA hf hw;exact⟨x,_,hx,hv _ (A.len hx) G (A.one hx)⟩
theorem MW {P:Program} {f:FuncId} {args:Array Value} {w:World} (h:Spec P f args w (λv' w'=>v'= .bool true/\Step aH w aH w' aH)):Calls P f args w λe w'=>e= .returned (.bool true)/\Below w.heap.size w w':=
 Calls.mono h λ_ _ ⟨_,he,hv,s⟩=>⟨by rw[he,hv],s.below⟩
end Go.K
namespace Go.K
theorem El {P:Program} {w:World} {nm:String} {g:Nat} {cs:Array Value} (hg:P.globalNamed nm=some g) (h:w.var? P nm=some cs):∃e fr,w.heap[g]? =some (.cells cs e fr):=by
 simp only[World.var?,hg,Option.bind_some]at h
 split at h
 ·rename_i c e fr hh
  obtain rfl:=Option.some.inj h;exact⟨e,fr,hh⟩
 ·cases h
theorem Hb {H:Type} {enc:TypeId×Value->H} {P:Program} {w:World} {base fuel:Nat} {spare:Nat->Bool} {held:Bool} {t e:TypeId} {n:Nat} {cs:Array Value} {l:List Nat} {p:List MemPlace} {d:DataW H}
  (ht:P.underlying t=some (.array n e)) (he:P.underlying e=some (.int .u8)) (hc:P.cellsOf e=1) (hct:P.cellsOf t=n)
  (h:DataW.trod enc P w base spare held fuel t cs.toList=some (d,p)) (hd:d= .agg (l.map fun(k:Nat)=> .lit (.int .u8 (k:Int))):=by rfl):(l.map fun(k:Nat)=>Value.int .u8 (k:Int)).toArray=cs:=by
 subst hd;obtain⟨xs,m,rfl,hx,hl,hn,C1⟩:=DataW.trod_array ht h;rw[hc]at C1;simp only[Prod.mk.injEq,DataW.agg.injEq]at hx
 have Rz:l.length=n:=by
  have:=congrArg List.length hx.1;rw[List.length_map,List.length_map,hn]at this;exact this
 suffices hs:l.map (fun(k:Nat)=>Value.int .u8 (k:Int))=cs.toList by rw[hs]
 refine List.ext_getElem? λi=>?_
 rcases Nat.lt_or_ge i n with hi|hi
 ·have hE:=C1 i hi;obtain⟨x,Ut⟩:∃x,xs[i]? =some x:=⟨_,List.getElem?_eq_getElem hV⟩;obtain⟨k,hk⟩:∃k,l[i]? =some k:=⟨_,List.getElem?_eq_getElem hV⟩;rw[Ut,Nat.mul_one]at hE;obtain⟨z,e1,e2,_⟩:=DataW.trod_int he hE;have h1:(l.map fun(k:Nat)=>(DataW.lit (.int .u8 (k:Int)):DataW H))[i]? =some (.lit (.int .u8 (k:Int))):=by rw[List.getElem?_map,hk];rfl
  rw[hx.1,List.getElem?_map,Ut,e2]at h1;have hz:z=(k:Int):=by simpa using h1
  have h2:((cs.toList.drop i).take 1)[0]? =cs.toList[i]? :=by rw[List.getElem?_take,if_pos q0,List.getElem?_drop,Nat.add_zero]
  rw[e1]at h2;rw[<-h2,List.getElem?_map,hk,hz];rfl
 ·rw[List.getElem?_eq_none (by rw[List.length_map];omega),List.getElem?_eq_none (by rw[hl,hct];omega)]
structure cy (M:aP) where
 p:Value->World->Prop
 U:aP
 mono:∀{v w w' N},p v w->Step M w M w' N->(∀b,N b->U b)->p v w'
def Kr:aP:=λ_=>True
def cy.eq {M:aP} (c:Value):cy M:=⟨λv _=>v=c,Kr,λh _ _=>h⟩
def cy.V {M:aP} {α:Type} (A:RT α) (x:α):cy M:=⟨λv w=>A.V M w x v,Kr,λh s _=>h.le s.le⟩
def cy.ptr {M:aP} {α:Type} (A:RT α) (x:α) (hn:0<A.n:=by decide):cy M:=⟨λv w=>dp A M w v x,Kr,λh s _=>h.le hn s.le⟩
def cy.pure {M:aP} (q:Value->Prop):cy M:=⟨λv _=>q v,Kr,λh _ _=>h⟩
def cy.mk' {M:aP} (p:Value->World->Prop) (mono:∀{v w w'},p v w->Step M w M w' aH->p v w'):cy M:=⟨p,aH,λh s hN=>mono h (s.eE hN λ_ hb=>hb.elim)⟩
def j5:List aP->aP
 |[]=>aH
 |[N]=>N
 |N::Ns=>λb=>N b\/j5 Ns b
theorem fY:∀{Ns:List aP} {b:Nat},j5 Ns b↔∃N∈Ns,N b
 |[],b=>by simp[j5,aH]
 |[N],b=>by simp[j5]
 |N::N'::Ns,b=>by
  have:=fY (Ns:=N'::Ns) (b:=b);simp only[j5];rw[this];simp
def du (o:Oper):List Nat:=(o.after.toList.filter (Region.binds .any)).map (·.on)
def lG (l:List Oper) (j t:Nat):Bool:=l.all λo=> !(o.dst==some t)||(du o).contains j
def kK (l:List Oper) (j:Nat) (L:Sl):Sl:=L.filter λp=>lG l j p.1
def Ks (d:Option Nat) (v:Value) (L:Sl):Sl:=match d with|some d=>(d,v)::L|none=>L
def fm:List Oper->Nat->Bool
 |[],_=>true
 |o::l,k=>(du o).all (Nat.blt · k)&&(match o.dst with|some d=>l.all (λo'=> !(o'.dst==some d))|none=>true)&&fm l (k+1)
def R2 (E:List (Nat×aP)) (j:Nat):aP:=j5 ((E.filter λp=>p.1==j).map (·.2))
def aav (l:List Oper) (E:List (Nat×aP)) (j:Nat):aP:=j5 ((E.filter λp=> !(p.1==j)&& !((l[p.1]?.map du).getD []).contains j).map (·.2))
def sq {M:aP} (E:List (Nat×aP)):List Oper->List (cy M)->Nat->Prop
 |o::os,s::ss,i=>(∀p∈E.filter (λp=> !(p.1==i)&& !(du o).contains p.1),∀b,p.2 b->s.U b)/\sq E os ss (i+1)
 |_,_,_=>True
theorem sq.get {M:aP} {E:List (Nat×aP)}:∀{os:List Oper} {ss:List (cy M)} {k:Nat},sq E os ss k->∀i o s,os[i]? =some o->ss[i]? =some s->∀p∈E,p.1≠k+i->¬p.1∈du o->∀b,p.2 b->s.U b
 |[],_,_,_,i,_,_,h,_,_,_,_,_,_,_=>by simp at h
 |_::_,[],_,_,i,_,_,_,h,_,_,_,_,_,_=>by simp at h
 |x::os,y::ss,k,h,0,o,s,ho,hs,p,hp,h1,h2,b,hb=>by
  simp at ho hs;subst ho;subst hs;exact h.1 p (List.mem_filter.2 ⟨hp,by simp;exact⟨h1,h2⟩⟩) b hb
 |x::os,y::ss,k,h,i+1,o,s,ho,hs,p,hp,h1,h2,b,hb=>sq.get h.2 i o s (by simpa using ho) (by simpa using hs) p hp hV h2 b hb
def Em {M:aP} (F:List (Nat×aP)) (l:List Oper) (S:List (cy M)):Prop:=
 ∀i o s j oj sj,l[i]? =some o->S[i]? =some s->l[j]? =some oj->S[j]? =some sj->j≠i->¬j∈du o->∀v vj w w',s.p v w->Step M w M w' (R2 F j)->sj.p vj w'→s.p v w'
theorem MX {F:List (Nat×aP)} {j b:Nat} (hb:R2 F j b):∃p∈F,p.1=j/\p.2 b:=by
 obtain⟨N,hN,Ec⟩:=fY.1 hb;obtain⟨p,hp,rfl⟩:=List.mem_map.1 hN;obtain⟨h1,h2⟩:=List.mem_filter.1 hp;exact⟨p,h1,by simpa using h2,Ec⟩
theorem sq.st {M:aP} {F:List (Nat×aP)} {l:List Oper} {S:List (cy M)} (h:sq F l S 0):Em F l S:=λi o s j oj sj ho hs _ _ fB hnp v vj w w' hp st _=>
 s.mono hp st λb hb=>by
  obtain⟨p,h1,h6,h7⟩:=MX hb;exact h.get i o s ho hs p h1 hV (by rw[h6];exact hnp) b h7
def aaw {M:aP} (E:List (Nat×aP)) (j:Nat) (d:Option Nat) (s:cy M) (w0:World) (L:Sl) (ds:List Deferred):Kt:=λe L' qv w'=>e= .normal/\qv=ds/\∃v,L'=Ks d v L/\s.p v w'∧Step M w0 M w' (R2 E j)
def mK {M:aP} (l:List Oper) (S:List (cy M)) (w:World) (k:Sl->Prop):List Nat->Sl->Prop
 |[],acc=>k acc
 |i::is,acc=>match l[i]?,S[i]? with
  |some o,some s=>match o.dst with
   |some d=>∀v,s.p v w->mK l S w k is ((d,v)::acc)
   |none=>∀v,s.p v w->mK l S w k is acc
  |_,_=>mK l S w k is acc
def iS {M:aP} (w:World) (k:Sl->Prop):List Oper->List (cy M)->Sl->Prop
 |o::os,s::ss,acc=>match o.dst with
  |some d=>∀v,s.p v w->iS w k os ss ((d,v)::acc)
  |none=>∀v,s.p v w->iS w k os ss acc
 |_,_,acc=>k acc
def ZR (P:Program) (r:Option Nat) (n:Nat) {M:aP} (F:List (Nat×aP)) (w:World) (l:List Oper) (S:List (cy M)) (ds:List Deferred) (L:Sl) (j:Nat) (o:Oper) (s:cy M):Prop:=
 ∀w' E,Step M w M w' (aav l F j)->mK l S w' (λacc=>Rg P r n l.toArray [o] (acc++(kK l j L++E)) ds w' (aaw F j o.dst s w' (acc++(kK l j L++E)) ds)) (du o) []
def cz (P:Program) (r:Option Nat) (n:Nat) {M:aP} (F:List (Nat×aP)) (w:World) (l:List Oper) (S:List (cy M)) (ds:List Deferred) (L:Sl):List Oper->List (cy M)->Nat->Prop
 |o::os,s::ss,j=>ZR P r n F w l S ds L j o s/\cz P r n F w l S ds L os ss (j+1)
 |[],_,_=>True
 |_::_,[],_=>False
theorem cz.cons {P:Program} {r:Option Nat} {n:Nat} {M:aP} {F:List (Nat×aP)} {w:World} {l:List Oper} {S:List (cy M)} {ds:List Deferred} {L:Sl} {o:Oper} {os:List Oper} {s:cy M} {ss:List (cy M)} {j:Nat}
  (h:ZR P r n F w l S ds L j o s) (h':cz P r n F w l S ds L os ss (j+1)):cz P r n F w l S ds L (o::os) (s::ss) j:=⟨h,h'⟩
theorem cz.nil {P:Program} {r:Option Nat} {n:Nat} {M:aP} {F:List (Nat×aP)} {w:World} {l:List Oper} {S:List (cy M)} {ds:List Deferred} {L:Sl} {ss:List (cy M)} {j:Nat}:cz P r n F w l S ds L [] ss j:=by
 unfold cz;trivial
section
variable {P:Program} {r:Option Nat} {n:Nat} {L:Sl} {ds:List Deferred} {w:World} {K:Kt} {M:aP} {F:List (Nat×aP)}
theorem mv {A B:Sl} {t:Nat} {v:Value} (h:lk (A++B) t=some v):lk A t=some v\/lk B t=some v:=by
 induction A with
 |nil=>exact .inr h
 |cons p A ih=>
  obtain⟨k,u⟩:=p;simp only[List.cons_append,lk]at h ⊢
  cases hb:Nat.beq k t with
  |true=>rw[hb]at h;exact .inl h
  |false=>rw[hb]at h;exact ih h
theorem qY {A B:Sl} {t:Nat} (h:∃v,lk B t=some v):∃v,lk (A++B) t=some v:=by
 induction A with
 |nil=>exact h
 |cons p A ih=>
  obtain⟨k,u⟩:=p;simp only[List.cons_append,lk]
  cases hb:Nat.beq k t with
  |true=>exact⟨u,rfl⟩
  |false=>exact ih
theorem ku {f:Nat->Bool} {A:Sl} {t:Nat} {v:Value} (h:lk (A.filter λp=>f p.1) t=some v):f t=true/\lk A t=some v:=by
 induction A with
 |nil=>simp[lk]at h
 |cons p A ih=>
  obtain⟨k,u⟩:=p;rw[List.filter_cons]at h
  split at h
  ·rename_i hf
   simp only[lk]at h ⊢
   cases hb:Nat.beq k t with
   |true=>
    rw[hb]at h;rw[<-Nat.eq_of_beq_eq_true hb];exact⟨hf,h⟩
   |false=>rw[hb]at h;exact ih h
  ·rename_i hf
   obtain⟨h1,h2⟩:=ih h;refine ⟨h1,?_⟩;simp only[lk]
   cases hb:Nat.beq k t with
   |true=>rw[Nat.eq_of_beq_eq_true hb]at hf;exact absurd h1 hf
   |false=>exact h2
def Ku (a:Act):Sl:=(List.range a.tmps.size).map λt=>(t,a.tmps.getD t undef)
theorem xU (f:Nat->Value):∀(m s t:Nat) (v:Value),lk ((List.range' s m).map λt=>(t,f t)) t=some v->s<=t/\t<s+m/\v=f t
 |0,s,t,v,h=>by simp[lk]at h
 |m+1,s,t,v,h=>by
  simp only[List.range'_succ,List.map_cons,lk]at h
  cases hb:Nat.beq s t with
  |true=>rw[hb]at h;cases h;have:=Nat.eq_of_beq_eq_true hb;subst this;exact⟨Nat.le_refl _,by omega,rfl⟩
  |false=>
   rw[hb]at h;obtain⟨h1,h2,h3⟩:=xU f m (s+1) t v h;exact⟨by omega,by omega,h3⟩
theorem uD (f:Nat->Value):∀(m s t:Nat),s<=t->t<s+m->∃v,lk ((List.range' s m).map λt=>(t,f t)) t=some v
 |0,s,t,h1,h2=>by omega
 |m+1,s,t,h1,h2=>by
  simp only[List.range'_succ,List.map_cons,lk]
  cases hb:Nat.beq s t with
  |true=>exact⟨_,rfl⟩
  |false=>
   have:s≠t:=λe=>by subst e;simp[Nat.beq_refl]at hb
   exact uD f m (s+1) t hV hV
def Uu (F:List (Nat×aP)) (D:Nat->Prop):aP:=λb=>∃p∈F,D p.1/\p.2 b
structure Inv (F:List (Nat×aP)) (S:List (cy M)) (l:List Oper) (w0:World) (L:Sl) (ds:List Deferred) (n:Nat) (D:Nat->Prop) (a:Act) (w:World):Prop where
 step:Step M w0 M w (Uu F D)
 fin:∀i o s,l[i]? =some o->S[i]? =some s->D i->o.dst=none->∃v,s.p v w
 size:n<=a.tmps.size
 defers:a.defers=ds
 done:∀i o s d,l[i]? =some o->S[i]? =some s->D i->o.dst=some d->∃v,a.tmps[d]? =some v/\s.p v w
 base:∀t v,lk L t=some v->(∀i o,l[i]? =some o->D i->o.dst≠some t)->a.tmps[t]? =some v
 closed:∀i o,l[i]? =some o->D i->∀k∈du o,D k
theorem dL:∀{l:List Oper} {k:Nat},fm l k=true->∀i o,l[i]? =some o->∀j∈du o,j<k+i
 |[],_,_,i,o,h,_,_=>by simp at h
 |x::l,k,hl,0,o,h,j,hj=>by
  simp at h;subst h;simp only[fm,Bool.and_eq_true,List.all_eq_true]at hl;have:=hl.1.1 j hj;simpa[Nat.blt_eq]using this
 |x::l,k,hl,i+1,o,h,j,hj=>by
  simp only[fm,Bool.and_eq_true]at hl;have:=dL hl.2 i o a84 j hj;omega
theorem wU:∀{l:List Oper} {k:Nat},fm l k=true->∀(i j:Nat) (o o':Oper) (d:Nat),l[i]? =some o->l[j]? =some o'→i≠j->o.dst=some d->o'.dst≠some d
 |[],_,_,i,_,_,_,_,h,_,_,_=>by simp at h
 |x::l,k,hl,0,0,_,_,_,_,_,fB,_=>absurd rfl fB
 |x::l,k,hl,0,j+1,o,o',d,hi,hj,_,hd=>by
  simp at hi;subst hi;simp only[fm,Bool.and_eq_true,hd,List.all_eq_true]at hl;have hm:o'∈l:=List.mem_of_getElem? a95;have:=hl.1.2 o' hm;simpa using this
 |x::l,k,hl,i+1,0,o,o',d,hi,hj,_,hd=>by
  simp at hj;subst hj;intro Uv;simp only[fm,Bool.and_eq_true,Uv,List.all_eq_true]at hl;have hm:o∈l:=List.mem_of_getElem? al3;have:=hl.1.2 o hm;simp[hd]at this
 |x::l,k,hl,i+1,j+1,o,o',d,hi,hj,fB,hd=>by
  simp only[fm,Bool.and_eq_true]at hl;exact wU hl.2 i j o o' d al3 a95 hV hd
theorem cz.get {w:World} {l:List Oper} {S:List (cy M)} {ds:List Deferred} {L:Sl}:∀{os:List Oper} {ss:List (cy M)} {k:Nat},cz P r n F w l S ds L os ss k->∀i o,os[i]? =some o->∃s,ss[i]? =some s/\ZR P r n F w l S ds L (k+i) o s
 |[],_,_,_,i,o,h=>by simp at h
 |x::os,[],_,h,_,_,_=>by simp[cz]at h
 |x::os,s::ss,k,h,0,o,hi=>by simp at hi;subst hi;exact⟨s,G,h.1⟩
 |x::os,s::ss,k,h,i+1,o,hi=>by
  obtain⟨s',h1,h2⟩:=cz.get h.2 i o al3;exact⟨s',by simpa using h1,by rwa [show k+(i+1)=k+1+i from by omega]⟩
theorem mK.use {l:List Oper} {S:List (cy M)} {w:World} {k:Sl->Prop} {a:Act} {js:List Nat} (hf:∀(i:Nat) (o:Oper) (s:cy M),l[i]? =some o->S[i]? =some s->o.dst=none->i∈js->∃v,s.p v w) (hd:∀(i:Nat) (o:Oper) (s:cy M) (d:Nat),l[i]? =some o->S[i]? =some s->o.dst=some d->i∈js->∃v,a.tmps[d]? =some v/\s.p v w):
  ∀(is:List Nat) (acc:Sl),(∀i∈is,i∈js)->(∀t v,lk acc t=some v->a.tmps[t]? =some v)->mK l S w k is acc->∃MY,k MY/\∀t v,lk MY t=some v->a.tmps[t]? =some v
 |[],acc,_,ha,h=>⟨acc,h,ha⟩
 |i::is,acc,hm,ha,h=>by
  have D8:∀i∈is,i∈js:=λx hx=>hm x (List.mem_cons_of_mem _ hx)
  simp only[mK]at h
  split at h
  ·rename_i o s ho hs
   split at h
   ·rename_i d C4
    obtain⟨v,h1,h2⟩:=hd i o s d ho hs C4 (hm i (List.mem_cons_self ..));refine mK.use hf hd is _ D8 ?_ (h v h2);intro t u hu;simp only[lk]at hu
    cases hb:Nat.beq d t with
    |true=>rw[hb]at hu;cases hu;rw[<-Nat.eq_of_beq_eq_true hb];exact h1
    |false=>rw[hb]at hu;exact ha t u hu
   ·rename_i C4
    obtain⟨v,h2⟩:=hf i o s ho hs C4 (hm i (List.mem_cons_self ..));exact mK.use hf hd is _ D8 ha (h v h2)
  ·exact mK.use hf hd is _ D8 ha h
theorem iS.use {w:World} {k:Sl->Prop} {a:Act}:∀(os:List Oper) (ss:List (cy M)) (acc:Sl),(∀(i:Nat) (o:Oper) (s:cy M),os[i]? =some o->ss[i]? =some s->o.dst=none->∃v,s.p v w)->(∀(i:Nat) (o:Oper) (s:cy M) (d:Nat),os[i]? =some o->ss[i]? =some s->o.dst=some d->∃v,a.tmps[d]? =some v/\s.p v w)->
  (∀t v,lk acc t=some v->a.tmps[t]? =some v)->iS w k os ss acc->∃MY,k MY/\∀t v,lk MY t=some v->a.tmps[t]? =some v
 |[],_,acc,_,_,ha,h=>⟨acc,by simpa[iS]using h,ha⟩
 |_::_,[],acc,_,_,ha,h=>⟨acc,by simpa[iS]using h,ha⟩
 |o::os,s::ss,acc,hf,hd,ha,h=>by
  have hf':∀(i:Nat) (o:Oper) (s:cy M),os[i]? =some o->ss[i]? =some s->o.dst=none->∃v,s.p v w:=λi o s h1 h2=>hf (i+1) o s (by simpa using h1) (by simpa using h2)
  have Uv:∀(i:Nat) (o:Oper) (s:cy M) (d:Nat),os[i]? =some o->ss[i]? =some s->o.dst=some d->∃v,a.tmps[d]? =some v/\s.p v w:=λi o s d h1 h2=>hd (i+1) o s d (by simpa using h1) (by simpa using h2)
  simp only[iS]at h
  split at h
  ·rename_i d C4
   obtain⟨v,h1,h2⟩:=hd 0 o s d rfl rfl C4;refine iS.use os ss _ hf' Uv ?_ (h v h2);intro t u hu;simp only[lk]at hu
   cases hb:Nat.beq d t with
   |true=>rw[hb]at hu;cases hu;rw[<-Nat.eq_of_beq_eq_true hb];exact h1
   |false=>rw[hb]at hu;exact ha t u hu
  ·rename_i C4
   obtain⟨v,h2⟩:=hf 0 o s rfl rfl C4;exact iS.use os ss _ hf' Uv ha (h v h2)
theorem nQ {F:Fence} {m:Nat} {ops:Array Oper} {Q:Exit->Act->World->Prop} {i:Nat} {rest:List Nat} {o:Oper} {a:Act} {w:World} (ho:ops[i]? =some o)
  (h:wpListIn F m P ops (λe a' w'=>e= .normal/\wpOpsIn F m P ops Q rest a' w') [o] a w):wpOpsIn F m P ops Q (i::rest) a w:=by
 simp only[wpOpsIn,ho];simp only[wpListIn]at h
 split
 ·rename_i hw
  rw[if_pos hw]at h;obtain⟨h1,h2⟩:=h;refine ⟨h1,?_⟩;generalize (o.semAt F.round a.eval).run P w=res at h2 ⊢
  have aax:∀{f args w'},CallsIn F (m-1) P f args w' (fun
    |.returned v,zj=>(True/\wpOpsIn F m P ops Q rest (a.put o.dst v) zj)
    |.panicked chain,zj=>(Exit.panic chain= .normal/\wpOpsIn F m P ops Q rest a zj)
    |.outgrown,_=>LetsOut (λe a' w'=>e= .normal/\wpOpsIn F m P ops Q rest a' w'))->CallsIn F (m-1) P f args w' (fun
    |.returned v,zj=>wpOpsIn F m P ops Q rest (a.put o.dst v) zj
    |.panicked chain,zj=>Q (.panic chain) a zj
    |.outgrown,_=>LetsOut Q):=λh=>h.mono λe zj he=>by
   cases e with
   |returned v=>exact he.2
   |panicked c=>exact absurd he.1 (by simp)
   |outgrown=>obtain⟨a,w,h,_⟩:=he;exact absurd h (by simp)
  cases res with
  |ok nx w'=>
   cases nx with
   |value v=>exact h2.2
   |skip=>exact h2.2
   |defer d=>exact h2.2
   |enter f args=>exact⟨h2.1,aax h2.2⟩
   |row row args=>exact⟨h2.1,h2.2.mono λ_ _ he=>he.2⟩
   |round l f tmps tv body=>exact⟨h2.1,h2.2.mono λe zj he=>by
     cases e with
     |returned v=>exact he.2
     |panicked c=>exact absurd he.1 (by simp)
     |outgrown=>obtain⟨a,w,h,_⟩:=he;exact absurd h (by simp)⟩
   |_=>exact h2.elim
  |halt x w'=>
   cases x with
   |panic v=>exact absurd h2.1 (by simp)
   |_=>exact h2.elim
 ·rename_i hw
  rw[if_neg hw]at h;exact⟨h.1,h.2.2⟩
theorem zk {F:Fence} {m:Nat} {ops:Array Oper} {Q Q':Exit->Act->World->Prop} {o:Oper} {a:Act} {w:World} (h:wpListIn F m P ops Q [o] a w) (hq:∀e a w,Q e a w->Q' e a w):wpListIn F m P ops Q' [o] a w:=by
 simp only[wpListIn]at h ⊢
 split
 ·rename_i hw
  rw[if_pos hw]at h;obtain⟨h1,h2⟩:=h;refine ⟨h1,?_⟩;generalize (o.semAt F.round a.eval).run P w=res at h2 ⊢
  cases res with
  |ok nx w'=>
   cases nx with
   |value v=>exact hq _ _ _ h2
   |skip=>exact hq _ _ _ h2
   |defer d=>exact hq _ _ _ h2
   |enter f args=>exact⟨h2.1,h2.2.mono λe zj he=>by
     cases e with
     |returned v=>exact hq _ _ _ he
     |panicked c=>exact hq _ _ _ he
     |outgrown=>obtain⟨a,w,h⟩:=he;exact⟨a,w,hq _ _ _ h⟩⟩
   |row row args=>exact⟨h2.1,h2.2.mono λ_ _ he=>hq _ _ _ he⟩
   |round l f tmps tv body=>exact⟨h2.1,h2.2.mono λe zj he=>by
     cases e with
     |returned v=>exact hq _ _ _ he
     |panicked c=>exact hq _ _ _ he
     |outgrown=>obtain⟨a,w,h⟩:=he;exact⟨a,w,hq _ _ _ h⟩⟩
   |_=>exact h2.elim
  |halt x w'=>
   cases x with
   |panic v=>exact hq _ _ _ h2
   |_=>exact h2.elim
 ·rename_i hw
  rw[if_neg hw]at h;exact⟨h.1,hq _ _ _ h.2⟩
theorem Inv.next {w0:World} {l:List Oper} {S:List (cy M)} {D:Nat->Prop} {a:Act} {w:World} (hi:Inv F S l w0 L ds n D a w) (dU:fm l 0=true) (xV:Em F l S) (qZ:∀p∈F,∀b,p.2 b->M b)
  {j:Nat} {o:Oper} (ie:∃s,S[j]? =some s/\ZR P r n F w0 l S ds L j o s) (hj:l[j]? =some o) (pC: ¬D j) (hp:∀k∈du o,D k) {Q:Exit->Act->World->Prop} {rest:List Nat}
  (hk:∀a' w',Inv F S l w0 L ds n (λi=>i=j\/D i) a' w'→wpOpsIn (FW r) 0 P l.toArray Q rest a' w'):wpOpsIn (FW r) 0 P l.toArray Q (j::rest) a w:=by
 obtain⟨s,hs,ho⟩:=ie
 have Kv:Step M w0 M w (aav l F j):=hi.step.eE (λb ⟨p,hp,hD,hb⟩=>fY.2 ⟨p.2,List.mem_map.2 ⟨p,List.mem_filter.2 ⟨hp,by
   simp only[Bool.and_eq_true,Bool.not_eq_true',beq_eq_false_iff_ne,ne_eq];refine ⟨λe=>pC (e▸hD),?_⟩
   cases hl:l[p.1]? with
   |none=>rfl
   |some oi=>
    simp only[Option.map_some,Option.getD_some]
    cases hc:(du oi).contains j with
    |false=>rfl
    |true=>exact absurd (hi.closed p.1 oi hl hD j (by simpa using hc)) pC⟩,rfl⟩,hb⟩)
  (λb hb=>by
   obtain⟨N,hN,Ec⟩:=fY.1 hb;obtain⟨p,hp,rfl⟩:=List.mem_map.1 hN;exact qZ p (List.mem_filter.1 hp).1 b Ec)
 have tw:∀b,R2 F j b->∃p∈F,p.1=j/\p.2 b:=λb hb=>by
  obtain⟨N,hN,Ec⟩:=fY.1 hb;obtain⟨p,hp,rfl⟩:=List.mem_map.1 hN;obtain⟨h1,h2⟩:=List.mem_filter.1 hp;exact⟨p,h1,by simpa using h2,Ec⟩
 have Wc:Step M w0 M w (Uu F λi=>i=j\/D i):=hi.step.eE (λb ⟨p,hp,hD,hb⟩=>⟨p,hp,.inr hD,hb⟩) (λb ⟨p,hp,_,hb⟩=>qZ p hp b hb);refine nQ (o:=o) a95 ?_;obtain⟨acc,By,Wd⟩:=mK.use (a:=a) (js:=du o) (λi o' s' h1 h2 h3 h4=>hi.fin i o' s' h1 h2 (hp i h4) h3) (λi o' s' d h1 h2 h3 h4=>hi.done i o' s' d h1 h2 (hp i h4) h3) (du o) [] (λ_ h=>h) (λt v h=>by simp[lk]at h) (ho w (Ku a) Kv)
 have iR:∀t v,lk (acc++(kK l j L++Ku a)) t=some v->a.tmps[t]? =some v:=by
  intro t v h;rcases mv h with h|h
  ·exact Wd t v h
  rcases mv h with h|h
  ·obtain⟨h1,h2⟩:=ku (f:=lG l j) h;refine hi.base t v h2 λi o' lC hD hd=> ?_
   simp only[lG,List.all_eq_true]at h1;have:=h1 o' (List.mem_of_getElem? lC);simp only[hd,beq_self_eq_true,Bool.not_true,Bool.false_or,List.contains_iff_mem]at this;exact pC (hi.closed i o' lC hD j this)
  ·simp only[Ku,List.range_eq_range']at h;obtain⟨_,h2,h3⟩:=xU _ _ _ _ _ h;rw[h3,Array.getD_eq_getD_getElem?,Array.getElem?_eq_getElem hV];rfl
 have Uw:∀t,t<a.tmps.size->∃v,lk (acc++(kK l j L++Ku a)) t=some v:=λt ht=>by
  refine qY (qY ?_);simp only[Ku,List.range_eq_range'];exact uD _ _ _ _ (Nat.zero_le _) hV
 have h1:=By.run a ⟨hi.size,hi.defers,iR⟩
 have key:∀e a' w',up n (aaw F j o.dst s w (acc++(kK l j L++Ku a)) ds) e a' w'→e= .normal/\wpOpsIn (FW r) 0 P l.toArray Q rest a' w':=by
  rintro e a' w' ⟨L',qv,si,rfl,rfl,v,rfl,hsv,lF⟩;refine⟨rfl,hk a' w' ⟨Wc.trans lF λb _ hb=>by obtain⟨p,h1,h2,h3⟩:=tw b hb;exact⟨p,h1,.inl h2,h3⟩,?_,si.size,si.defers,?_,?_,?_⟩⟩
  ·intro i o' s' h2 h3 h4 h5;by_cases jS:i=j
   ·subst jS;rw[hj]at h2;cases h2;rw[hs]at h3;cases h3;exact⟨v,hsv⟩
   ·have Ed:D i:=h4.resolve_left jS;obtain⟨u,ff⟩:=hi.fin i o' s' h2 h3 Ed h5;exact⟨u,xV i o' s' j o s h2 h3 hj hs (λe=>jS e.symm) (λVU=>pC (hi.closed i o' h2 Ed j VU)) u v w w' ff lF hsv⟩
  ·intro i o' s' d h2 h3 h4 h5;by_cases jS:i=j
   ·subst jS;rw[hj]at h2;cases h2;rw[hs]at h3;cases h3;exact⟨v,si.at_ d v (by rw[h5];simp[Ks,lk,Nat.beq_refl]),hsv⟩
   ·have Ed:D i:=h4.resolve_left jS;obtain⟨u,my,ff⟩:=hi.done i o' s' d h2 h3 Ed h5;refine⟨u,?_,xV i o' s' j o s h2 h3 hj hs (λe=>jS e.symm) (λVU=>pC (hi.closed i o' h2 Ed j VU)) u v w w' ff lF hsv⟩;have We:d<a.tmps.size:=(Array.getElem?_eq_some_iff.1 my).1;obtain⟨u',Kw⟩:=Uw d We;have e1:=iR d u' Kw;rw[my]at e1;cases e1;refine si.at_ d u ?_
    cases hod:o.dst with
    |none=>simpa[Ks]using Kw
    |some d'=>
     have fB:d'≠d:=λe=>wU dU i j o' o d h2 hj jS h5 (by rw[hod,e])
     have hb:Nat.beq d' d=false:=by
      cases hb:Nat.beq d' d with
      |false=>rfl
      |true=>exact absurd (Nat.eq_of_beq_eq_true hb) fB
     simp only[Ks,lk,hb];exact Kw
  ·intro t u ht Wf;have ka:o.dst≠some t:=Wf j o hj (.inl rfl);have e1:=hi.base t u ht λi o' h2 h3=>Wf i o' h2 (.inr h3)
   have We:t<a.tmps.size:=(Array.getElem?_eq_some_iff.1 e1).1;obtain⟨u',Kw⟩:=Uw t We;have e2:=iR t u' Kw;rw[e1]at e2;cases e2;refine si.at_ t u ?_
   cases hod:o.dst with
   |none=>simpa[Ks]using Kw
   |some d'=>
    have fB:d'≠t:=λe=>ka (by rw[hod,e])
    have hb:Nat.beq d' t=false:=by
     cases hb:Nat.beq d' t with
     |false=>rfl
     |true=>exact absurd (Nat.eq_of_beq_eq_true hb) fB
    simp only[Ks,lk,hb];exact Kw
  ·intro i o' h2 h3 k qx;rcases h3 with rfl|h3
   ·rw[hj]at h2;cases h2;exact .inr (hp k qx)
   ·exact .inr (hi.closed i o' h2 h3 k qx)
 clear hk ho xV;simp only[wpListIn]at h1 ⊢
 split
 ·rename_i hw
  rw[if_pos hw]at h1;obtain⟨h3,h4⟩:=h1;refine ⟨h3,?_⟩;generalize (o.semAt (FW r).round a.eval).run P w=res at h4 ⊢
  cases res with
  |ok nx w'=>
   cases nx with
   |value v=>exact⟨trivial,(key _ _ _ h4).2⟩
   |skip=>exact⟨trivial,(key _ _ _ h4).2⟩
   |defer d=>exact⟨trivial,(key _ _ _ h4).2⟩
   |enter f args=>exact⟨h4.1,h4.2.mono λe zj he=>by
     cases e with
     |returned v=>exact⟨trivial,(key _ _ _ he).2⟩
     |panicked c=>exact key _ _ _ he
     |outgrown=>obtain⟨a,w,h⟩:=he;exact⟨a,w,key _ _ _ h⟩⟩
   |row row args=>exact⟨h4.1,h4.2.mono λ_ _ he=>⟨trivial,(key _ _ _ he).2⟩⟩
   |round l f tmps tv body=>exact⟨h4.1,h4.2.mono λe zj he=>by
     cases e with
     |returned v=>exact⟨trivial,(key _ _ _ he).2⟩
     |panicked c=>exact key _ _ _ he
     |outgrown=>obtain⟨a,w,h⟩:=he;exact⟨a,w,key _ _ _ h⟩⟩
   |_=>exact h4.elim
  |halt x w'=>
   cases x with
   |panic v=>exact key _ _ _ h4
   |_=>exact h4.elim
 ·rename_i hw
  rw[if_neg hw]at h1;exact⟨h1.1,trivial,(key _ _ _ h1.2).2⟩
theorem nR:∀{bs:List Bool},bs.countP (!·)=0->∀i,i<bs.length->bs[i]? =some true
 |[],_,i,h=>by simp at h
 |b::bs,h,0,_=>by
  cases b with
  |true=>rfl
  |false=>simp at h
 |b::bs,h,i+1,hi=>by
  cases b with
  |true=>simpa using nR (bs:=bs) a84 i al3
  |false=>simp at h
theorem pD:∀{bs:List Bool} {i:Nat},bs[i]? =some false->(bs.set i true).countP (!·)+1=bs.countP (!·)
 |[],i,h=>by simp at h
 |b::bs,0,h=>by simp at h;subst h;simp
 |b::bs,i+1,h=>by
  have:=pD (bs:=bs) (i:=i) a84;rw[List.set_cons_succ,List.countP_cons,List.countP_cons];omega
theorem tx {bs:List Bool} (h:0<bs.countP (!·)):∃i:Nat,bs[i]? =some false/\∀k:Nat,k<i->bs[k]? =some true:=by
 induction bs with
 |nil=>simp at h
 |cons b bs ih=>
  cases b with
  |false=>exact⟨0,rfl,λk hk=>by omega⟩
  |true=>
   obtain⟨i,h1,h2⟩:=ih a84
   exact⟨i+1,by simpa using h1,λk hk=>by
    cases k with
    |zero=>rfl
    |succ k=>simpa using h2 k hV⟩
theorem R3 {w0:World} {l:List Oper} {o₁:Oper} {S:List (cy M)} (dU:fm (l++[o₁]) 0=true) (k7:(List.range l.length).all (λi=>(du o₁).contains i||(du o₁).any (λk=>(((l++[o₁])[k]?.map du).getD []).contains i))=true) (GZ:S.length=l.length) (ie:cz P r n F w0 (l++[o₁]) S ds L l S 0) (xV:Em F (l++[o₁]) S) (qZ:∀p∈F,∀b,p.2 b->M b) {Q:Exit->Act->World->Prop}
  (kL:∀a w,Inv F S (l++[o₁]) w0 L ds n (λi=>i<l.length) a w->wpListIn (FW r) 0 P (l++[o₁]).toArray (λe a' w'=>e= .normal/\Q .normal a' w') [o₁] a w):∀(fuel t:Nat) (listed:Array Bool) (a:Act) (w:World),listed.size=(l++[o₁]).length->listed.toList.countP (!·)=fuel->listed[l.length]? =some false->
  Inv F S (l++[o₁]) w0 L ds n (λi=>listed[i]? =some true) a w->wpOpsIn (FW r) 0 P (l++[o₁]).toArray Q (Region.linearise.go .any (l++[o₁]).toArray fuel t listed []) a w:=by
 intro fuel
 induction fuel with
 |zero=>
  intro t listed a w nE hc Ee hi;have:=nR hc l.length (by simp[nE]);have h2:listed.toList[l.length]? =some false:=by simpa using Ee
  rw[h2]at this;cases this
 |succ fuel ih=>
  intro t listed a w nE hc Ee hi;have Rz:(l++[o₁]).length=l.length+1:=by simp
  have tz:∀j,j∈Region.ready .any (l++[o₁]).toArray listed->∃o,(l++[o₁])[j]? =some o/\listed[j]? =some false/\∀k∈du o,listed[k]? =some true:=by
   intro j hj;simp only[Region.ready,List.mem_filter,List.mem_range,Bool.and_eq_true]at hj;obtain⟨h1,h2,h3⟩:=hj;have eU:j<(l++[o₁]).length:=by simpa using h1
   refine⟨(l++[o₁])[j],List.getElem?_eq_getElem eU,?_,?_⟩
   ·rw[Array.getElem?_eq_getElem hV];simp only[Array.getD_eq_getD_getElem?,Array.getElem?_eq_getElem (show j<listed.size by omega),Option.getD_some,Bool.not_eq_true']at h2;rw[h2]
   ·intro k hk;simp only[du,List.mem_map,List.mem_filter]at hk;obtain⟨e,⟨Wg,Wh⟩,rfl⟩:=hk;have h4:(l++[o₁]).toArray[j]? =some (l++[o₁])[j]:=by rw[List.getElem?_toArray];exact List.getElem?_eq_getElem eU
    rw[h4]at h3;simp only[Option.map_some,Option.getD_some,Array.all_eq_true_iff_forall_mem]at h3;have h5:=h3 e (by simpa using Wg);rw[Wh]at h5;simp only[Bool.not_true,Bool.false_or,Array.getD_eq_getD_getElem?]at h5
    cases hx:listed[e.on]? with
    |none=>simp[hx]at h5
    |some b=>simp[hx]at h5;rw[h5]
  have fB:Region.ready .any (l++[o₁]).toArray listed≠[]:=by
   obtain⟨i,h1,h2⟩:=tx (bs:=listed.toList) hV
   have eU:i<(l++[o₁]).length:=by
    have:=(List.getElem?_eq_some_iff.1 h1).1;simp only[Array.length_toList]at this;omega
   intro oK
   have ig:i∈Region.ready .any (l++[o₁]).toArray listed:=by
    simp only[Region.ready,List.mem_filter,List.mem_range,Bool.and_eq_true];refine⟨by simpa using eU,?_,?_⟩
    ·have:listed[i]? =some false:=by simpa using h1
     simp[Array.getD_eq_getD_getElem?,this]
    ·have h4:(l++[o₁]).toArray[i]? =some (l++[o₁])[i]:=by rw[List.getElem?_toArray];exact List.getElem?_eq_getElem eU
     rw[h4];simp only[Option.map_some,Option.getD_some,Array.all_eq_true_iff_forall_mem];intro e he
     cases hb:Region.binds .any e with
     |false=>rfl
     |true=>
      have hk:e.on∈du (l++[o₁])[i]:=by
       simp only[du,List.mem_map,List.mem_filter];exact⟨e,⟨by simpa using he,hb⟩,rfl⟩
      have aay:=dL dU i (l++[o₁])[i] (List.getElem?_eq_getElem eU) _ hk;have:listed[e.on]? =some true:=by simpa using h2 e.on hV
      simp[Array.getD_eq_getD_getElem?,this]
   rw[oK]at ig;cases ig
  simp only[Region.linearise.go]
  change wpOpsIn (FW r) 0 P (l++[o₁]).toArray Q (match (Region.ready .any (l++[o₁]).toArray listed)[t%(Region.ready .any (l++[o₁]).toArray listed).length]? with
   |some i=>Region.linearise.go .any (l++[o₁]).toArray fuel (t/(Region.ready .any (l++[o₁]).toArray listed).length) (listed.setIfInBounds i true) [i]
   |none=>[].reverse) a w
  have eU:t%(Region.ready .any (l++[o₁]).toArray listed).length<(Region.ready .any (l++[o₁]).toArray listed).length:=Nat.mod_lt _ (List.length_pos_iff.2 fB);rw[List.getElem?_eq_getElem eU];have ig:=List.getElem_mem eU;generalize (Region.ready .any (l++[o₁]).toArray listed)[t%(Region.ready .any (l++[o₁]).toArray listed).length]=j at ig;obtain⟨o,h1,h2,h3⟩:=tz j ig;simp only[];rw[linearise_go_acc,List.reverse_singleton,List.singleton_append];have qw:j<l.length+1:=by have:=(List.getElem?_eq_some_iff.1 h1).1;omega
  have GX:listed.toList[j]? =some false:=by simpa using h2
  have agx:=pD GX;by_cases G0:j=l.length
  ·subst G0;have ho:o=o₁:=by simpa using h1.symm
   subst ho
   have zm:∀i,i<l.length->listed[i]? =some true:=λi lC=>by
    have:=List.all_eq_true.1 k7 i (List.mem_range.2 lC);simp only[Bool.or_eq_true,List.contains_iff_mem,List.any_eq_true]at this;rcases this with h|⟨k,fg,fC⟩
    ·exact h3 i h
    ·cases nK:(l++[o])[k]? with
     |none=>rw[nK]at fC;simp at fC
     |some ok=>rw[nK]at fC;exact hi.closed k ok nK (h3 k fg) i (by simpa using fC)
   have Mu:fuel=0:=by
    have hz:(listed.toList.set l.length true).countP (!·)=0:=by
     rw[List.countP_eq_zero];intro b hb;obtain⟨i,lC⟩:=List.mem_iff_getElem?.1 hb;rw[List.getElem?_set]at lC
     split at lC
     ·split at lC
      ·cases lC;simp
      ·cases lC
     ·have qz:=(List.getElem?_eq_some_iff.1 lC).1;simp only[Array.length_toList]at qz;have:=zm i hV;have h9:listed.toList[i]? =some true:=by simpa using this
      rw[lC]at h9;cases h9;simp
    omega
   subst Mu;simp only[Region.linearise.go,List.reverse_nil];refine nQ (o:=o) (by simp) ?_;refine kL a w ⟨hi.step.eE (λb ⟨p,hp,hD,hb⟩=>⟨p,hp,?_,hb⟩) (λb ⟨p,hp,_,hb⟩=>qZ p hp b hb),λi o s h1 h2 h3=>hi.fin i o s h1 h2 (zm i h3),hi.size,hi.defers,λi o s d h1 h2 h3=>hi.done i o s d h1 h2 (zm i h3),λt v h4 h5=>hi.base t v h4 λi o' h6 h7=>h5 i o' h6 ?_,λi o' h4 h5 k hk=>?_⟩
   ·have qz:=(Array.getElem?_eq_some_iff.1 hD).1;rcases Nat.lt_or_ge p.1 l.length with h|h
    ·exact h
    ·have:p.1=l.length:=by omega
     rw[this,Ee]at hD;cases hD
   ·rcases Nat.lt_or_ge i l.length with h|h
    ·exact h
    ·have qz:=(List.getElem?_eq_some_iff.1 h6).1;have:i=l.length:=by omega
     rw[this,Ee]at h7;cases h7
   ·have:=dL dU i o' h4 k hk;omega
  ·have hlj:l[j]? =some o:=by rwa [List.getElem?_append_left hV]at h1
   refine hi.next dU xV qZ (by have:=ie.get j o hlj;rwa [Nat.zero_add]at this) h1 (by rw[h2];simp) h3 λa' w' lC=> ?_
   refine ih _ _ _ _ (by simpa using nE) ?_ ?_ ?_
   ·simp only[Array.toList_setIfInBounds];omega
   ·rw[Array.getElem?_setIfInBounds,if_neg G0];exact Ee
   ·have MZ:j<listed.size:=(Array.getElem?_eq_some_iff.1 h2).1
    have su:∀i,((listed.setIfInBounds j true)[i]? =some true)↔(i=j\/listed[i]? =some true):=by
     intro i;rw[Array.getElem?_setIfInBounds];by_cases jS:j=i
     ·subst jS;simp[MZ]
     ·rw[if_neg jS];exact⟨.inr,λh=>h.resolve_left (λe=>jS e.symm)⟩
    exact⟨lC.step.eE (λb ⟨p,hp,hD,hb⟩=>⟨p,hp,(su p.1).2 hD,hb⟩) (λb ⟨p,hp,_,hb⟩=>qZ p hp b hb),λi o s h1 h2 h3=>lC.fin i o s h1 h2 ((su i).1 h3),lC.size,lC.defers,λi o s d h1 h2 h3=>lC.done i o s d h1 h2 ((su i).1 h3),λt v h1 h2=>lC.base t v h1 λi o h3 h4=>h2 i o h3 ((su i).2 h4),λi o h1 h2 k hk=>(su k).2 (lC.closed i o h1 ((su i).1 h2) k hk)⟩
theorem T.M8 {id:Nat} {l:List Oper} {o₁:Oper} (hm:P.follows .mixedOrders=true) (F:List (Nat×aP)) (S:List (cy M)) (dU:fm (l++[o₁]) 0=true) (k7:(List.range l.length).all (λi=>(du o₁).contains i||(du o₁).any (λk=>(((l++[o₁])[k]?.map du).getD []).contains i))=true) (GZ:S.length=l.length) (qZ:∀p∈F,∀b,p.2 b->M b) (xV:sq F (l++[o₁]) S 0) (ie:cz P r n F w (l++[o₁]) S ds L l S 0)
  (kL:∀w',Step M w M w' (j5 (F.map (·.2)))->iS w' (λacc=>Rg P r n (l++[o₁]).toArray [o₁] (acc++kK (l++[o₁]) (l.length+1) L) ds w' (λe L ds w=>e= .normal/\K .normal L ds w)) l S []):T P r n (.region id (l++[o₁]).toArray true) L ds w K:=by
 refine ⟨λa ha=>wpIn_region_draw λt=> ?_⟩;simp only[Region.schedule,hm,Bool.true_or,if_true,Region.linearise];have hd:Step M w M {w with drawn:=w.drawn+1} aH:=oI M w;refine R3 (w0:=w) (S:=S) dU k7 GZ ie xV.st qZ (Q:=up n K) ?_ _ t _ a _ (by simp) ab2 (by simp[Array.getElem?_replicate]) ⟨hd.eE a30 (λb ⟨p,hp,_,hb⟩=>qZ p hp b hb),?_,ha.size,ha.defers,?_,?_,?_⟩
 ·intro a' w' hi
  have jh:∀{i:Nat} {o:Oper},l[i]? =some o->(l++[o₁])[i]? =some o/\i<l.length:=λ{i o} h=>by
   have h1:=(List.getElem?_eq_some_iff.1 h).1;exact⟨by rw[List.getElem?_append_left h1];exact h,h1⟩
  obtain⟨acc,h1,h2⟩:=iS.use (a:=a') l S [] (λi o s h1 h2 h3=>hi.fin i o s (jh h1).1 h2 (jh h1).2 h3) (λi o s d h1 h2 h3=>hi.done i o s d (jh h1).1 h2 (jh h1).2 h3) (λt v h=>by simp[lk]at h)
   (kL w' (hi.step.eE (λb ⟨p,hp,_,hb⟩=>fY.2 ⟨p.2,List.mem_map.2 ⟨p,hp,rfl⟩,hb⟩) (λb hb=>by
    obtain⟨N,hN,Ec⟩:=fY.1 hb;obtain⟨p,hp,rfl⟩:=List.mem_map.1 hN;exact qZ p hp b Ec)))
  have h3:=h1.run a' ⟨hi.size,hi.defers,λt v h=>by
   rcases mv h with h|h
   ·exact h2 t v h
   ·obtain⟨h3,h4⟩:=ku (f:=lG (l++[o₁]) (l.length+1)) h;refine hi.base t v h4 λi o h5 _ h6=> ?_
    simp only[lG,List.all_eq_true]at h3;have:=h3 o (List.mem_of_getElem? h5);simp only[h6,beq_self_eq_true,Bool.not_true,Bool.false_or,List.contains_iff_mem]at this;have h7:=dL dU i o h5 _ this;have h8:=(List.getElem?_eq_some_iff.1 h5).1;simp at h8;omega⟩
  exact zk h3 λe a2 w2 ⟨L2,ds2,Ef,he,hk⟩=>⟨he,L2,ds2,Ef,hk⟩
 ·intro i o s h1 h2 h3;simp[Array.getElem?_replicate]at h3
 ·intro i o s d h1 h2 h3;simp[Array.getElem?_replicate]at h3
 ·intro t v h1 _;exact ha.at_ t v h1
 ·intro i o h1 h2;simp[Array.getElem?_replicate]at h2
def lS (l:List Oper) (k:Nat):Bool:=(List.range' k (l.length-k)).all λj=>((l[j]?.map du).getD []).contains (j-1)
theorem mL {l:List Oper} {k:Nat} (h:lS l k=true) {j:Nat} {o:Oper} (hj:k<=j) (ho:l[j]? =some o):j-1∈du o:=by
 have eU:=(List.getElem?_eq_some_iff.1 ho).1;have:=List.all_eq_true.1 h j (List.mem_range'_1.2 ⟨hj,by omega⟩);rw[ho]at this;simpa using this
theorem Na {l:List Oper} (dU:fm l 0=true):∀(fuel k t:Nat) (listed:Array Bool),listed.size=l.length->k+fuel=l.length->lS l (k+1)=true->(∀i,i<k->listed[i]? =some true)->(∀i,k<=i->i<l.length->listed[i]? =some false)->(∀i o,l[i]? =some o->i=k->∀j∈du o,j<k)->
  Region.linearise.go .any l.toArray fuel t listed []=List.range' k fuel:=by
 intro fuel
 induction fuel with
 |zero=>intro k t listed _ _ _ _ _ _;rfl
 |succ fuel ih=>
  intro k t listed nE hk C5 h1 h2 h3
  have tz:Region.ready .any l.toArray listed=[k]:=by
   have ig:∀j,j∈Region.ready .any l.toArray listed↔j=k:=by
    intro j;simp only[Region.ready,List.mem_filter,List.mem_range,Bool.and_eq_true];constructor
    ·rintro⟨g1,g2,g3⟩;have qw:j<l.length:=by simpa using g1
     rcases Nat.lt_trichotomy j k with h|h|h
     ·have:=h1 j h;simp[Array.getD_eq_getD_getElem?,this]at g2
     ·exact h
     ·exfalso;have hp:=mL C5 (j:=j) hV (List.getElem?_eq_getElem qw);simp only[du,List.mem_map,List.mem_filter]at hp;obtain⟨e,⟨Wg,Wh⟩,he3⟩:=hp;have h4:l.toArray[j]? =some l[j]:=by rw[List.getElem?_toArray];exact List.getElem?_eq_getElem qw
      rw[h4]at g3;simp only[Option.map_some,Option.getD_some,Array.all_eq_true_iff_forall_mem]at g3;have h5:=g3 e (by simpa using Wg);rw[Wh,he3]at h5;have:=h2 (j-1) hV hV;simp[Array.getD_eq_getD_getElem?,this]at h5
    ·rintro rfl;have qw:j<l.length:=by omega
     refine⟨by simpa using qw,?_,?_⟩
     ·have:=h2 j (Nat.le_refl _) qw;simp[Array.getD_eq_getD_getElem?,this]
     ·have h4:l.toArray[j]? =some l[j]:=by rw[List.getElem?_toArray];exact List.getElem?_eq_getElem qw
      rw[h4];simp only[Option.map_some,Option.getD_some,Array.all_eq_true_iff_forall_mem];intro e he
      cases hb:Region.binds .any e with
      |false=>rfl
      |true=>
       have R4:e.on∈du l[j]:=by simp only[du,List.mem_map,List.mem_filter];exact⟨e,⟨by simpa using he,hb⟩,rfl⟩
       have:=h1 _ (h3 j l[j] (List.getElem?_eq_getElem qw) rfl _ R4);simp[Array.getD_eq_getD_getElem?,this]
   have nN:(Region.ready .any l.toArray listed).Nodup:=by unfold Region.ready;exact List.Pairwise.filter _ List.nodup_range
   cases hr:Region.ready .any l.toArray listed with
   |nil=>have:=(ig k).2 rfl;rw[hr]at this;cases this
   |cons x xs=>
    have hx:x=k:=(ig x).1 (by rw[hr];exact List.mem_cons_self ..)
    cases xs with
    |nil=>rw[hx]
    |cons y ys=>
     have hy:y=k:=(ig y).1 (by rw[hr];simp);rw[hr]at nN;simp[hx,hy]at nN
  simp only[Region.linearise.go]
  change(match (Region.ready .any l.toArray listed)[t%(Region.ready .any l.toArray listed).length]? with
   |some i=>Region.linearise.go .any l.toArray fuel (t/(Region.ready .any l.toArray listed).length) (listed.setIfInBounds i true) [i]
   |none=>[].reverse)=_
  rw[tz];simp only[List.length_singleton,Nat.mod_one,List.getElem?_cons_zero];rw[linearise_go_acc,List.reverse_singleton,List.singleton_append];have G1:k<listed.size:=by omega
  rw[ih (k+1) _ _ (by simpa using nE) hV (by
   simp only[lS,List.all_eq_true]at C5 ⊢;intro j hj;exact C5 j (by rw[List.mem_range'_1]at hj ⊢;omega)) ?_ ?_ ?_]
  ·rfl
  ·intro i hi;rw[Array.getElem?_setIfInBounds];by_cases e:k=i
   ·subst e;simp[G1]
   ·rw[if_neg e];exact h1 i hV
  ·intro i hi qz;rw[Array.getElem?_setIfInBounds,if_neg hV];exact h2 i hV qz
  ·intro i o ho hi j hj;have:=dL dU i o ho j hj;omega
def l6 (l:List Oper):Nat->List Nat->Bool
 |0,_=>true
 |j+1,acc=>acc.contains j&&l6 l j (acc++(l[j]?.map du).getD [])
theorem tA {l:List Oper} {D:Nat->Prop} (kW:∀k o,l[k]? =some o->D k->∀i∈du o,D i):∀(j:Nat) (acc:List Nat),l6 l j acc=true->(∀k∈acc,D k)->∀i,i<j->D i
 |0,_,_,_,i,hi=>by omega
 |j+1,acc,h,ha,i,hi=>by
  simp only[l6,Bool.and_eq_true,List.contains_iff_mem]at h;have hj:=ha j h.1;rcases Nat.lt_or_ge i j with eU|Mr
  ·refine tA kW j _ h.2 (λk hk=>?_) i eU;rcases List.mem_append.1 hk with hk|hk
   ·exact ha k hk
   ·cases ho:l[j]? with
    |none=>rw[ho]at hk;simp at hk
    |some o=>rw[ho]at hk;exact kW j o ho hj k (by simpa using hk)
  ·rw[show i=j from by omega];exact hj
theorem Hc {l:List Oper} {o₁:Oper} {tl:List Oper} {J:(Nat->Prop)->Act->World->Prop} (dU:fm (l++o₁::tl) 0=true) (k7:l6 (l++o₁::tl) l.length (du o₁)=true) (C5:lS (l++o₁::tl) (l.length+1)=true)
  (Eo:∀{D D':Nat->Prop} {a w},J D a w->(∀i,i<(l++o₁::tl).length->(D' i↔D i))->J D' a w) {Q:Exit->Act->World->Prop}
  (Nb:∀{D:Nat->Prop} {a w j o rest},j<l.length->l[j]? =some o->¬D j->(∀k∈du o,D k)->(∀i o,(l++o₁::tl)[i]? =some o->D i->∀k∈du o,D k)->J D a w->(∀a' w',J (λi=>i=j\/D i) a' w'→wpOpsIn (FW r) 0 P (l++o₁::tl).toArray Q rest a' w')->wpOpsIn (FW r) 0 P (l++o₁::tl).toArray Q (j::rest) a w)
  (kL:∀a w,J (λi=>i<l.length) a w->wpListIn (FW r) 0 P (l++o₁::tl).toArray Q (o₁::tl) a w):∀(fuel t:Nat) (listed:Array Bool) (a:Act) (w:World),listed.size=(l++o₁::tl).length->listed.toList.countP (!·)=fuel->(∀i,l.length<=i->i<(l++o₁::tl).length->listed[i]? =some false)->
  (∀(i:Nat) (o:Oper),(l++o₁::tl)[i]? =some o->listed[i]? =some true->∀k∈du o,listed[k]? =some true)->J (λi=>listed[i]? =some true) a w->wpOpsIn (FW r) 0 P (l++o₁::tl).toArray Q (Region.linearise.go .any (l++o₁::tl).toArray fuel t listed []) a w:=by
 intro fuel
 induction fuel with
 |zero=>
  intro t listed a w nE hc Ee kW hi;have:=nR hc l.length (by simp[nE]);have h2:listed.toList[l.length]? =some false:=by simpa using Ee l.length (Nat.le_refl _) (by simp)
  rw[h2]at this;cases this
 |succ fuel ih=>
  intro t listed a w nE hc Ee kW hi;have Rz:(l++o₁::tl).length=l.length+1+tl.length:=by simp;omega
  have aqI:listed[l.length]? =some false:=Ee l.length (Nat.le_refl _) hV
  have tz:∀j,j∈Region.ready .any (l++o₁::tl).toArray listed->∃o,(l++o₁::tl)[j]? =some o/\listed[j]? =some false/\∀k∈du o,listed[k]? =some true:=by
   intro j hj;simp only[Region.ready,List.mem_filter,List.mem_range,Bool.and_eq_true]at hj;obtain⟨h1,h2,h3⟩:=hj;have eU:j<(l++o₁::tl).length:=by simpa using h1
   refine⟨(l++o₁::tl)[j],List.getElem?_eq_getElem eU,?_,?_⟩
   ·rw[Array.getElem?_eq_getElem hV];simp only[Array.getD_eq_getD_getElem?,Array.getElem?_eq_getElem (show j<listed.size by omega),Option.getD_some,Bool.not_eq_true']at h2;rw[h2]
   ·intro k hk;simp only[du,List.mem_map,List.mem_filter]at hk;obtain⟨e,⟨Wg,Wh⟩,rfl⟩:=hk;have h4:(l++o₁::tl).toArray[j]? =some (l++o₁::tl)[j]:=by rw[List.getElem?_toArray];exact List.getElem?_eq_getElem eU
    rw[h4]at h3;simp only[Option.map_some,Option.getD_some,Array.all_eq_true_iff_forall_mem]at h3;have h5:=h3 e (by simpa using Wg);rw[Wh]at h5;simp only[Bool.not_true,Bool.false_or,Array.getD_eq_getD_getElem?]at h5
    cases hx:listed[e.on]? with
    |none=>simp[hx]at h5
    |some b=>simp[hx]at h5;rw[h5]
  have fB:Region.ready .any (l++o₁::tl).toArray listed≠[]:=by
   obtain⟨i,h1,h2⟩:=tx (bs:=listed.toList) hV
   have eU:i<(l++o₁::tl).length:=by
    have:=(List.getElem?_eq_some_iff.1 h1).1;simp only[Array.length_toList]at this;omega
   intro oK
   have ig:i∈Region.ready .any (l++o₁::tl).toArray listed:=by
    simp only[Region.ready,List.mem_filter,List.mem_range,Bool.and_eq_true];refine⟨by simpa using eU,?_,?_⟩
    ·have:listed[i]? =some false:=by simpa using h1
     simp[Array.getD_eq_getD_getElem?,this]
    ·have h4:(l++o₁::tl).toArray[i]? =some (l++o₁::tl)[i]:=by rw[List.getElem?_toArray];exact List.getElem?_eq_getElem eU
     rw[h4];simp only[Option.map_some,Option.getD_some,Array.all_eq_true_iff_forall_mem];intro e he
     cases hb:Region.binds .any e with
     |false=>rfl
     |true=>
      have hk:e.on∈du (l++o₁::tl)[i]:=by
       simp only[du,List.mem_map,List.mem_filter];exact⟨e,⟨by simpa using he,hb⟩,rfl⟩
      have aay:=dL dU i (l++o₁::tl)[i] (List.getElem?_eq_getElem eU) _ hk;have:listed[e.on]? =some true:=by simpa using h2 e.on hV
      simp[Array.getD_eq_getD_getElem?,this]
   rw[oK]at ig;cases ig
  simp only[Region.linearise.go]
  change wpOpsIn (FW r) 0 P (l++o₁::tl).toArray Q (match (Region.ready .any (l++o₁::tl).toArray listed)[t%(Region.ready .any (l++o₁::tl).toArray listed).length]? with
   |some i=>Region.linearise.go .any (l++o₁::tl).toArray fuel (t/(Region.ready .any (l++o₁::tl).toArray listed).length) (listed.setIfInBounds i true) [i]
   |none=>[].reverse) a w
  have eU:t%(Region.ready .any (l++o₁::tl).toArray listed).length<(Region.ready .any (l++o₁::tl).toArray listed).length:=Nat.mod_lt _ (List.length_pos_iff.2 fB);rw[List.getElem?_eq_getElem eU];have ig:=List.getElem_mem eU;generalize (Region.ready .any (l++o₁::tl).toArray listed)[t%(Region.ready .any (l++o₁::tl).toArray listed).length]=j at ig;obtain⟨o,h1,h2,h3⟩:=tz j ig;simp only[];rw[linearise_go_acc,List.reverse_singleton,List.singleton_append];have qw:j<l.length+1+tl.length:=by have:=(List.getElem?_eq_some_iff.1 h1).1;omega
  have GX:listed.toList[j]? =some false:=by simpa using h2
  have agx:=pD GX;by_cases G0:j=l.length
  ·subst G0;have ho:o=o₁:=by simpa using h1.symm
   subst ho;have zm:∀i,i<l.length->listed[i]? =some true:=λi lC=>tA (D:=λi=>listed[i]? =some true) kW l.length (du o) k7 (λk hk=>h3 k hk) i lC
   have ZS:fuel=tl.length:=by
    have hz:((listed.toList.set l.length true).drop (l.length+1)).countP (!·)=tl.length:=by
     rw[List.drop_set_of_lt hV]
     have iR:∀b∈listed.toList.drop (l.length+1),(!b)=true:=by
      intro b hb;obtain⟨i,lC⟩:=List.mem_iff_getElem?.1 hb;rw[List.getElem?_drop]at lC;have qz:=(List.getElem?_eq_some_iff.1 lC).1;simp only[Array.length_toList]at qz;have:=Ee (l.length+1+i) hV hV;have h9:listed.toList[l.length+1+i]? =some false:=by simpa using this
      rw[lC]at h9;cases h9;rfl
     rw[List.countP_eq_length.2 iR,List.length_drop,Array.length_toList];omega
    have hy:((listed.toList.set l.length true).take (l.length+1)).countP (!·)=0:=by
     rw[List.countP_eq_zero];intro b hb;obtain⟨i,lC⟩:=List.mem_iff_getElem?.1 hb;rw[List.getElem?_take]at lC
     split at lC
     ·rw[List.getElem?_set]at lC
      split at lC
      ·split at lC
       ·cases lC;simp
       ·cases lC
      ·have:=zm i hV;have h9:listed.toList[i]? =some true:=by simpa using this
       rw[lC]at h9;cases h9;simp
     ·cases lC
    have:=List.take_append_drop (l.length+1) (listed.toList.set l.length true)
    have h8:(listed.toList.set l.length true).countP (!·)=0+tl.length:=by
     rw[<-hy,<-hz,<-List.countP_append,this]
    omega
   subst ZS;have ze:l.length<listed.size:=by omega
   rw[Na dU tl.length (l.length+1) _ _ (by simpa using nE) hV (by
    simp only[lS,List.all_eq_true]at C5 ⊢;intro j hj
    exact C5 j (by rw[List.mem_range'_1]at hj ⊢;omega)) (λi lC=>by
     rw[Array.getElem?_setIfInBounds];by_cases e:l.length=i
     ·subst e;simp[ze]
     ·rw[if_neg e];exact zm i hV) (λi h5 h6=>by
     rw[Array.getElem?_setIfInBounds,if_neg hV];exact Ee i hV h6) (λi o' iY he j hj=>by have:=dL dU i o' iY j hj;omega)]
   have hrg:l.length::List.range' (l.length+1) tl.length=List.range' l.length (o::tl).length:=by simp[List.range'_succ]
   rw[hrg,wpOpsIn_eq_wpListIn (o::tl) l.length (λj=>by rw[List.getElem?_toArray,List.getElem?_append_right hV];congr 1;omega)]
   exact kL a w (Eo hi λi qz=>⟨λh=>zm i h,λh=>by
    rcases Nat.lt_or_ge i l.length with h5|h5
    ·exact h5
    ·have h6:=Ee i h5 qz;rw[h6]at h;cases h⟩)
  ·have aaz:j<l.length:=by
    rcases Nat.lt_or_ge j l.length with h|h
    ·exact h
    ·exfalso;have hp:=h3 _ (mL C5 (j:=j) hV h1);rw[Ee (j-1) hV hV]at hp;cases hp
   have hlj:l[j]? =some o:=by rwa [List.getElem?_append_left hV]at h1
   refine Nb aaz hlj (by rw[h2];simp) h3 kW hi λa' w' lC=> ?_
   have MZ:j<listed.size:=(Array.getElem?_eq_some_iff.1 h2).1
   have su:∀i,((listed.setIfInBounds j true)[i]? =some true)↔(i=j\/listed[i]? =some true):=by
    intro i;rw[Array.getElem?_setIfInBounds];by_cases jS:j=i
    ·subst jS;simp[MZ]
    ·rw[if_neg jS];exact⟨.inr,λh=>h.resolve_left (λe=>jS e.symm)⟩
   refine ih _ _ _ _ (by simpa using nE) ?_ ?_ ?_ (Eo lC λi _=>su i)
   ·simp only[Array.toList_setIfInBounds];omega
   ·intro i h5 h6;rw[Array.getElem?_setIfInBounds,if_neg hV];exact Ee i h5 h6
   ·intro i o' h5 h6 k hk;rcases(su i).1 h6 with e|h7
    ·subst e;have:o'=o:=by rw[h1]at h5;exact(Option.some.inj h5).symm
     subst this;exact(su k).2 (.inr (h3 k hk))
    ·exact(su k).2 (.inr (kW i o' h5 h7 k hk))
theorem mM {l:List Oper} {J:(Nat->Prop)->Act->World->Prop} (dU:fm l 0=true)
  (Eo:∀{D D':Nat->Prop} {a w},J D a w->(∀i,i<l.length->(D' i↔D i))->J D' a w) {Q:Exit->Act->World->Prop}
  (Nb:∀{D:Nat->Prop} {a w j o rest},j<l.length->l[j]? =some o->¬D j->(∀k∈du o,D k)->(∀i o,l[i]? =some o->D i->∀k∈du o,D k)->J D a w->(∀a' w',J (λi=>i=j\/D i) a' w'→wpOpsIn (FW r) 0 P l.toArray Q rest a' w')->wpOpsIn (FW r) 0 P l.toArray Q (j::rest) a w)
  (kL:∀a w,J (λi=>i<l.length) a w->Q .normal a w):∀(fuel t:Nat) (listed:Array Bool) (a:Act) (w:World),listed.size=l.length->listed.toList.countP (!·)=fuel->
  (∀(i:Nat) (o:Oper),l[i]? =some o->listed[i]? =some true->∀k∈du o,listed[k]? =some true)->J (λi=>listed[i]? =some true) a w->wpOpsIn (FW r) 0 P l.toArray Q (Region.linearise.go .any l.toArray fuel t listed []) a w:=by
 intro fuel
 induction fuel with
 |zero=>
  intro t listed a w nE hc kW hi;simp only[Region.linearise.go,List.reverse_nil,wpOpsIn];exact kL a w (Eo hi λi qz=>⟨λh=>by simpa using nR hc i (by simp[nE];exact h),λh=>qz⟩)
 |succ fuel ih=>
  intro t listed a w nE hc kW hi
  have tz:∀j,j∈Region.ready .any l.toArray listed->∃o,l[j]? =some o/\listed[j]? =some false/\∀k∈du o,listed[k]? =some true:=by
   intro j hj;simp only[Region.ready,List.mem_filter,List.mem_range,Bool.and_eq_true]at hj;obtain⟨h1,h2,h3⟩:=hj;have eU:j<l.length:=by simpa using h1
   refine⟨l[j],List.getElem?_eq_getElem eU,?_,?_⟩
   ·rw[Array.getElem?_eq_getElem hV];simp only[Array.getD_eq_getD_getElem?,Array.getElem?_eq_getElem (show j<listed.size by omega),Option.getD_some,Bool.not_eq_true']at h2;rw[h2]
   ·intro k hk;simp only[du,List.mem_map,List.mem_filter]at hk;obtain⟨e,⟨Wg,Wh⟩,rfl⟩:=hk;have h4:l.toArray[j]? =some l[j]:=by simp[eU]
    rw[h4]at h3;simp only[Option.map_some,Option.getD_some,Array.all_eq_true_iff_forall_mem]at h3;have h5:=h3 e (by simpa using Wg);rw[Wh]at h5;simp only[Bool.not_true,Bool.false_or,Array.getD_eq_getD_getElem?]at h5
    cases hx:listed[e.on]? with
    |none=>simp[hx]at h5
    |some b=>simp[hx]at h5;rw[h5]
  have fB:Region.ready .any l.toArray listed≠[]:=by
   obtain⟨i,h1,h2⟩:=tx (bs:=listed.toList) hV
   have eU:i<l.length:=by
    have:=(List.getElem?_eq_some_iff.1 h1).1;simp at this;omega
   intro oK
   have ig:i∈Region.ready .any l.toArray listed:=by
    simp only[Region.ready,List.mem_filter,List.mem_range,Bool.and_eq_true];refine⟨by simpa using eU,?_,?_⟩
    ·have:listed[i]? =some false:=by simpa using h1
     simp[Array.getD_eq_getD_getElem?,this]
    ·have h4:l.toArray[i]? =some l[i]:=by simp[eU]
     rw[h4];simp only[Option.map_some,Option.getD_some,Array.all_eq_true_iff_forall_mem];intro e he
     cases hb:Region.binds .any e with
     |false=>rfl
     |true=>
      have hk:e.on∈du l[i]:=by
       simp only[du,List.mem_map,List.mem_filter];exact⟨e,⟨by simpa using he,hb⟩,rfl⟩
      have aay:=dL dU i l[i] (List.getElem?_eq_getElem eU) _ hk;have:listed[e.on]? =some true:=by simpa using h2 e.on hV
      simp[Array.getD_eq_getD_getElem?,this]
   rw[oK]at ig;cases ig
  simp only[Region.linearise.go]
  change wpOpsIn (FW r) 0 P l.toArray Q (match (Region.ready .any l.toArray listed)[t%(Region.ready .any l.toArray listed).length]? with
   |some i=>Region.linearise.go .any l.toArray fuel (t/(Region.ready .any l.toArray listed).length) (listed.setIfInBounds i true) [i]
   |none=>[].reverse) a w
  have eU:t%(Region.ready .any l.toArray listed).length<(Region.ready .any l.toArray listed).length:=Nat.mod_lt _ (List.length_pos_iff.2 fB);rw[List.getElem?_eq_getElem eU];have ig:=List.getElem_mem eU;generalize (Region.ready .any l.toArray listed)[t%(Region.ready .any l.toArray listed).length]=j at ig;obtain⟨o,h1,h2,h3⟩:=tz j ig;simp only[];rw[linearise_go_acc,List.reverse_singleton,List.singleton_append];have qw:j<l.length:=(List.getElem?_eq_some_iff.1 h1).1;refine Nb qw h1 (by rw[h2];simp) h3 kW hi λa' w' lC=> ?_
  have GX:listed.toList[j]? =some false:=by simpa using h2
  have MZ:j<listed.size:=(Array.getElem?_eq_some_iff.1 h2).1
  have su:∀i,((listed.setIfInBounds j true)[i]? =some true)↔(i=j\/listed[i]? =some true):=by
   intro i;rw[Array.getElem?_setIfInBounds];by_cases jS:j=i
   ·subst jS;simp[MZ]
   ·rw[if_neg jS];exact⟨.inr,λh=>h.resolve_left (λe=>jS e.symm)⟩
  refine ih _ _ _ _ (by simpa using nE) ?_ ?_ (Eo lC λi _=>su i)
  ·have:=pD GX;simp only[Array.toList_setIfInBounds];omega
  ·intro i o' h5 h6 k hk;rcases(su i).1 h6 with e|h7
   ·subst e;have:o'=o:=by rw[h1]at h5;exact(Option.some.inj h5).symm
    subst this;exact(su k).2 (.inr (h3 k hk))
   ·exact(su k).2 (.inr (kW i o' h5 h7 k hk))
theorem Inv.iff {w0:World} {l:List Oper} {S:List (cy M)} {D D':Nat->Prop} {a:Act} {w:World} (hi:Inv F S l w0 L ds n D a w) (h:∀i,D i↔D' i):Inv F S l w0 L ds n D' a w:=by
 have e:D=D':=funext λi=>propext (h i)
 exact e▸hi
theorem Kx {w0:World} {l:List Oper} {S:List (cy M)} (dU:fm l 0=true) (ie:cz P r n F w0 l S ds L l S 0) (xV:Em F l S) (qZ:∀p∈F,∀b,p.2 b->M b) {Q:Exit->Act->World->Prop}
  (kL:∀a w,Inv F S l w0 L ds n (λi=>i<l.length) a w->Q .normal a w):∀(fuel t:Nat) (listed:Array Bool) (a:Act) (w:World),listed.size=l.length->listed.toList.countP (!·)=fuel->
  Inv F S l w0 L ds n (λi=>listed[i]? =some true) a w->wpOpsIn (FW r) 0 P l.toArray Q (Region.linearise.go .any l.toArray fuel t listed []) a w:=by
 intro fuel t listed a w nE hc hi;refine mM (J:=λD a w=>Inv F S l w0 L ds n (λi=>D i/\i<l.length) a w) dU (λhj hD=>hj.iff λi=>⟨λh=>⟨(hD i h.2).2 h.1,h.2⟩,λh=>⟨(hD i h.2).1 h.1,h.2⟩⟩) (λ{D a w j o rest} qw ho pC hp kW hi hk=>?_) (λa w h=>kL a w (h.iff λi=>⟨λh=>h.1,λh=>⟨h,h⟩⟩)) fuel t listed a w nE hc (λi o h1 h2 k hk=>hi.closed i o h1 h2 k hk) (hi.iff λi=>⟨λh=>⟨h,by have:=(Array.getElem?_eq_some_iff.1 h).1;omega⟩,λh=>h.1⟩);exact hi.next dU xV qZ (by have:=ie.get j o ho;rwa [Nat.zero_add]at this) ho (λh=>pC h.1) (λk R4=>⟨hp k R4,by have:=dL dU j o ho k R4;omega⟩) λa' w' lC=>hk a' w' (lC.iff λi=>⟨λh=>h.elim (λe=>⟨.inl e,by omega⟩) (λh=>⟨.inr h.1,h.2⟩),λh=>h.1.imp id (λh2=>⟨h2,h.2⟩)⟩)
theorem Ky {w0:World} {l:List Oper} {o₁:Oper} {tl:List Oper} {S:List (cy M)} (dU:fm (l++o₁::tl) 0=true) (k7:l6 (l++o₁::tl) l.length (du o₁)=true) (C5:lS (l++o₁::tl) (l.length+1)=true) (GZ:S.length=l.length) (ie:cz P r n F w0 (l++o₁::tl) S ds L l S 0) (xV:Em F (l++o₁::tl) S) (qZ:∀p∈F,∀b,p.2 b->M b) {Q:Exit->Act->World->Prop}
  (kL:∀a w,Inv F S (l++o₁::tl) w0 L ds n (λi=>i<l.length) a w->wpListIn (FW r) 0 P (l++o₁::tl).toArray Q (o₁::tl) a w):∀(fuel t:Nat) (listed:Array Bool) (a:Act) (w:World),listed.size=(l++o₁::tl).length->listed.toList.countP (!·)=fuel->(∀i,l.length<=i->i<(l++o₁::tl).length->listed[i]? =some false)->
  Inv F S (l++o₁::tl) w0 L ds n (λi=>listed[i]? =some true) a w->wpOpsIn (FW r) 0 P (l++o₁::tl).toArray Q (Region.linearise.go .any (l++o₁::tl).toArray fuel t listed []) a w:=by
 intro fuel t listed a w nE hc Ee hi;have Rz:l.length<(l++o₁::tl).length:=by rw[List.length_append,List.length_cons];omega
 refine Hc (J:=λD a w=>Inv F S (l++o₁::tl) w0 L ds n (λi=>D i/\i<(l++o₁::tl).length) a w) dU k7 C5 (λhj hD=>hj.iff λi=>⟨λh=>⟨(hD i h.2).2 h.1,h.2⟩,λh=>⟨(hD i h.2).1 h.1,h.2⟩⟩) (λ{D a w j o rest} qw ho pC hp kW hi hk=>?_) (λa w h=>kL a w (h.iff λi=>⟨λh=>h.1,λh=>⟨h,by omega⟩⟩)) fuel t listed a w nE hc Ee (λi o h1 h2 k hk=>hi.closed i o h1 h2 k hk) (hi.iff λi=>⟨λh=>⟨h,by have:=(Array.getElem?_eq_some_iff.1 h).1;omega⟩,λh=>h.1⟩);have iY:(l++o₁::tl)[j]? =some o:=by rw[List.getElem?_append_left qw];exact ho
 exact hi.next dU xV qZ (by have:=ie.get j o ho;rwa [Nat.zero_add]at this) iY (λh=>pC h.1) (λk R4=>⟨hp k R4,by have:=dL dU j o iY k R4;omega⟩) λa' w' lC=>hk a' w' (lC.iff λi=>⟨λh=>h.elim (λe=>⟨.inl e,by omega⟩) (λh=>⟨.inr h.1,h.2⟩),λh=>h.1.imp id (λh2=>⟨h2,h.2⟩)⟩)
theorem T.He {id:Nat} {l:List Oper} {o₁:Oper} {tl:List Oper} (hm:P.follows .mixedOrders=true) (F:List (Nat×aP)) (S:List (cy M)) (dU:fm (l++o₁::tl) 0=true) (k7:l6 (l++o₁::tl) l.length (du o₁)=true) (C5:lS (l++o₁::tl) (l.length+1)=true) (GZ:S.length=l.length) (qZ:∀p∈F,∀b,p.2 b->M b) (xV:sq F (l++o₁::tl) S 0) (ie:cz P r n F w (l++o₁::tl) S ds L l S 0)
  (kL:∀w',Step M w M w' (j5 (F.map (·.2)))->iS w' (λacc=>Rg P r n (l++o₁::tl).toArray (o₁::tl) (acc++kK (l++o₁::tl) (l.length+1+tl.length) L) ds w' K) l S []):T P r n (.region id (l++o₁::tl).toArray true) L ds w K:=by
 refine ⟨λa ha=>wpIn_region_draw λt=> ?_⟩;simp only[Region.schedule,hm,Bool.true_or,if_true,Region.linearise];have hd:Step M w M {w with drawn:=w.drawn+1} aH:=oI M w;refine Ky (w0:=w) (S:=S) dU k7 C5 GZ ie xV.st qZ (Q:=up n K) ?_ _ t _ a _ (by simp) ab2 (by intro i _ h;simp[Array.getElem?_replicate];simpa using h) ⟨hd.eE (λ_ h=>h.elim) (λb ⟨p,hp,_,hb⟩=>qZ p hp b hb),?_,ha.size,ha.defers,?_,?_,?_⟩
 ·intro a' w' hi
  have jh:∀{i:Nat} {o:Oper},l[i]? =some o->(l++o₁::tl)[i]? =some o/\i<l.length:=λ{i o} h=>by
   have h1:=(List.getElem?_eq_some_iff.1 h).1;exact⟨by rw[List.getElem?_append_left h1];exact h,h1⟩
  obtain⟨acc,h1,h2⟩:=iS.use (a:=a') l S [] (λi o s h1 h2 h3=>hi.fin i o s (jh h1).1 h2 (jh h1).2 h3) (λi o s d h1 h2 h3=>hi.done i o s d (jh h1).1 h2 (jh h1).2 h3) (λt v h=>by simp[lk]at h)
   (kL w' (hi.step.eE (λb ⟨p,hp,_,hb⟩=>fY.2 ⟨p.2,List.mem_map.2 ⟨p,hp,rfl⟩,hb⟩) (λb hb=>by
    obtain⟨N,hN,Ec⟩:=fY.1 hb;obtain⟨p,hp,rfl⟩:=List.mem_map.1 hN;exact qZ p hp b Ec)))
  have h3:=h1.run a' ⟨hi.size,hi.defers,λt v h=>by
   rcases mv h with h|h
   ·exact h2 t v h
   ·obtain⟨h3,h4⟩:=ku (f:=lG (l++o₁::tl) (l.length+1+tl.length)) h;refine hi.base t v h4 λi o h5 _ h6=> ?_
    simp only[lG,List.all_eq_true]at h3;have:=h3 o (List.mem_of_getElem? h5);simp only[h6,beq_self_eq_true,Bool.not_true,Bool.false_or,List.contains_iff_mem]at this;have h7:=dL dU i o h5 _ this;have h8:=(List.getElem?_eq_some_iff.1 h5).1;simp at h8;omega⟩
  exact h3
 ·intro i o s h1 h2 h3;simp[Array.getElem?_replicate]at h3
 ·intro i o s d h1 h2 h3;simp[Array.getElem?_replicate]at h3
 ·intro t v h1 _;exact ha.at_ t v h1
 ·intro i o h1 h2;simp[Array.getElem?_replicate]at h2
theorem T.aaA {id:Nat} {l:List Oper} (hm:P.follows .mixedOrders=true) (F:List (Nat×aP)) (S:List (cy M)) (dU:fm l 0=true) (qZ:∀p∈F,∀b,p.2 b->M b) (xV:Em F l S) (ie:cz P r n F w l S ds L l S 0)
  (kL:∀w',Step M w M w' (j5 (F.map (·.2)))->iS w' (λacc=>K .normal (acc++kK l l.length L) ds w') l S []):T P r n (.region id l.toArray true) L ds w K:=by
 refine ⟨λa ha=>wpIn_region_draw λt=> ?_⟩;simp only[Region.schedule,hm,Bool.true_or,if_true,Region.linearise];have hd:Step M w M {w with drawn:=w.drawn+1} aH:=oI M w;refine Kx (w0:=w) (S:=S) dU ie xV qZ (Q:=up n K) ?_ _ t _ a _ (by simp) ab2 ⟨hd.eE a30 (λb ⟨p,hp,_,hb⟩=>qZ p hp b hb),?_,ha.size,ha.defers,?_,?_,?_⟩
 ·intro a' w' hi
  obtain⟨acc,h1,h2⟩:=iS.use (a:=a') l S [] (λi o s h1 h2 h3=>hi.fin i o s h1 h2 ((List.getElem?_eq_some_iff.1 h1).1) h3) (λi o s d h1 h2 h3=>hi.done i o s d h1 h2 ((List.getElem?_eq_some_iff.1 h1).1) h3) (λt v h=>by simp[lk]at h)
   (kL w' (hi.step.eE (λb ⟨p,hp,_,hb⟩=>fY.2 ⟨p.2,List.mem_map.2 ⟨p,hp,rfl⟩,hb⟩) (λb hb=>by
    obtain⟨N,hN,Ec⟩:=fY.1 hb;obtain⟨p,hp,rfl⟩:=List.mem_map.1 hN;exact qZ p hp b Ec)))
  refine⟨_,_,⟨hi.size,hi.defers,λt v h=>?_⟩,h1⟩;rcases mv h with h|h
  ·exact h2 t v h
  ·obtain⟨h3,h4⟩:=ku (f:=lG l l.length) h;refine hi.base t v h4 λi o h5 _ h6=> ?_
   simp only[lG,List.all_eq_true]at h3;have:=h3 o (List.mem_of_getElem? h5);simp only[h6,beq_self_eq_true,Bool.not_true,Bool.false_or,List.contains_iff_mem]at this;have h7:=dL dU i o h5 _ this;have h8:=(List.getElem?_eq_some_iff.1 h5).1;omega
 ·intro i o s h1 h2 h3;simp[Array.getElem?_replicate]at h3
 ·intro i o s d h1 h2 h3;simp[Array.getElem?_replicate]at h3
 ·intro t v h1 _;exact ha.at_ t v h1
 ·intro i o h1 h2;simp[Array.getElem?_replicate]at h2
theorem T.Ux {id:Nat} {l:List Oper} (hm:P.follows .mixedOrders=true) (F:List (Nat×aP)) (S:List (cy M)) (dU:fm l 0=true) (qZ:∀p∈F,∀b,p.2 b->M b) (xV:sq F l S 0) (ie:cz P r n F w l S ds L l S 0)
  (kL:∀w',Step M w M w' (j5 (F.map (·.2)))->iS w' (λacc=>K .normal (acc++kK l l.length L) ds w') l S []):T P r n (.region id l.toArray true) L ds w K:= .aaA hm F S dU qZ xV.st ie kL
theorem sq.none:∀{l:List Oper} {S:List (cy M)} {k:Nat},sq [] l S k
 |[],_,_=>by simp[sq]
 |_::_,[],_=>by simp[sq]
 |_::_,_::_,_=>⟨λp hp=>by simp at hp,sq.none⟩
theorem T.draw {id:Nat} {l:List Oper} (hm:P.follows .mixedOrders=true) (S:List (cy M)) (dU:fm l 0=true) (ie:cz P r n [] w l S ds L l S 0)
  (kL:∀w',Step M w M w' aH->iS w' (λacc=>K .normal (acc++kK l l.length L) ds w') l S []):T P r n (.region id l.toArray true) L ds w K:=
 .Ux hm [] S dU (λp hp=>by cases hp) sq.none ie kL
def bO (P:Program) (r:Option Nat) (n:Nat) {M:aP} (F:List (Nat×aP)) (w:World) (l:List Oper) (S:List (cy M)) (ds:List Deferred) (L:Sl):List Oper->List (cy M)->Nat->Prop
 |o::os,s::ss,j=>ZR P r n F w l S ds L j o s/\bO P r n F w l S ds L os ss (j+1)
 |[],[],_=>True
 |_::_,[],_=>True
 |[],_::_,_=>False
theorem bO.cons {l:List Oper} {S:List (cy M)} {o:Oper} {os:List Oper} {s:cy M} {ss:List (cy M)} {j:Nat}
  (h:ZR P r n F w l S ds L j o s) (h':bO P r n F w l S ds L os ss (j+1)):bO P r n F w l S ds L (o::os) (s::ss) j:=⟨h,h'⟩
theorem bO.nil {l:List Oper} {S:List (cy M)} {o:Oper} {os:List Oper} {j:Nat}:bO P r n F w l S ds L (o::os) [] j:=by unfold bO;trivial
theorem bO.take {l:List Oper} {S:List (cy M)}:∀{os:List Oper} {ss:List (cy M)} {j:Nat},bO P r n F w l S ds L os ss j->cz P r n F w l S ds L (os.take ss.length) ss j
 |[],[],_,_=>by simp[cz]
 |_::_,[],_,_=>by simp[cz]
 |[],_::_,_,h=>by simp[bO]at h
 |_::os,_::ss,_,h=>⟨h.1,bO.take h.2⟩
theorem iS.take {w:World} {k:Sl->Prop}:∀{os:List Oper} {ss:List (cy M)} {acc:Sl},iS w k os ss acc->iS w k (os.take ss.length) ss acc
 |[],[],_,h=>by simpa[iS]using h
 |_::_,[],_,h=>by simpa[iS]using h
 |[],_::_,_,h=>by simpa[iS]using h
 |o::os,s::ss,acc,h=>by
  simp only[List.length_cons,List.take_succ_cons,iS]at h ⊢
  split
  ·rename_i d hd
   rw[hd]at h;exact λv hv=>iS.take (h v hv)
  ·rename_i hd
   rw[hd]at h;exact λv hv=>iS.take (h v hv)
theorem T.Jg {id:Nat} {l:List Oper} (o₁:Oper) (hm:P.follows .mixedOrders=true) (F:List (Nat×aP)) (S:List (cy M)) (ho:l[S.length]? =some o₁) (GZ:l.length=S.length+1) (dU:fm l 0=true) (k7:(List.range S.length).all (λi=>(du o₁).contains i||(du o₁).any (λk=>((l[k]?.map du).getD []).contains i))=true) (qZ:∀p∈F,∀b,p.2 b->M b) (xV:sq F l S 0) (ie:bO P r n F w l S ds L l S 0)
  (kL:∀w',Step M w M w' (j5 (F.map (·.2)))->iS w' (λacc=>Rg P r n l.toArray [o₁] (acc++kK l l.length L) ds w' (λe L ds w=>e= .normal/\K .normal L ds w)) l S []):T P r n (.region id l.toArray true) L ds w K:=by
 have hl:l=l.take S.length++[o₁]:=by
  obtain⟨h1,h2⟩:=List.getElem?_eq_some_iff.1 ho;rw[<-h2,<-List.take_succ_eq_append_getElem h1,<-GZ,List.take_length]
 have D8:(l.take S.length).length=S.length:=by simp;omega
 have:=T.M8 (id:=id) (l:=l.take S.length) (o₁:=o₁) (w:=w) (K:=K) hm F S (by rw[<-hl];exact dU) (by rw[D8,<-hl];exact k7) D8.symm qZ (by rw[<-hl];exact xV) (by rw[<-hl];exact ie.take) (λw' s=>by rw[<-hl,D8,<-GZ];exact(kL w' s).take)
 rwa [<-hl]at this
theorem T.sN {id:Nat} {l:List Oper} (hm:P.follows .mixedOrders=true) (F:List (Nat×aP)) (S:List (cy M)) (m:Nat) (Wi:S.length=m) (ze:Nat.blt m l.length=true) (dU:fm l 0=true) (k7:l6 l m ((l[m]?.map du).getD [])=true) (C5:lS l (m+1)=true) (qZ:∀p∈F,∀b,p.2 b->M b) (xV:sq F l S 0) (ie:bO P r n F w l S ds L l S 0)
  (kL:∀w',Step M w M w' (j5 (F.map (·.2)))->iS w' (λacc=>Rg P r n l.toArray (l.drop m) (acc++kK l l.length L) ds w' K) l S []):T P r n (.region id l.toArray true) L ds w K:=by
 subst Wi;have GZ:S.length<l.length:=by simpa[Nat.blt_eq]using ze
 have hl:l=l.take S.length++l[S.length]::l.drop (S.length+1):=by
  rw[<-List.drop_eq_getElem_cons GZ,List.take_append_drop]
 have D8:(l.take S.length).length=S.length:=by simp;omega
 have hg:l[S.length]? =some l[S.length]:=List.getElem?_eq_getElem GZ;have hln:S.length+1+(l.drop (S.length+1)).length=l.length:=by rw[List.length_drop];omega
 have:=T.He (id:=id) (l:=l.take S.length) (o₁:=l[S.length]) (tl:=l.drop (S.length+1)) (w:=w) (K:=K) hm F S (by rw[<-hl];exact dU) (by rw[D8,<-hl];rw[hg]at k7;exact k7) (by rw[D8,<-hl];exact C5) D8.symm qZ (by rw[<-hl];exact xV) (by rw[<-hl];exact ie.take) (λw' s=>by rw[<-hl,D8,hln,<-List.drop_eq_getElem_cons GZ];exact(kL w' s).take)
 rwa [<-hl]at this
end
section
variable {P:Program} {r:Option Nat} {n:Nat} {L:Sl} {ds:List Deferred} {w:World} {K:Kt}
def kd:Op->Bool
 |.move _| .assign _| .pick .. | .load .. | .nilCheck _| .binOp .. | .unOp .. | .convert .. | .makeInterface .. | .makeFunc .. | .slice .. | .fieldAddr .. | .field .. | .indexAddr .. | .index .. | .typeAssert .. | .extract .. | .lookup .. | .build .. =>true
 |.call {callee:= .builtin .len,.. }| .call {callee:= .builtin .cap,.. }| .call {callee:= .builtin .min,.. }| .call {callee:= .builtin .max,.. }=>true
 |_=>false
theorem mN {ρ ρ':Operand->Value} {o:Oper} (hq:kd o.op=true) (h:∀x∈o.op.operands,ρ x=ρ' x):execOp ρ o=execOp ρ' o:=by
 obtain⟨dst,op,type,pos,after,guard⟩:=o;have C6:∀{xs:Array Operand},(∀x∈xs,ρ x=ρ' x)->xs.map ρ=xs.map ρ':=λhx=>Array.map_congr_left hx
 have Ep:∀{x:Option Operand},(∀y,x=some y->ρ y=ρ' y)->x.map ρ=x.map ρ':=λ{x} hx=>by
  cases x with
  |none=>rfl
  |some y=>simp[hx y rfl]
 cases op<;>simp only[kd,Bool.false_eq_true]at hq<;>simp only[Op.operands,List.mem_toArray,List.mem_cons,List.not_mem_nil,or_false,forall_eq_or_imp,forall_eq,Array.mem_append,Option.mem_toArray]at h<;>simp only[execOp]
 case pick=>rw[h.1,h.2.1,h.2.2]
 case build t ps=>
  have:ps.map (λp=>(p.1,ρ p.2))=ps.map (λp=>(p.1,ρ' p.2)):=Array.map_congr_left λp hp=>by
   rw[h p.2 (List.mem_map.2 ⟨p,by simpa using hp,rfl⟩)]
  rw[this]
 case nilCheck=>rw[h]
 case binOp=>rw[h.1,h.2]
 case makeFunc f xs ys=>rw[C6 (λx hx=>h x (.inl hx)),C6 (λx hx=>h x (.inr hx))]
 case slice t x lo hi mx=>
  rw[h x (by simp),Ep (x:=lo) (λy hy=>h y (by simp[hy])),Ep (x:=hi) (λy hy=>h y (by simp[hy])),Ep (x:=mx) (λy hy=>h y (by simp[hy]))]
 case indexAddr=>rw[h.1,h.2]
 case index=>rw[h.1,h.2]
 case lookup=>rw[h.1,h.2]
 case call c=>
  obtain⟨cal,args,Ko⟩:=c
  cases cal with
  |builtin b=>
   simp only[Call.operands,Array.empty_append]at h;simp only[resolve,C6 h]
  |_=>cases hq
 all_goals rw[h]
theorem B5 {s:Sem Value} {w w':World} {nx:Next} (h:(do pure (Next.value (<-s)):Sem Next).run P w= .ok nx w'):∃v,nx= .value v:=by
 rw[Sem.run_bind]at h
 cases hs:s.run P w with
 |ok v w1=>rw[hs]at h;simp only[Result.andThen,Sem.run_pure,Result.ok.injEq]at h;exact⟨v,h.1.symm⟩
 |halt x w1=>rw[hs]at h;simp[Result.andThen]at h
theorem Er {ρ:Operand->Value} {o:Oper} (hq:kd o.op=true) {nx:Next} {w w':World} (h:(execOp ρ o).run P w= .ok nx w'):∃v,nx= .value v:=by
 obtain⟨dst,op,type,pos,after,guard⟩:=o
 cases op<;>simp only[kd,Bool.false_eq_true]at hq<;>simp only[execOp]at h
 case move=>simp only[Sem.run_pure,Result.ok.injEq]at h;exact⟨_,h.1.symm⟩
 case assign=>simp only[Sem.run_pure,Result.ok.injEq]at h;exact⟨_,h.1.symm⟩
 case pick c a b=>
  rw[Sem.run_bind]at h
  cases hs:(asBool (ρ c)).run P w with
  |ok v w1=>rw[hs]at h;simp only[Result.andThen]at h;exact⟨_,(Result.ok.inj h).1.symm⟩
  |halt x w1=>rw[hs]at h;simp[Result.andThen]at h
 case nilCheck x=>
  split at h
  ·simp[runtimePanic,Sem.run]at h
  ·simp[runtimePanic,Sem.run]at h
  ·simp[runtimePanic,Sem.run]at h
  ·split at h
   ·simp[runtimePanic,Sem.run]at h
   ·rename_i t w0 _ _
    simp only[Sem.run_bind]at h
    cases hp:(program).run P w with
    |halt x w1=>rw[hp]at h;simp[Result.andThen]at h
    |ok p w1=>
     rw[hp]at h;simp only[Result.andThen]at h;generalize (nilAhead _ _ _ _).run P _=res at h
     cases res with
     |halt x w2=>cases h
     |ok b w2=>
      simp only at h
      split at h
      ·simp[unsupported,Sem.run,Sem.run_bind,Result.andThen]at h
      ·simp only[Sem.run_pure,Sem.run_bind,Result.andThen,Result.ok.injEq]at h;exact⟨_,h.1.symm⟩
   ·simp only[Sem.run_pure,Result.ok.injEq]at h;exact⟨_,h.1.symm⟩
  ·simp only[Sem.run_pure,Result.ok.injEq]at h;exact⟨_,h.1.symm⟩
 case call c=>
  obtain⟨cal,args,Ko⟩:=c
  cases cal with
  |builtin b=>
   cases b<;>first|cases hq|skip
   all_goals
    simp only[resolve]at h;exact B5 h
  |_=>cases hq
 all_goals exact B5 h
def One (P:Program) (r:Option Nat) (ops:Array Oper) (w:World) (o:Oper) (a:Act) (v:Value):Prop:=
 if Region.wanted o (yielded ops a.tmps)then(execOp a.eval o).run P w= .ok (.value v) w else v=undef
def QTr (P:Program) (r:Option Nat) (ops:Array Oper) (w:World):List Oper->Act->Act->List Value->Prop
 |[],a,a',vs=>a=a'∧vs=[]
 |o::os,a,a',vs=>∃v vt,vs=v::vt/\One P r ops w o a v/\QTr P r ops w os (a.put o.dst v) a' vt
def ou (P:Program) (r:Option Nat) (n:Nat) (ops:Array Oper):List Oper->Sl->List Deferred->World->(Sl->Prop)->Prop
 |[],L,ds,w,k=>k L
 |o::rest,L,ds,w,k=>Rg P r n ops [o] L ds w (λe L' qv w'=>e= .normal/\qv=ds/\w'=w/\ou P r n ops rest L' ds w k)
theorem ou.nil {ops:Array Oper} {k:Sl->Prop} (h:k L):ou P r n ops [] L ds w k:=h
theorem mO {o:Oper} (hq:kd o.op=true):∀c,o.op≠ .defer c:=λc h=>by rw[h]at hq;cases hq
theorem ou.trace {ops:Array Oper} {k:Sl->Prop}:∀{l:List Oper} {L:Sl} {a:Act},ou P r n ops l L ds w k->(∀o∈l,kd o.op=true)->jf n a L ds->∃a' L' vs,QTr P r ops w l a a' vs/\jf n a' L' ds/\k L'
 |[],L,a,h,_,ha=>⟨a,L,[],⟨rfl,rfl⟩,ha,h⟩
 |o::os,L,a,h,hq,ha=>by
  have hqo:=hq o (List.mem_cons_self ..);have h1:=Rg.run h a ha;simp only[wpListIn]at h1;by_cases hw:Region.wanted o (yielded ops a.tmps)=true
  ·rw[if_pos hw]at h1;obtain⟨_,h1⟩:=h1;rw[Oper.semAt_eq _ _ _ (mO hqo)]at h1
   cases hr:(execOp a.eval o).run P w with
   |ok nx w'=>
    obtain⟨v,rfl⟩:=Er hqo hr;rw[hr]at h1;obtain⟨L1,ds1,hA,_,Nc,ZT,hk⟩:=h1;rw[Nc]at hA;rw[ZT]at hr;obtain⟨a',L',vs,h2,h3,h4⟩:=ou.trace hk (λo ho=>hq o (List.mem_cons_of_mem _ ho)) hA;exact⟨a',L',v::vs,⟨v,vs,G,by unfold One;rw[if_pos hw];exact hr,h2⟩,h3,h4⟩
   |halt x w'=>
    rw[hr]at h1
    cases x with
    |panic v=>obtain⟨L1,ds1,hA,hn,_⟩:=h1;cases hn
    |_=>exact h1.elim
  ·rw[if_neg hw]at h1;obtain⟨_,L1,ds1,hA,_,Nc,_,hk⟩:=h1;rw[Nc]at hA;obtain⟨a',L',vs,h2,h3,h4⟩:=ou.trace hk (λo ho=>hq o (List.mem_cons_of_mem _ ho)) hA;exact⟨a',L',undef::vs,⟨undef,vs,G,by unfold One;rw[if_neg hw],h2⟩,h3,h4⟩
def asks (ops:List Oper) (o:Oper):List Nat:=(o.op.operands.toList.filterMap λx=>match x with| .tmp t=>some t|_=>none)++(match o.guard with|some (j,_)=>((ops[j]?).bind (·.dst)).toList|none=>[])
def l7 (l:List Oper) (m:Nat):Bool:=(List.range m).all λj=>match l[j]? with
 |some o=>kd o.op&&(asks l o).all λt=>(List.range m).all λi=>match l[i]? with
  |some o'=> !(o'.dst==some t)||(du o).contains i||Nat.beq i j||(du o').contains j
  |none=>true
 |none=>false
theorem lH {l:List Oper} {m:Nat} (h:l7 l m=true) {j:Nat} {o:Oper} (hj:j<m) (ho:l[j]? =some o):kd o.op=true/\∀t∈asks l o,∀i o',i<m->l[i]? =some o'→o'.dst=some t->i∈du o\/i=j\/j∈du o':=by
 have h1:=List.all_eq_true.1 h j (List.mem_range.2 hj);rw[ho]at h1;simp only[Bool.and_eq_true]at h1;refine ⟨h1.1,λt ht i o' hi iY hd=> ?_⟩;have h2:=List.all_eq_true.1 (List.all_eq_true.1 h1.2 t ht) i (List.mem_range.2 hi);rw[iY]at h2;simp only[hd,beq_self_eq_true,Bool.not_true,Bool.false_or,Bool.or_eq_true,List.contains_iff_mem]at h2;rcases h2 with(h2|h2)|h2
 ·exact .inl h2
 ·exact .inr (.inl (Nat.eq_of_beq_eq_true h2))
 ·exact .inr (.inr h2)
theorem QTr.C7 {ops:Array Oper}:∀{l:List Oper} {a a':Act} {vs:List Value},QTr P r ops w l a a' vs->∃st:Nat->Act,st 0=a/\st l.length=a'∧∀j o,l[j]? =some o->∃v,vs[j]? =some v/\One P r ops w o (st j) v/\st (j+1)=(st j).put o.dst v
 |[],a,a',vs,h=>⟨λ_=>a,rfl,h.1,λj o ho=>by simp at ho⟩
 |o::os,a,a',vs,⟨v,vt,hv,h1,h2⟩=>by
  obtain⟨st,g0,g1,g2⟩:=QTr.C7 h2;refine ⟨λj=>match j with|0=>a|j+1=>st j,rfl,g1,λj o' iY=> ?_⟩;subst hv
  cases j with
  |zero=>simp only[List.getElem?_cons_zero,Option.some.injEq]at iY;subst iY;exact⟨v,G,h1,g0⟩
  |succ j=>exact g2 j o' (by simpa using iY)
theorem ij (a:Act) (d:Option Nat) (v:Value) (t:Nat):(a.put d v).tmps[t]? =if d=some t then(a.tmps.setIfInBounds t v)[t]? else a.tmps[t]? :=by
 cases d with
 |none=>simp[Act.put]
 |some d=>
  simp only[Act.put,Option.some.injEq]
  split
  ·rename_i h;subst h;rfl
  ·rename_i h;rw[Array.getElem?_setIfInBounds,if_neg h]
theorem oL (a:Act) (d:Option Nat) (v:Value):(a.put d v).tmps.size=a.tmps.size:=by cases d<;>simp[Act.put]
theorem put_defers (a:Act) (d:Option Nat) (v:Value):(a.put d v).defers=a.defers:=by cases d<;>rfl
theorem uE {xs ys:Array Value} {t:Nat} {v:Value} (h:xs.size=ys.size):(xs.setIfInBounds t v)[t]? =(ys.setIfInBounds t v)[t]? :=by
 rw[Array.getElem?_setIfInBounds,Array.getElem?_setIfInBounds,if_pos rfl,if_pos rfl,h]
structure QJ (l:List Oper) (m:Nat) (a0:Act) (iB:List Value) (wd:World) (D:Nat->Prop) (a:Act) (w:World):Prop where
 world:w=wd
 defers:a.defers=a0.defers
 size:a.tmps.size=a0.tmps.size
 done:∀i o v t,i<m->l[i]? =some o->iB[i]? =some v->D i->o.dst=some t->a.tmps[t]? =(a0.tmps.setIfInBounds t v)[t]?
 base:∀t,(∀i o,i<m->l[i]? =some o->D i->o.dst≠some t)->a.tmps[t]? =a0.tmps[t]?
theorem fZ {l:List Oper} (dU:fm l 0=true) {i j:Nat} {o o':Oper} {t:Nat} (hi:l[i]? =some o) (hj:l[j]? =some o') (h1:o.dst=some t) (h2:o'.dst=some t):i=j:=by
 by_cases e:i=j
 ·exact e
 ·exact absurd h2 (wU dU i j o o' t hi hj e h1)
theorem oM {l:List Oper} {m:Nat} {a0:Act} {iB:List Value} {ops:Array Oper} (dU:fm l 0=true) {st:Nat->Act} (h0:st 0=a0) (lF:∀j o,j<m->l[j]? =some o->∃v,iB[j]? =some v/\One P r ops w o (st j) v/\st (j+1)=(st j).put o.dst v):
  ∀j,j<=m->j<=l.length->QJ l m a0 iB w (λi=>i<j) (st j) w
 |0,_,_=>⟨rfl,by rw[h0],by rw[h0],λi o v t _ _ _ h=>by omega,λt _=>by rw[h0]⟩
 |j+1,hm,hl=>by
  have ih:=oM dU h0 lF j hV hV;obtain⟨o,ho⟩:∃o,l[j]? =some o:=⟨_,List.getElem?_eq_getElem hV⟩;obtain⟨v,hv,_,h2⟩:=lF j o hV ho;rw[h2];refine⟨rfl,by rw[put_defers];exact ih.defers,by rw[oL];exact ih.size,λi o' v' t ql iY sM jS hd=>?_,λt ht=>?_⟩
  ·rw[ij];by_cases e:i=j
   ·subst e;rw[ho]at iY;cases iY;rw[hv]at sM;cases sM;rw[if_pos hd];exact uE ih.size
   ·rw[if_neg (λh=>e (fZ dU iY ho hd h))];exact ih.done i o' v' t ql iY sM hV hd
  ·rw[ij,if_neg (ht j o hV ho hV)];exact ih.base t λi o' h1 h2 h3=>ht i o' h1 h2 hV
theorem QJ.agree {l:List Oper} {m:Nat} {a0:Act} {iB:List Value} {wd w':World} {D D':Nat->Prop} {a a':Act} (dU:fm l 0=true) (mz:∀i,i<m->∃v,iB[i]? =some v) (h:QJ l m a0 iB wd D a w) (h':QJ l m a0 iB wd D' a' w') {t:Nat}
  (hD:∀i o,i<m->l[i]? =some o->o.dst=some t->(D i↔D' i)):a.tmps[t]? =a'.tmps[t]? :=by
 by_cases hx:∃i o,i<m/\l[i]? =some o/\o.dst=some t
 ·obtain⟨i,o,ql,ho,hd⟩:=hx;by_cases Ed:D i
  ·obtain⟨v,hv⟩:=mz i ql;rw[h.done i o v t ql ho hv Ed hd,h'.done i o v t ql ho hv ((hD i o ql ho hd).1 Ed) hd]
  ·have key:∀{E:Nat->Prop},¬E i->∀k o',k<m->l[k]? =some o'→E k->o'.dst≠some t:=λhE k o' _ iY hEk Uv=>hE (by rw[fZ dU ho iY hd Uv];exact hEk)
   rw[h.base t (key Ed),h'.base t (key λhh=>Ed ((hD i o ql ho hd).2 hh))]
 ·have key:∀{E:Nat->Prop},∀k o',k<m->l[k]? =some o'→E k->o'.dst≠some t:=λk o' hk iY _ Uv=>hx ⟨k,o',hk,iY,Uv⟩
  rw[h.base t key,h'.base t key]
theorem oN {l:List Oper} {o:Oper} {a a':Act} (h:∀t∈asks l o,a.tmps[t]? =a'.tmps[t]?):(∀x∈o.op.operands,a.eval x=a'.eval x)/\Region.wanted o (yielded l.toArray a.tmps)=Region.wanted o (yielded l.toArray a'.tmps):=by
 refine⟨λx hx=>?_,?_⟩
 ·cases x with
  |tmp t=>
   have:=h t (List.mem_append_left _ (List.mem_filterMap.2 ⟨.tmp t,by simpa using hx,rfl⟩));simp only[Act.eval,Array.getD_eq_getD_getElem?,this]
  |_=>rfl
 ·unfold Region.wanted
  cases hg:o.guard with
  |none=>rfl
  |some p=>
   obtain⟨j,b⟩:=p;simp only
   have:yielded l.toArray a.tmps j=yielded l.toArray a'.tmps j:=by
    unfold yielded
    cases hd:(l.toArray[j]?).bind (·.dst)with
    |none=>rfl
    |some t=>
     have h2:=h t (List.mem_append_right _ (by
      simp only[hg];have:(l[j]?).bind (·.dst)=some t:=by rw[<-hd];simp
      rw[this];simp))
     simp only[Option.bind_some,h2]
   rw[this]
theorem One.run {ops:Array Oper} {Q:Exit->Act->World->Prop} {i:Nat} {rest:List Nat} {o:Oper} {a:Act} {v:Value} (ho:ops[i]? =some o) (hq:kd o.op=true) (h:One P r ops w o a v) (hk:wpOpsIn (FW r) 0 P ops Q rest (a.put o.dst v) w):wpOpsIn (FW r) 0 P ops Q (i::rest) a w:=by
 simp only[wpOpsIn,ho];unfold One at h
 split
 ·rename_i hw
  rw[if_pos hw]at h;refine ⟨λ_ _=>trivial,?_⟩;rw[Oper.semAt_eq _ _ _ (mO hq),h];exact hk
 ·rename_i hw
  rw[if_neg hw]at h;subst h;exact⟨λ_ _=>trivial,hk⟩
theorem QJ.step {l:List Oper} {m:Nat} {a0:Act} {iB:List Value} {wd:World} (dU:fm l 0=true) (uu:l7 l m=true) (mz:∀i,i<m->∃v,iB[i]? =some v) {st:Nat->Act} (ze:m<=l.length)
  (lF:∀j o,j<m->l[j]? =some o->∃v,iB[j]? =some v/\One P r l.toArray wd o (st j) v) (C8:∀j,j<m->QJ l m a0 iB wd (λi=>i<j) (st j) wd)
  {Q:Exit->Act->World->Prop} {D:Nat->Prop} {a:Act} {w:World} {j:Nat} {o:Oper} {rest:List Nat} (hj:j<m) (ho:l[j]? =some o) (pC: ¬D j) (hp:∀k∈du o,D k) (kW:∀i o,l[i]? =some o->D i->∀k∈du o,D k) (hi:QJ l m a0 iB wd D a w)
  (hk:∀a' w',QJ l m a0 iB wd (λi=>i=j\/D i) a' w'→wpOpsIn (FW r) 0 P l.toArray Q rest a' w'):wpOpsIn (FW r) 0 P l.toArray Q (j::rest) a w:=by
 obtain⟨v,hv,h1⟩:=lF j o hj ho;obtain⟨hq,uu⟩:=lH uu hj ho
 have Eb:∀t∈asks l o,a.tmps[t]? =(st j).tmps[t]? :=λt ht=>hi.agree dU mz (C8 j hj) λi o' ql iY hd=>by
  rcases uu t ht i o' ql iY hd with h|h|h
  ·have:=dL dU j o ho i h;exact⟨λ_=>by omega,λ_=>hp i h⟩
  ·subst h;exact⟨λh=>absurd h pC,λh=>by omega⟩
  ·have:=dL dU i o' iY j h;exact⟨λh2=>absurd (kW i o' iY h2 j h) pC,λh=>by omega⟩
 obtain⟨Ms,uC⟩:=oN Eb;obtain⟨ZT⟩:Nonempty (w=wd):=⟨hi.world⟩
 have h2:One P r l.toArray w o a v:=by
  unfold One at h1 ⊢;rw[uC,mN hq Ms,ZT];exact h1
 refine h2.run (by simpa using ho) hq (hk _ _ ⟨ZT,by rw[put_defers];exact hi.defers,by rw[oL];exact hi.size,λi o' v' t ql iY sM hD hd=>?_,λt ht=>?_⟩)
 ·rw[ij];by_cases e:i=j
  ·subst e;rw[ho]at iY;cases iY;rw[hv]at sM;cases sM;rw[if_pos hd];exact uE hi.size
  ·rw[if_neg (λh=>e (fZ dU iY ho hd h))];exact hi.done i o' v' t ql iY sM (hD.resolve_left e) hd
 ·rw[ij,if_neg (ht j o hj ho (.inl rfl))];exact hi.base t λi o' h1 h2 h3=>ht i o' h1 h2 (.inr h3)
theorem ou.parts {l lq:List Oper} {m:Nat} {k:Sl->Prop} (hlq:lq=l.take m) (ze:m<=l.length) (dU:fm l 0=true) (uu:l7 l m=true) {a0:Act} (ha:jf n a0 L ds) (h:ou P r n l.toArray lq L ds w k):
  ∃iB:List Value,(∀i,i<m->∃v,iB[i]? =some v)/\(∃st:Nat->Act,(∀j o,j<m->l[j]? =some o->∃v,iB[j]? =some v/\One P r l.toArray w o (st j) v)/\∀j,j<m->QJ l m a0 iB w (λi=>i<j) (st j) w)/\
   ∀a w',QJ l m a0 iB w (λi=>i<m) a w'→∃L',jf n a L' ds/\k L'∧w'=w:=by
 have jh:∀j,j<m->lq[j]? =l[j]? :=λj hj=>by rw[hlq,List.getElem?_take,if_pos hj]
 obtain⟨a',L',vs,B6,hA,hk⟩:=h.trace (λo ho=>by
  obtain⟨j,hj⟩:=List.mem_iff_getElem?.1 ho
  have G0:j<m:=by
   have:=(List.getElem?_eq_some_iff.1 hj).1;rw[hlq,List.length_take]at this;omega
  exact(lH uu G0 (by rw[<-jh j G0];exact hj)).1) ha
 obtain⟨st,h0,hl,lF⟩:=B6.C7;have hlen:lq.length=m:=by rw[hlq,List.length_take];omega
 rw[hlen]at hl;have yy:∀j o,j<m->l[j]? =some o->∃v,vs[j]? =some v/\One P r l.toArray w o (st j) v/\st (j+1)=(st j).put o.dst v:=λj o hj ho=>lF j o (by rw[jh j hj];exact ho)
 have mz:∀i,i<m->∃v,vs[i]? =some v:=λi hi=>by
  obtain⟨v,hv,_⟩:=yy i l[i] hi (List.getElem?_eq_getElem hV);exact⟨v,hv⟩
 refine⟨vs,mz,⟨st,λj o hj ho=>?_,λj hj=>oM dU h0 yy j hV hV⟩,λa w' hi=>⟨L',⟨?_,?_,λt v ht=>?_⟩,hk,hi.world⟩⟩
 ·obtain⟨v,h1,h2,_⟩:=yy j o hj ho;exact⟨v,h1,h2⟩
 ·rw[hi.size];exact ha.size
 ·rw[hi.defers];exact ha.defers
 ·have:=oM dU h0 yy m (Nat.le_refl _) ze;rw[hl]at this;rw[hi.agree dU mz this (λ_ _ _ _ _=>Iff.rfl)];exact hA.at_ t v ht
theorem QJ.agA {l:List Oper} {m:Nat} {a0 a:Act} {iB:List Value} {wd w:World} {D D':Nat->Prop} (ze:m<=l.length) (h:QJ l m a0 iB wd D a w) (hD:∀i,i<l.length->(D' i↔D i)):QJ l m a0 iB wd D' a w:=
 ⟨h.world,h.defers,h.size,λi o v t h1 h2 h3 h4 h5=>h.done i o v t h1 h2 h3 ((hD i hV).1 h4) h5,λt ht=>h.base t λi o h1 h2 h3=>ht i o h1 h2 ((hD i hV).2 h3)⟩
theorem tB (w:World):∀M,Step M w M {w with drawn:=w.drawn+1} aH:=λM=>oI M w
theorem T.lT {id:Nat} {l:List Oper} (hm:P.follows .mixedOrders=true) (dU:fm l 0=true) (uu:l7 l l.length=true)
  (h:∀wD,(∀M,Step M w M wD aH)->ou P r n l.toArray l L ds wD (λL'=>K .normal L' ds wD)):T P r n (.region id l.toArray true) L ds w K:=by
 refine ⟨λa ha=>wpIn_region_draw λt=> ?_⟩;simp only[Region.schedule,hm,Bool.true_or,if_true,Region.linearise];obtain⟨iB,mz,⟨st,h1,h2⟩,kL⟩:=ou.parts (m:=l.length) (by simp) (Nat.le_refl _) dU uu ha (h _ (tB w));refine mM (J:=QJ l l.length a iB _) dU (λhi hD=>hi.agA (Nat.le_refl _) hD) (λhj ho pC hp kW hi hk=>QJ.step dU uu mz (Nat.le_refl _) h1 h2 hj ho pC hp kW hi hk) (λa' w' hi=>?_) _ t _ a _ (by simp) ab2 (λi o h1 h2=>?_) ⟨G,G,G,λi o v t h1 h2 h3 h4=>?_,λt _=>G⟩
 ·obtain⟨L',hA,hk,hw⟩:=kL a' w' hi;rw[hw];exact⟨L',ds,hA,hk⟩
 ·simp[Array.getElem?_replicate]at h2
 ·simp[Array.getElem?_replicate]at h4
theorem iS.nil {M:aP} {k:Sl->Prop} {acc:Sl} (h:k acc):iS (M:=M) w k [] [] acc:=by unfold iS;exact h
theorem T.l8 {x y:Code} (L1:Sl) (h:T P r n x L ds w (λe L' qv w'=>e= .normal/\qv=ds/\w'=w/\Sub L1 L')) (k:T P r n y L1 ds w K):T P r n (.seq x y) L ds w K:=
 .seq (h.mono λe L' qv w' ⟨he,hd,hw,hs⟩=>by subst he;rw[hd,hw];exact k.weaken L1 hs)
end
section
variable {P:Program} {r:Option Nat} {n:Nat} {L:Sl} {ds:List Deferred} {w:World} {K:Kt}
def tC:Op->Bool
 |.defer _| .go _| .select .. | .send .. | .recv .. =>false
 |_=>true
theorem R5 {ρ ρ':Operand->Value} {o:Oper} (hq:tC o.op=true) (h:∀x∈o.op.operands,ρ x=ρ' x):execOp ρ o=execOp ρ' o:=by
 obtain⟨dst,op,type,pos,after,guard⟩:=o;have C6:∀{xs:Array Operand},(∀x∈xs,ρ x=ρ' x)->xs.map ρ=xs.map ρ':=λhx=>Array.map_congr_left hx
 have Ep:∀{x:Option Operand},(∀y,x=some y->ρ y=ρ' y)->x.map ρ=x.map ρ':=λ{x} hx=>by
  cases x with
  |none=>rfl
  |some y=>simp[hx y rfl]
 cases op<;>simp only[tC,Bool.false_eq_true]at hq<;>simp only[Op.operands,List.mem_toArray,List.mem_cons,List.not_mem_nil,or_false,forall_eq_or_imp,forall_eq,Array.mem_append,Option.mem_toArray]at h<;>simp only[execOp]
 case pick=>rw[h.1,h.2.1,h.2.2]
 case build t ps=>
  have:ps.map (λp=>(p.1,ρ p.2))=ps.map (λp=>(p.1,ρ' p.2)):=Array.map_congr_left λp hp=>by
   rw[h p.2 (List.mem_map.2 ⟨p,by simpa using hp,rfl⟩)]
  rw[this]
 case buildSlice t k ps=>
  have:ps.map (λp=>(p.1,ρ p.2))=ps.map (λp=>(p.1,ρ' p.2)):=Array.map_congr_left λp hp=>by
   rw[h p.2 (List.mem_map.2 ⟨p,by simpa using hp,rfl⟩)]
  rw[this]
 case nilCheck=>rw[h]
 case binOp=>rw[h.1,h.2]
 case makeFunc f xs ys=>rw[C6 (λx hx=>h x (.inl hx)),C6 (λx hx=>h x (.inr hx))]
 case makeMap t xs=>rw[Ep (λy hy=>h y (by simp[hy]))]
 case slice t x lo hi mx=>
  rw[h x (by simp),Ep (x:=lo) (λy hy=>h y (by simp[hy])),Ep (x:=hi) (λy hy=>h y (by simp[hy])),Ep (x:=mx) (λy hy=>h y (by simp[hy]))]
 case call c=>
  obtain⟨cal,args,Ko⟩:=c
  cases cal with
  |builtin b=>
   simp only[Call.operands,Array.empty_append]at h;simp only[resolve,C6 h]
  |invoke x name=>
   simp only[Call.operands,Array.mem_append,List.mem_toArray,List.mem_singleton]at h;simp only[resolve,h x (.inl rfl),C6 (λy hy=>h y (.inr hy))]
  |value x=>
   simp only[Call.operands,Array.mem_append,List.mem_toArray,List.mem_singleton]at h;simp only[resolve,h x (.inl rfl),C6 (λy hy=>h y (.inr hy))]
 all_goals first
  |rw[h]
  |rw[h.1,h.2]
  |rw[h.1,h.2.1,h.2.2]
  |rfl
def ga (N:aP) (wd w:World):Prop:=wd.heap.size<=w.heap.size/\∀b,b<wd.heap.size->¬N b->w.heap[b]? =wd.heap[b]?
theorem ga.refl (N:aP) (w:World):ga N w w:=⟨Nat.le_refl _,λ_ _ _=>rfl⟩
theorem ga.go {M M' N N':aP} {wd w w':World} (h:ga N wd w) (s:Step M w M' w' N') (hN:∀b,b<wd.heap.size->N' b->N b):ga N wd w':=
 ⟨Nat.le_trans h.1 s.size,λb hb hn=>(s.same b (Nat.lt_of_lt_of_le hb h.1) (λD9=>hn (hN b hb D9))).trans (h.2 b hb hn)⟩
theorem ga.xW {M M' N:aP} {wd w w':World} (h:ga N wd w) (s:Step M w M' w' aH):ga N wd w':=h.go s λ_ _ h=>h.elim
theorem ga.goN {M M' N:aP} {wd w w':World} (h:ga N wd w) (s:Step M w M' w' N):ga N wd w':=h.go s λ_ _ h=>h
def db (P:Program) (N:aP) (wd:World) (L:Sl) (o:Oper):Prop:=∀ρ:Operand->Value,(∀x u,ev L x=some u->ρ x=u)->∀v w',ga N wd w'→(execOp ρ o).run P wd= .ok (.value v) wd->(execOp ρ o).run P w'= .ok (.value v) w'
def wV (P:Program) (r:Option Nat) (n:Nat) (ops:Array Oper) (N:aP) (wd:World) (K:Kt):Nat->List Oper->Sl->List Deferred->World->Prop
 |_,[],L,ds,w=>K .normal L ds w
 |c,o::rest,L,ds,w=>Rg P r n ops [o] L ds w (λe L' qv w'=>e= .normal/\qv=ds/\(c≠0->ga N wd w')/\wV P r n ops N wd K (c-1) rest L' ds w')
theorem wV.nil {ops:Array Oper} {N:aP} {wd:World} {c:Nat} (h:K .normal L ds w):wV P r n ops N wd K c [] L ds w:=h
def nS (l:List Oper) (fl:List Nat):Nat->List Nat->Bool
 |0,_=>true
 |j+1,acc=>if fl.contains j then nS l fl j acc else acc.contains j&&nS l fl j (acc++(l[j]?.map du).getD [])
theorem nT {l:List Oper} {fl:List Nat} {D:Nat->Prop} (kW:∀k o,l[k]? =some o->D k->∀i∈du o,D i):∀(j:Nat) (acc:List Nat),nS l fl j acc=true->(∀k∈acc,D k)->∀i,i<j->i∉fl->D i
 |0,_,_,_,i,hi,_=>by omega
 |j+1,acc,h,ha,i,hi,hf=>by
  simp only[nS]at h
  split at h
  ·rename_i hj
   rcases Nat.lt_or_ge i j with eU|Mr
   ·exact nT kW j acc h ha i eU hf
   ·obtain rfl:i=j:=by omega
    exact absurd a95 hf
  ·simp only[Bool.and_eq_true,List.contains_iff_mem]at h;have hj:=ha j h.1;rcases Nat.lt_or_ge i j with eU|Mr
   ·refine nT kW j _ h.2 (λk hk=>?_) i eU hf;rcases List.mem_append.1 hk with hk|hk
    ·exact ha k hk
    ·cases ho:l[j]? with
     |none=>rw[ho]at hk;simp at hk
     |some o=>rw[ho]at hk;exact kW j o ho hj k (by simpa using hk)
   ·rw[show i=j from by omega];exact hj
def wW (l:List Oper) (m e:Nat):List Nat:=(List.range' m (e+1)).flatMap λj=>(l[j]?.map du).getD []
def mP (l:List Oper) (m:Nat) (fl:List Nat) (e:Nat):Bool:=
 (Nat.ble (l.length-m) e||l6 l m (wW l m e))&&
 lS l (m+1)&&nS l fl m ((l[m]?.map du).getD [])&&
 ((List.range' m (l.length-m)).all λj=>match l[j]? with
  |some o=>tC o.op&&(asks l o).all λt=>(List.range m).all λi=>match l[i]? with
   |some o'=> !(o'.dst==some t)||(du o).contains i
   |none=>true
  |none=>true)&&
 ((List.range m).all λj=> !fl.contains j||match l[j]? with
  |some o=>(asks l o).all λt=>(List.range l.length).all λi=>match l[i]? with
   |some o'=> !(o'.dst==some t)||(du o).contains i||(Nat.ble m i&&(du o').contains j)
   |none=>true
  |none=>true)
theorem C9 {l:List Oper} {m:Nat} {fl:List Nat} {e:Nat} (h:mP l m fl e=true):
  (l.length-m<=e\/l6 l m (wW l m e)=true)/\
  lS l (m+1)=true/\nS l fl m ((l[m]?.map du).getD [])=true/\
  (∀j o,m<=j->l[j]? =some o->tC o.op=true/\∀t∈asks l o,∀i o',i<m->l[i]? =some o'→o'.dst=some t->i∈du o)/\
  (∀j o,j<m->j∈fl->l[j]? =some o->∀t∈asks l o,∀i o',l[i]? =some o'→o'.dst=some t->i∈du o\/m<=i/\j∈du o'):=by
 simp only[mP,Bool.and_eq_true]at h;obtain⟨⟨⟨⟨h0,h1⟩,h2⟩,h3⟩,h4⟩:=h;rw[Bool.or_eq_true,Nat.ble_eq]at h0;refine⟨h0,h1,h2,λj o hj ho=>?_,λj o hj hf ho t ht i o' iY hd=>?_⟩
 ·have eU:=(List.getElem?_eq_some_iff.1 ho).1;have:=List.all_eq_true.1 h3 j (List.mem_range'_1.2 ⟨hj,by omega⟩);rw[ho]at this;simp only[Bool.and_eq_true]at this;refine ⟨this.1,λt ht i o' hi iY hd=> ?_⟩;have h5:=List.all_eq_true.1 (List.all_eq_true.1 this.2 t ht) i (List.mem_range.2 hi);rw[iY]at h5;simpa[hd]using h5
 ·have eU:=(List.getElem?_eq_some_iff.1 iY).1;have:=List.all_eq_true.1 h4 j (List.mem_range.2 hj);rw[ho]at this;simp only[Bool.or_eq_true,Bool.not_eq_true',List.contains_eq_mem,decide_eq_false_iff_not]at this;have h5:=List.all_eq_true.1 (List.all_eq_true.1 (this.resolve_left (λh=>h hf)) t ht) i (List.mem_range.2 eU);rw[iY]at h5;simp only[hd,beq_self_eq_true,Bool.not_true,Bool.false_or,Bool.or_eq_true,Bool.and_eq_true,Nat.ble_eq,decide_eq_true_eq,List.contains_iff_mem]at h5;rcases h5 with h|h
  ·exact .inl h
  ·exact .inr h
structure GJ (P:Program) (r:Option Nat) (n:Nat) (l:List Oper) (m:Nat) (fl:List Nat) (c:Nat) (N:aP) (K:Kt) (ds:List Deferred) (a0 am:Act) (wd:World) (D:Nat->Prop) (a:Act) (w:World) (p:Nat) (ac:Act) (Lp:Sl):Prop where
 p0:m<=p
 p1:p<=l.length
 dt:∀i,m<=i->i<l.length->(D i↔i<p)
 df:m<p->∀i,i<m->i∉fl->D i
 ag:jf n ac Lp ds
 tr:wV P r n l.toArray N wd K (c+m-p) (l.drop p) Lp ds w
 bY:p<=m+c->ga N wd w
 da:m+c<p->∀i,i<m->D i
 wm:p=m->w=wd
 defers:a.defers=ds
 size:a.tmps.size=a0.tmps.size
 sizec:ac.tmps.size=a0.tmps.size
 done:∀t,(∀i o,i<m->l[i]? =some o->o.dst=some t->D i)->a.tmps[t]? =ac.tmps[t]?
 pend:∀i o t,i<m->l[i]? =some o->o.dst=some t->¬D i->a.tmps[t]? =a0.tmps[t]?
 cm:∀t,(∀i o,m<=i->i<p->l[i]? =some o->o.dst≠some t)->ac.tmps[t]? =am.tmps[t]?
theorem Es {ops:Array Oper} {Qc Q:Exit->Act->World->Prop} {i:Nat} {rest:List Nat} {o:Oper} {a ac:Act} (ho:ops[i]? =some o) (hq:tC o.op=true) (Ms:∀x∈o.op.operands,a.eval x=ac.eval x) (uC:Region.wanted o (yielded ops a.tmps)=Region.wanted o (yielded ops ac.tmps)) (hdf:a.defers=ac.defers)
  (h:wpListIn (FW r) 0 P ops Qc [o] ac w) (ka:∀e a w,Qc e a w->e= .normal) (hk:∀v w',Qc .normal (ac.put o.dst v) w'→wpOpsIn (FW r) 0 P ops Q rest (a.put o.dst v) w') (hdd:∀d w',¬Qc .normal ({ac with defers:=d::ac.defers}.put o.dst undef) w'):wpOpsIn (FW r) 0 P ops Q (i::rest) a w:=by
 simp only[wpOpsIn,ho];simp only[wpListIn]at h;rw[uC];have nN:∀c,o.op≠ .defer c:=λc hc=>by rw[hc]at hq;cases hq
 split
 ·rename_i hw
  rw[if_pos hw]at h;obtain⟨_,h2⟩:=h;refine ⟨λ_ _=>trivial,?_⟩;rw[Oper.semAt_eq _ _ _ nN]at h2 ⊢;rw[R5 hq Ms];generalize (execOp ac.eval o).run P w=res at h2 ⊢
  cases res with
  |ok nx w'=>
   cases nx with
   |value v=>exact hk _ _ h2
   |skip=>exact hk _ _ h2
   |defer d=>exact absurd h2 (hdd d w')
   |enter f args=>exact⟨h2.1,h2.2.mono λe zj he=>by
     cases e with
     |returned v=>exact hk _ _ he
     |panicked c=>exact absurd (ka _ _ _ he) (by simp)
     |outgrown=>obtain⟨a,w,h⟩:=he;exact absurd (ka _ _ _ h) (by simp)⟩
   |row row args=>exact⟨h2.1,h2.2.mono λ_ _ he=>hk _ _ he⟩
   |round l f tmps tv body=>exact⟨h2.1,h2.2.mono λe zj he=>by
     cases e with
     |returned v=>exact hk _ _ he
     |panicked c=>exact absurd (ka _ _ _ he) (by simp)
     |outgrown=>obtain⟨a,w,h⟩:=he;exact absurd (ka _ _ _ h) (by simp)⟩
   |_=>exact h2.elim
  |halt x w'=>
   cases x with
   |panic v=>exact absurd (ka _ _ _ h2) (by simp)
   |_=>exact h2.elim
 ·rename_i hw
  rw[if_neg hw]at h;exact⟨λ_ _=>trivial,hk _ _ h.2⟩
theorem GJ.next {l:List Oper} {m:Nat} {fl:List Nat} {c:Nat} {N:aP} {a0 am:Act} {iB:List Value} {wd:World} (dU:fm l 0=true) (uu:l7 l m=true) (Bq:mP l m fl c=true) (ze:m<l.length) (mz:∀i,i<m->∃v,iB[i]? =some v)
  {st:Nat->Act} (lF:∀j o,j<m->l[j]? =some o->∃v,iB[j]? =some v/\One P r l.toArray wd o (st j) v) (C8:∀j,j<m->QJ l m a0 iB wd (λi=>i<j) (st j) wd) (Jh:QJ l m a0 iB wd (λi=>i<m) am wd)
  {Lm:Sl} (hLm:jf n am Lm ds) (hF:∀j o,j∈fl->l[j]? =some o->db P N wd Lm o)
  {Q:Exit->Act->World->Prop} {D:Nat->Prop} {a:Act} {w:World} {j:Nat} {o:Oper} {rest:List Nat} (ho:l[j]? =some o) (pC: ¬D j) (hp:∀k∈du o,D k) (kW:∀i o,l[i]? =some o->D i->∀k∈du o,D k) (hi:∃p ac Lp,GJ P r n l m fl c N K ds a0 am wd D a w p ac Lp)
  (hk:∀a' w',(∃p ac Lp,GJ P r n l m fl c N K ds a0 am wd (λi=>i=j\/D i) a' w' p ac Lp)->wpOpsIn (FW r) 0 P l.toArray Q rest a' w'):wpOpsIn (FW r) 0 P l.toArray Q (j::rest) a w:=by
 obtain⟨p,ac,Lp,hi⟩:=hi;obtain⟨aaD,C5,Nd,uF,Uy⟩:=C9 Bq;have qw:=(List.getElem?_eq_some_iff.1 ho).1;rcases Nat.lt_or_ge j m with hj|hj
 ·obtain⟨v,hv,h1⟩:=lF j o hj ho;obtain⟨hq,Uz⟩:=lH uu hj ho;have hmf:m<p->j∈fl:=λh=>Classical.byContradiction λhf=>pC (hi.df h j hj hf)
  have Eb:∀t∈asks l o,a.tmps[t]? =(st j).tmps[t]? :=λt ht=>by
   by_cases hx:∃i o',i<m/\l[i]? =some o'∧o'.dst=some t
   ·obtain⟨i,o',ql,iY,hd⟩:=hx;obtain⟨v',sM⟩:=mz i ql;rcases Uz t ht i o' ql iY hd with h|h|h
    ·have Ed:=hp i h;have jS:=dL dU j o ho i h;rw[hi.done t (λk ok Hf fh Kz=>by rw[fZ dU fh iY Kz hd];exact Ed),hi.cm t (λk ok fg fC fh Kz=>by have:=fZ dU fh iY Kz hd;omega),Jh.done i o' v' t ql iY sM ql hd,(C8 j hj).done i o' v' t ql iY sM hV hd]
    ·subst h;rw[hi.pend i o' t ql iY hd pC,(C8 i hj).base t (λk ok Hf fh Kz Et=>by have:=fZ dU fh iY Et hd;omega)]
    ·have jS:=dL dU i o' iY j h;rw[hi.pend i o' t ql iY hd (λEd=>pC (kW i o' iY Ed j h)),(C8 j hj).base t (λk ok Hf fh Kz Et=>by have:=fZ dU fh iY Et hd;omega)]
   ·have ka:∀k ok,k<m->l[k]? =some ok->ok.dst≠some t:=λk ok Hf fh Kz=>hx ⟨k,ok,Hf,fh,Kz⟩
    rw[hi.done t (λk ok Hf fh Kz=>absurd Kz (ka k ok Hf fh)),hi.cm t (λk ok fg fC fh Kz=>by
     rcases Uy j o hj (hmf hV) ho t ht k ok fh Kz with h|⟨_,h⟩
     ·have:=dL dU j o ho k h;omega
     ·exact pC (kW k ok fh ((hi.dt k fg (List.getElem?_eq_some_iff.1 fh).1).2 fC) j h)),Jh.base t (λk ok Hf fh _=>ka k ok Hf fh),(C8 j hj).base t (λk ok Hf fh _=>ka k ok Hf fh)]
  obtain⟨Ms,uC⟩:=oN Eb
  have h2:One P r l.toArray w o a v:=by
   rcases Nat.eq_or_lt_of_le hi.p0 with hpm|hpm
   ·have ZT:=hi.wm hpm.symm;unfold One at h1 ⊢;rw[uC,mN hq Ms,ZT];exact h1
   ·have hjf:=hmf hpm
    have agD:∀t∈asks l o,am.tmps[t]? =(st j).tmps[t]? :=λt ht=>Jh.agree dU mz (C8 j hj) λi o' ql iY hd=>by
     rcases Uy j o hj hjf ho t ht i o' iY hd with h|⟨h,_⟩
     ·have:=dL dU j o ho i h;exact⟨λ_=>by omega,λ_=>ql⟩
     ·omega
    obtain⟨aaE,_⟩:=oN agD;unfold One at h1 ⊢;rw[uC]
    split
    ·rename_i hw
     rw[if_pos hw]at h1;rw[<-mN hq aaE]at h1;rw[mN hq Ms,<-mN hq aaE];exact hF j o hjf ho am.eval (λx u hx=>hLm.eval hx) v w (hi.bY (Nat.le_of_not_lt λeU=>pC (hi.da eU j hj))) h1
    ·rename_i hw
     rw[if_neg hw]at h1;exact h1
  refine h2.run (by simpa using ho) hq (hk _ _ ⟨p,ac,Lp,hi.p0,hi.p1,λi h3 h4=>?_,λh i h3 h4=> .inr (hi.df h i h3 h4),hi.ag,hi.tr,hi.bY,λh i h3=> .inr (hi.da h i h3),hi.wm,by rw[put_defers];exact hi.defers,by rw[oL];exact hi.size,hi.sizec,λt ht=>?_,λi o' t ql iY hd hni=>?_,hi.cm⟩)
  ·rw[<-hi.dt i h3 h4];exact⟨λh=>h.resolve_left hV,.inr⟩
  ·rw[ij];by_cases e:o.dst=some t
   ·rw[if_pos e,hi.cm t (λk ok fg fC fh Kz=>by have:=fZ dU fh ho Kz e;omega),Jh.done j o v t hj ho hv hj e];exact uE hi.size
   ·rw[if_neg e];exact hi.done t λi o' ql iY hd=>(ht i o' ql iY hd).resolve_left (λh=>by subst h;rw[ho]at iY;cases iY;exact e hd)
  ·rw[ij,if_neg (λe=>hni (.inl (fZ dU iY ho hd e)))];exact hi.pend i o' t ql iY hd (λh=>hni (.inr h))
 ·have hjp:j=p:=by
   have h1:p<=j:=by
    rcases Nat.lt_or_ge j p with h|h
    ·exact absurd ((hi.dt j hj qw).2 h) pC
    ·exact h
   rcases Nat.lt_or_ge m j with h|h
   ·have h2:=hp _ (mL C5 (j:=j) hV ho);have:=(hi.dt (j-1) hV hV).1 h2;omega
   ·have:=hi.p0;omega
  subst hjp;obtain⟨hto,Nf⟩:=uF j o hj ho
  have iR:∀i,i<m->i∉fl->D i:=λi ql hif=>by
   rcases Nat.eq_or_lt_of_le hi.p0 with h|h
   ·rw[h,ho]at Nd;exact nT (D:=D) kW j (du o) Nd hp i hV hif
   ·exact hi.df h i ql hif
  have Eb:∀t∈asks l o,a.tmps[t]? =ac.tmps[t]? :=λt ht=>hi.done t λi o' ql iY hd=>hp i (Nf t ht i o' ql iY hd)
  obtain⟨Ms,uC⟩:=oN Eb
  have aaG:m+c<j+1->∀i,i<m->D i:=λeU i ql=>by
   rcases Nat.lt_or_ge (m+c) j with h|h
   ·exact hi.da h i ql
   ·have xX:j=m+c:=by omega
    rcases aaD with h5|h5
    ·omega
    ·refine tA (D:=D) kW m _ h5 (λk hk=>?_) i ql;simp only[wW,List.mem_flatMap,List.mem_range'_1]at hk;obtain⟨q,⟨Wj,hq2⟩,UA⟩:=hk;rcases Nat.eq_or_lt_of_le (show q<=j by omega)with e|e
     ·rw[e,ho]at UA;exact hp k UA
     ·have hDq:=(hi.dt q Wj hV).2 e
      cases hoq:l[q]? with
      |none=>rw[hoq]at UA;cases UA
      |some oq=>rw[hoq]at UA;exact kW q oq hoq hDq k UA
  have B6:=hi.tr;rw[List.drop_eq_getElem_cons qw,(List.getElem?_eq_some_iff.1 ho).2]at B6;have h1:=Rg.run B6 ac hi.ag;refine Es (by simpa using ho) hto Ms uC (by rw[hi.defers,hi.ag.defers]) h1 (λe a w ⟨_,_,_,he,_⟩=>he) (λv w' ⟨L',qv,hA,_,Nc,R4,Wk⟩=>?_) (λd w' ⟨L',qv,hA,_,Nc,_⟩=>?_)
  ·rw[Nc]at hA;refine hk _ _ ⟨j+1,ac.put o.dst v,L',by omega,by omega,λi h3 h4=>?_,λ_ i h3 h4=> .inr (iR i h3 h4),hA,by rw[show c+m-(j+1)=c+m-j-1 from by omega];exact Wk,λh=>R4 hV,λh i ql=> .inr (aaG h i ql),λh=>by omega,by rw[put_defers];exact hi.defers,by rw[oL];exact hi.size,by rw[oL];exact hi.sizec,λt ht=>?_,λi o' t ql iY hd hni=>?_,λt ht=>?_⟩
   ·constructor
    ·rintro(h|h)
     ·omega
     ·have:=(hi.dt i h3 h4).1 h;omega
    ·intro h;rcases Nat.eq_or_lt_of_le (show i<=j by omega)with h5|h5
     ·exact .inl h5
     ·exact .inr ((hi.dt i h3 h4).2 h5)
   ·rw[ij,ij]
    split
    ·exact uE (hi.size.trans hi.sizec.symm)
    ·exact hi.done t λi o' ql iY hd=>(ht i o' ql iY hd).resolve_left hV
   ·rw[ij,if_neg (λe=>by have:=fZ dU iY ho hd e;omega)];exact hi.pend i o' t ql iY hd (λh=>hni (.inr h))
   ·rw[ij,if_neg (ht j o hj hV ho)];exact hi.cm t λi o' h3 h4 h5=>ht i o' h3 hV h5
  ·have h3:=hA.defers;rw[put_defers,Nc]at h3;have h4:=congrArg List.length h3;rw[hi.ag.defers]at h4;simp at h4
theorem T.rf {id:Nat} {l:List Oper} (m:Nat) (fl:List Nat) (c:Nat) (N:aP) (hm:P.follows .mixedOrders=true) (ze:Nat.blt m l.length=true) (dU:fm l 0=true) (uu:l7 l m=true) (Bq:mP l m fl c=true)
  (h:∀wD,(∀M,Step M w M wD aH)->ou P r n l.toArray (l.take m) L ds wD (λL'=>(∀j o,j∈fl->l[j]? =some o->db P N wD L' o)/\wV P r n l.toArray N wD K c (l.drop m) L' ds wD)):T P r n (.region id l.toArray true) L ds w K:=by
 refine ⟨λa ha=>wpIn_region_draw λt=> ?_⟩;simp only[Region.schedule,hm,Bool.true_or,if_true,Region.linearise];have GZ:m<l.length:=by simpa[Nat.blt_eq]using ze
 have hQ:=h _ (tB w);have jh:∀j,j<m->(l.take m)[j]? =l[j]? :=λj hj=>by rw[List.getElem?_take,if_pos hj]
 obtain⟨am,Lm,vs,B6,hA,hF,hT⟩:=hQ.trace (λo ho=>by
  obtain⟨j,hj⟩:=List.mem_iff_getElem?.1 ho
  have G0:j<m:=by
   have:=(List.getElem?_eq_some_iff.1 hj).1;rw[List.length_take]at this;omega
  exact(lH uu G0 (by rw[<-jh j G0];exact hj)).1) ha
 obtain⟨st,h0,hl,lF⟩:=B6.C7;have hlen:(l.take m).length=m:=by rw[List.length_take];omega
 rw[hlen]at hl;have yy:∀j o,j<m->l[j]? =some o->∃v,vs[j]? =some v/\One P r l.toArray _ o (st j) v/\st (j+1)=(st j).put o.dst v:=λj o hj ho=>lF j o (by rw[jh j hj];exact ho)
 have mz:∀i,i<m->∃v,vs[i]? =some v:=λi hi=>by
  obtain⟨v,hv,_⟩:=yy i l[i] hi (List.getElem?_eq_getElem hV);exact⟨v,hv⟩
 have C8:=oM dU h0 yy;have Jh:=C8 m (Nat.le_refl _) hV;rw[hl]at Jh
 refine mM (J:=λD a' w'=>∃p ac Lp,GJ P r n l m fl c N K ds a am {w with drawn:=w.drawn+1} D a' w' p ac Lp) dU (λ{D D' a' w'} ⟨p,ac,Lp,hi⟩ hD=>⟨p,ac,Lp,hi.p0,hi.p1,λi h3 h4=>(hD i h4).trans (hi.dt i h3 h4),λh i h3 h4=>(hD i hV).2 (hi.df h i h3 h4),hi.ag,hi.tr,hi.bY,λh i h3=>(hD i hV).2 (hi.da h i h3),hi.wm,hi.defers,hi.size,hi.sizec,λt ht=>hi.done t λi o h3 h4 h5=>(hD i hV).1 (ht i o h3 h4 h5),λi o t h3 h4 h5 h6=>hi.pend i o t h3 h4 h5 (λh=>h6 ((hD i hV).2 h)),hi.cm⟩)
  (λ{D a' w' j o rest} hj ho pC hp kW hi hk=>GJ.next dU uu Bq GZ mz (λj o hj ho=>by obtain⟨v,h1,h2,_⟩:=yy j o hj ho;exact⟨v,h1,h2⟩) (λj hj=>C8 j hV hV) Jh hA hF ho pC hp kW hi hk) (λa' w' hJ=>?_) _ t _ a _ (by simp) ab2 (λi o h1 h2=>?_) ⟨m,am,Lm,Nat.le_refl _,by omega,λi h3 h4=>?_,λh=>by omega,hA,by rw[Nat.add_sub_cancel];exact hT,λ_=>ga.refl _ _,λh=>by omega,λ_=>rfl,ha.defers,rfl,Jh.size,λt ht=>?_,λi o t _ _ _ _=>rfl,λt _=>rfl⟩
 ·obtain⟨p,ac,Lp,hi⟩:=hJ
  have yN:p=l.length:=by
   rcases Nat.lt_or_ge p l.length with h3|h3
   ·have:=(hi.dt p hi.p0 h3).1 h3;omega
   ·have:=hi.p1;omega
  have B6:=hi.tr;rw[yN,List.drop_eq_nil_of_le (Nat.le_refl _)]at B6;refine⟨Lp,ds,⟨?_,hi.defers,λt v ht=>?_⟩,B6⟩
  ·rw[hi.size];exact ha.size
  ·rw[hi.done t λi o h3 h4 _=>by omega];exact hi.ag.at_ t v ht
 ·simp[Array.getElem?_replicate]at h2
 ·simp[Array.getElem?_replicate];omega
 ·rw[Jh.base t λi o h3 h4 _ h5=>?_];have:=ht i o h3 h4 h5;simp[Array.getElem?_replicate]at this
def jw (P:Program) (N:aP) (wd:World) (L:Sl) (l:List Oper):List Nat->Prop
 |[]=>True
 |j::js=>(match l[j]? with|some o=>db P N wd L o|none=>True)/\jw P N wd L l js
theorem jw.all {N:aP} {wd:World} {l:List Oper}:∀{fl:List Nat},jw P N wd L l fl->∀j o,j∈fl->l[j]? =some o->db P N wd L o
 |[],_,j,o,hj,_=>absurd hj (List.not_mem_nil)
 |k::fl,h,j,o,hj,ho=>by
  rcases List.mem_cons.1 hj with e|hj
  ·have h1:=h.1;rw[<-e,ho]at h1;exact h1
  ·exact jw.all h.2 j o hj ho
variable {N:aP} {wd:World} {dst:Option Nat} {ty:TypeId} {pos:String} {af:Array Edge} {gd:Option (Nat×Bool)} {x y i:Operand}
theorem db.move:db P N wd L {dst,op:= .move x,type:=ty,pos,after:=af,guard:=gd}:=λρ _ v w' _ h=>by
 have h:Result.ok (Next.value (ρ x)) wd= .ok (.value v) wd:=h
 cases h;rfl
def Loc {α:Type} (s:Sem α):Prop:=∀(P:Program) (w1:World) (a:α) (w':World),s.run P w1= .ok a w'→w'=w1/\∀w2,s.run P w2= .ok a w2
theorem Loc.pure {α:Type} (a:α):Loc (Pure.pure a:Sem α):=λP w1 b w' hr=>by
 simp only[Sem.run_pure,Result.ok.injEq]at hr;exact⟨hr.2.symm,λw2=>by rw[<-hr.1];rfl⟩
theorem db.free {o:Oper} (h:∀ρ:Operand->Value,(∀x u,ev L x=some u->ρ x=u)->Loc (execOp ρ o)):db P N wd L o:=λρ hρ v w' _ hr=>(h ρ hρ P wd _ _ hr).2 w'
theorem db.nilCheck {a:Addr} (hx:ev L x=some (.pointer (some a))):db P N wd L {dst,op:= .nilCheck x,type:=ty,pos,after:=af,guard:=gd}:= .free λρ hρ=>by
 simp only[execOp,hρ x _ hx];exact .pure _
theorem mQ {w w':World} {b:Nat} (hb:∃cs e fr,w.heap[b]? =some (.cells cs e fr)) (hs:w'.heap[b]? =w.heap[b]?):∀(n o i:Nat) (acc a:Array Value) (w1:World),(loadCellsFrom ⟨b,o,none⟩ i n acc).run P w= .ok a w1->w1=w/\(loadCellsFrom ⟨b,o,none⟩ i n acc).run P w'= .ok a w'
 |0,o,i,acc,a,w1,h=>by
  simp only[loadCellsFrom,Sem.run_pure,Result.ok.injEq]at h ⊢;exact⟨h.2.symm,h.1,trivial⟩
 |n+1,o,i,acc,a,w1,h=>by
  obtain⟨cs,e,fr,hc⟩:=hb;simp only[loadCellsFrom,Sem.run_bind]at h ⊢;have oO:∀k,w'.cell? ⟨b,k,none⟩=w.cell? ⟨b,k,none⟩:=λk=>by simp only[World.cell?,hs]
  have Wl:(⟨b,o,none⟩:Addr).add i=⟨b,o+i,none⟩:=by simp[Addr.add]
  rw[Wl]at h ⊢;simp only[load,Sem.run]at h ⊢;rw[oO]
  cases hv:w.cell? ⟨b,o+i,none⟩with
  |some v=>
   rw[hv]at h;simp only[Result.andThen]at h ⊢;exact mQ ⟨cs,e,fr,hc⟩ hs n o (i+1) (acc.push v) a w1 h
  |none=>
   rw[hv]at h;simp[World.farLoad,hc,Result.andThen]at h
theorem db.load {t:TypeId} {b o:Nat} {cs:Array Value} {e:TypeId} {fr:Nat×Nat} (hx:ev L x=some (.pointer (some ⟨b,o,none⟩))) (hb:wd.heap[b]? =some (.cells cs e fr)) (hn: ¬N b):db P N wd L {dst,op:= .load t x,type:=ty,pos,after:=af,guard:=gd}:=λρ hρ v w' hk hr=>by
 have hs:=hk.2 b (ah hb) hn;simp only[execOp,hρ x _ hx]at hr ⊢;rw[Sem.run_bind]at hr ⊢
 have key:∀v w1,(Instr.loadAt t (.pointer (some ⟨b,o,none⟩))).run P wd= .ok v w1->(Instr.loadAt t (.pointer (some ⟨b,o,none⟩))).run P w'= .ok v w':=λv w1 h=>by
  simp only[Instr.loadAt,Instr.sureAddr,Sem.run_bind,Sem.run_pure,Result.andThen_ok,loadVar]at h ⊢
  have Eb:∀w:World,(isAgg t).run P w=match P.underlying t with|some (.struct _)|some (.array _ _)=>Result.ok true w|some _=>Result.ok false w|none=>Result.halt (.stuck "no such type") w:=λw=>by
   simp only[isAgg,underlying,Sem.run_bind,program,Sem.run,Result.andThen]
   cases P.underlying t with
   |none=>simp[stuck,Sem.run]
   |some d=>cases d<;>simp
  rw[Eb]at h ⊢
  cases hu:P.underlying t with
  |none=>rw[hu]at h;simp[Result.andThen]at h
  |some d=>
   have nE:∀w:World,(sizeOf t).run P w=match P.info? t with|some i=>Result.ok i.size w|none=>Result.halt (.stuck "no such type") w:=λw=>by
    simp only[sizeOf,typeInfo,Sem.run_bind,program,Sem.run,Result.andThen]
    cases P.info? t<;>simp[stuck,Sem.run]
   have wR:∀v w1,(Go.load ⟨b,o,none⟩).run P wd= .ok v w1->(Go.load ⟨b,o,none⟩).run P w'= .ok v w':=λv w1 h=>by
    have oO:w'.cell? ⟨b,o,none⟩=wd.cell? ⟨b,o,none⟩:=by simp only[World.cell?,hs]
    simp only[Go.load,Sem.run]at h ⊢;rw[oO]
    cases hv:wd.cell? ⟨b,o,none⟩with
    |some u=>rw[hv]at h;simp only[Result.ok.injEq]at h ⊢;exact⟨h.1,trivial⟩
    |none=>rw[hv]at h;simp[World.farLoad,hb]at h
   have G6:∀v w1,(do Pure.pure (Value.agg (<-loadCells ⟨b,o,none⟩ (<-sizeOf t))):Sem Value).run P wd= .ok v w1->(do Pure.pure (Value.agg (<-loadCells ⟨b,o,none⟩ (<-sizeOf t))):Sem Value).run P w'= .ok v w':=λv w1 h=>by
    simp only[Sem.run_bind,nE]at h ⊢
    cases hi:P.info? t with
    |none=>rw[hi]at h;simp[Result.andThen]at h
    |some inf=>
     rw[hi]at h;simp only[Result.andThen]at h ⊢
     cases hl:(loadCells ⟨b,o,none⟩ inf.size).run P wd with
     |ok a w2=>
      rw[hl]at h;obtain⟨_,h2⟩:=mQ ⟨cs,e,fr,hb⟩ hs _ _ _ _ _ _ hl;have h2:(loadCells ⟨b,o,none⟩ inf.size).run P w'= .ok a w':=h2;rw[h2];simp only[Sem.run_pure,Result.ok.injEq]at h ⊢;exact⟨h.1,trivial⟩
     |halt x w2=>rw[hl]at h;simp at h
   rw[hu]at h
   cases d<;>simp only[Result.andThen_ok,if_true,Bool.false_eq_true,if_false]at h ⊢ <;>first|exact wR v w1 h|exact G6 v w1 h
 cases hl:(Instr.loadAt t (.pointer (some ⟨b,o,none⟩))).run P wd with
 |ok u w1=>
  rw[hl]at hr;rw[key u w1 hl];simp only[Result.andThen_ok,Sem.run_pure,Result.ok.injEq]at hr ⊢;exact⟨hr.1,trivial⟩
 |halt x w1=>rw[hl]at hr;simp[Result.andThen]at hr
theorem dp.float {α:Type} {A:RT α} {M:aP} {w:World} {v:Value} {x:α} (h:dp A M w v x) (hn:0<A.n:=by decide):∃b o cs e fr,v= .pointer (some ⟨b,o,none⟩)/\w.heap[b]? =some (.cells cs e fr)/\¬M b:=by
 obtain⟨b,o,vs,h1,h2,h3,h4⟩:=h;have hp:0<vs.length:=by rw[A.len h3];exact hn
 have hc:=h4 0 vs[0] (List.getElem?_eq_getElem hp);simp only[World.cell?]at hc
 cases hb:w.heap[b]? with
 |none=>rw[hb]at hc;cases hc
 |some ob=>
  rw[hb]at hc
  cases ob with
  |cells cs e fr=>exact⟨b,o,cs,e,fr,h1,hb,h2⟩
  |_=>cases hc
theorem db.field {s:TypeId} {fs:Array Field} {fd:Field} {j:Nat} {zv:Value} {size bytes:Nat} (hs:P.underlying s=some (.struct fs)) (hj:fs[j]? =some fd) (hi:TI P fd.type zv size bytes) (h0:size≠0):db P N wd L {dst,op:= .fieldAddr s x j,type:=ty,pos,after:=af,guard:=gd}:=λρ hρ v w' hk hr=>by
 simp only[execOp,Sem.run_bind]at hr ⊢
 have key:∀w,(Instr.fieldAt s (ρ x) j).run P w=match ρ x with| .pointer (some a)=>Result.ok (.pointer (some (a.add fd.offset))) w|_=>Result.halt (.stuck "an address expected (no nilCheck in front?)") w:=λw=>by
  generalize ρ x=u;unfold Instr.fieldAt;simp only[Sem.run_bind,run_underlying hs,Result.andThen_ok,hj];unfold Instr.sureAddr
  split
  ·simp only[Sem.run_pure,Result.andThen_ok,Sem.run_bind,fieldPlace,hi.sizeOf,h0,if_false]
  ·simp[stuck,Sem.run,Result.andThen]
 rw[key]at hr ⊢
 split at hr
 ·simp only[Result.andThen_ok,Sem.run_pure,Result.ok.injEq]at hr ⊢;exact⟨hr.1,trivial⟩
 ·simp[Result.andThen]at hr
end
section
variable {P:Program} {r:Option Nat} {n:Nat} {L:Sl} {ds:List Deferred} {w:World} {K:Kt}
def jT (P:Program) (r:Option Nat) (n:Nat) (l:List Oper) (L:Sl) (ds:List Deferred) (wD:World) (K:Kt):Prop:=
 ∀a,jf n a L ds->∃J:(Nat->Prop)->Act->World->Prop,
  (∀(D D':Nat->Prop) a w,J D a w->(∀i,i<l.length->(D' i↔D i))->J D' a w)/\
  (∀(Q:Exit->Act->World->Prop) (D:Nat->Prop) a w j o rest,j<l.length->l[j]? =some o->¬D j->(∀k∈du o,D k)->(∀i o,l[i]? =some o->D i->∀k∈du o,D k)->J D a w->(∀a' w',J (λi=>i=j\/D i) a' w'→wpOpsIn (FW r) 0 P l.toArray Q rest a' w')->wpOpsIn (FW r) 0 P l.toArray Q (j::rest) a w)/\
  (∀a w,J (λi=>i<l.length) a w->up n K .normal a w)/\J (λ_=>False) a wD
theorem jT.t {id:Nat} {l:List Oper} (hm:P.follows .mixedOrders=true) (dU:fm l 0=true) (h:∀wD,(∀M,Step M w M wD aH)->jT P r n l L ds wD K):T P r n (.region id l.toArray true) L ds w K:=by
 refine ⟨λa ha=>wpIn_region_draw λt=> ?_⟩;simp only[Region.schedule,hm,Bool.true_or,if_true,Region.linearise];obtain⟨J,h1,h2,h3,h4⟩:=h _ (tB w) a ha;refine mM (J:=J) dU (λ{D D' a w} hi hD=>h1 D D' a w hi hD) (λ{D a' w' j o rest} hj ho pC hp kW hi hk=>h2 _ _ _ _ _ _ _ hj ho pC hp kW hi hk) h3 _ t _ a _ (by simp) ab2 (λi o h1 h2=>?_) (h1 _ _ _ _ h4 λi _=>?_)
 ·simp[Array.getElem?_replicate]at h2
 ·simp[Array.getElem?_replicate]
theorem Eu {l:List Oper} {wd:World} (m:Nat) (fl:List Nat) (c:Nat) (N:aP) (ze:Nat.blt m l.length=true) (dU:fm l 0=true) (uu:l7 l m=true) (Bq:mP l m fl c=true)
  (h:ou P r n l.toArray (l.take m) L ds wd (λL'=>(∀j o,j∈fl->l[j]? =some o->db P N wd L' o)/\wV P r n l.toArray N wd K c (l.drop m) L' ds wd)):jT P r n l L ds wd K:=by
 intro a ha;have GZ:m<l.length:=by simpa[Nat.blt_eq]using ze
 have jh:∀j,j<m->(l.take m)[j]? =l[j]? :=λj hj=>by rw[List.getElem?_take,if_pos hj]
 obtain⟨am,Lm,vs,B6,hA,hF,hT⟩:=h.trace (λo ho=>by
  obtain⟨j,hj⟩:=List.mem_iff_getElem?.1 ho
  have G0:j<m:=by
   have:=(List.getElem?_eq_some_iff.1 hj).1;rw[List.length_take]at this;omega
  exact(lH uu G0 (by rw[<-jh j G0];exact hj)).1) ha
 obtain⟨st,h0,hl,lF⟩:=B6.C7;have hlen:(l.take m).length=m:=by rw[List.length_take];omega
 rw[hlen]at hl;have yy:∀j o,j<m->l[j]? =some o->∃v,vs[j]? =some v/\One P r l.toArray wd o (st j) v/\st (j+1)=(st j).put o.dst v:=λj o hj ho=>lF j o (by rw[jh j hj];exact ho)
 have mz:∀i,i<m->∃v,vs[i]? =some v:=λi hi=>by
  obtain⟨v,hv,_⟩:=yy i l[i] hi (List.getElem?_eq_getElem hV);exact⟨v,hv⟩
 have C8:=oM dU h0 yy;have Jh:=C8 m (Nat.le_refl _) hV;rw[hl]at Jh
 refine⟨λD a' w'=>∃p ac Lp,GJ P r n l m fl c N K ds a am wd D a' w' p ac Lp,λD D' a' w' ⟨p,ac,Lp,hi⟩ hD=>⟨p,ac,Lp,hi.p0,hi.p1,λi h3 h4=>(hD i h4).trans (hi.dt i h3 h4),λh i h3 h4=>(hD i hV).2 (hi.df h i h3 h4),hi.ag,hi.tr,hi.bY,λh i h3=>(hD i hV).2 (hi.da h i h3),hi.wm,hi.defers,hi.size,hi.sizec,λt ht=>hi.done t λi o h3 h4 h5=>(hD i hV).1 (ht i o h3 h4 h5),λi o t h3 h4 h5 h6=>hi.pend i o t h3 h4 h5 (λh=>h6 ((hD i hV).2 h)),hi.cm⟩,
  λQ D a' w' j o rest hj ho pC hp kW hi hk=>GJ.next dU uu Bq GZ mz (λj o hj ho=>by obtain⟨v,h1,h2,_⟩:=yy j o hj ho;exact⟨v,h1,h2⟩) (λj hj=>C8 j hV hV) Jh hA hF ho pC hp kW hi hk,λa' w' hJ=>?_,⟨m,am,Lm,Nat.le_refl _,by omega,λi h3 h4=>?_,λh=>by omega,hA,by rw[Nat.add_sub_cancel];exact hT,λ_=>ga.refl _ _,λh=>by omega,λ_=>rfl,ha.defers,rfl,Jh.size,λt ht=>?_,λi o t _ _ _ _=>rfl,λt _=>rfl⟩⟩
 ·obtain⟨p,ac,Lp,hi⟩:=hJ
  have yN:p=l.length:=by
   rcases Nat.lt_or_ge p l.length with h3|h3
   ·have:=(hi.dt p hi.p0 h3).1 h3;omega
   ·have:=hi.p1;omega
  have B6:=hi.tr;rw[yN,List.drop_eq_nil_of_le (Nat.le_refl _)]at B6;refine⟨Lp,ds,⟨?_,hi.defers,λt v ht=>?_⟩,B6⟩
  ·rw[hi.size];exact ha.size
  ·rw[hi.done t λi o h3 h4 _=>by omega];exact hi.ag.at_ t v ht
 ·exact⟨False.elim,λh=>by omega⟩
 ·rw[Jh.base t λi o h3 h4 _ h5=>(ht i o h3 h4 h5)]
def wY (π:List Nat) (o:Oper):Oper:=⟨o.dst,o.op,o.type,o.pos,o.after.map λe=>{e with on:=π.idxOf e.on},o.guard.map λg=>(π.idxOf g.1,g.2)⟩
def B7 (π:List Nat) (l:List Oper):List Oper:=π.map λi=>wY π (l.getD i default)
def mR (π:List Nat) (k:Nat):Bool:=π.length==k&&π.all (Nat.blt · k)&&(List.range k).all (π.contains ·)&&(List.range k).all λi=>π.idxOf (π.getD i 0)==i
theorem pE {π:List Nat} {k:Nat} (h:mR π k=true):π.length=k/\(∀(i j:Nat),π[i]? =some j->j<k)/\(∀j,j<k->π[π.idxOf j]? =some j)/\(∀(i j:Nat),π[i]? =some j->π.idxOf j=i)/\(∀j,k<=j->π.idxOf j=k):=by
 simp only[mR,Bool.and_eq_true,beq_iff_eq,List.all_eq_true,Nat.blt_eq,List.mem_range,List.contains_iff_mem]at h;obtain⟨⟨⟨h1,h2⟩,h3⟩,h4⟩:=h;refine⟨h1,λi j jS=>h2 j (List.mem_of_getElem? jS),λj hj=>?_,λi j jS=>?_,λj hj=>?_⟩
 ·have eU:=List.idxOf_lt_length_of_mem (h3 j hj);rw[List.getElem?_eq_getElem eU,List.getElem_idxOf eU]
 ·have hi:i<k:=by have:=(List.getElem?_eq_some_iff.1 jS).1;omega
  have:=h4 i hi
  rwa [List.getD_eq_getElem?_getD,jS,Option.getD_some]at this
 ·rw[List.idxOf_eq_length (λhm=>by have:=h2 j hm;omega),h1]
theorem Da {π:List Nat} {l:List Oper} (hπ:mR π l.length=true) {j:Nat} {o:Oper} (ho:l[j]? =some o):(B7 π l)[π.idxOf j]? =some (wY π o):=by
 obtain⟨_,_,h3,_⟩:=pE hπ;have hj:=(List.getElem?_eq_some_iff.1 ho).1;simp only[B7,List.getElem?_map,h3 j hj,Option.map_some,List.getD_eq_getElem?_getD,ho,Option.getD_some]
theorem R6 {π:List Nat} {l:List Oper} (hπ:mR π l.length=true) {i:Nat} {o':Oper} (ho:(B7 π l)[i]? =some o'):∃j o,π[i]? =some j/\l[j]? =some o/\o'=wY π o:=by
 obtain⟨_,h2,_⟩:=pE hπ;simp only[B7,List.getElem?_map,Option.map_eq_some_iff]at ho;obtain⟨j,hj,rfl⟩:=ho;refine⟨j,_,hj,List.getElem?_eq_getElem (h2 i j hj),?_⟩;rw[List.getD_eq_getElem?_getD,List.getElem?_eq_getElem (h2 i j hj),Option.getD_some]
theorem zn (π:List Nat) (o:Oper):du (wY π o)=(du o).map π.idxOf:=by
 simp only[du,wY,Array.toList_map,List.filter_map,List.map_map];rfl
theorem Ev {π:List Nat} {l:List Oper} (hπ:mR π l.length=true) (tmps:Array Value) (j:Nat):yielded (B7 π l).toArray tmps (π.idxOf j)=yielded l.toArray tmps j:=by
 unfold yielded
 have:((B7 π l).toArray[π.idxOf j]?).bind (·.dst)=(l.toArray[j]?).bind (·.dst):=by
  simp only[List.getElem?_toArray]
  cases ho:l[j]? with
  |some o=>rw[Da hπ ho];rfl
  |none=>
   have hj:l.length<=j:=List.getElem?_eq_none_iff.1 ho;obtain⟨h1,_,_,_,h5⟩:=pE hπ;rw[h5 j hj,List.getElem?_eq_none (by simp[B7,h1])]
 rw[this]
theorem Hg {π:List Nat} {l:List Oper} (hπ:mR π l.length=true) (tmps:Array Value) (o:Oper):Region.wanted (wY π o) (yielded (B7 π l).toArray tmps)=Region.wanted o (yielded l.toArray tmps):=by
 unfold Region.wanted wY
 cases o.guard with
 |none=>rfl
 |some g=>simp only[Option.map_some,Ev hπ]
theorem R7 {π:List Nat} {l:List Oper} (hπ:mR π l.length=true) {Q:Exit->Act->World->Prop} {j:Nat} {o:Oper} {rest:List Nat} {a:Act} (ho:l[j]? =some o)
  (h:wpOpsIn (FW r) 0 P (B7 π l).toArray (λe a w=>match e with| .normal=>wpOpsIn (FW r) 0 P l.toArray Q rest a w|e=>Q e a w) [π.idxOf j] a w):wpOpsIn (FW r) 0 P l.toArray Q (j::rest) a w:=by
 simp only[wpOpsIn,List.getElem?_toArray,ho,Da hπ ho,Hg hπ]at h ⊢
 split at h
 ·rename_i hw
  rw[if_pos hw];refine ⟨h.1,?_⟩;have h2:=h.2;rw[show Oper.semAt (FW r).round a.eval (wY π o)=Oper.semAt (FW r).round a.eval o from rfl]at h2;generalize (Oper.semAt (FW r).round a.eval o).run P w=res at h2 ⊢
  cases res with
  |ok nx w'=>
   cases nx with
   |enter f args=>exact⟨h2.1,h2.2.mono λe zj he=>by cases e<;>exact he⟩
   |round l f tmps tv body=>exact⟨h2.1,h2.2.mono λe zj he=>by cases e<;>exact he⟩
   |_=>exact h2
  |halt x w'=>cases x<;>exact h2
 ·rename_i hw
  rw[if_neg hw];exact⟨h.1,h.2⟩
theorem jT.perm {l:List Oper} {wd:World} (π:List Nat) (hπ:mR π l.length=true) (dU:fm l 0=true) (h:jT P r n (B7 π l) L ds wd K):jT P r n l L ds wd K:=by
 intro a ha;obtain⟨J,h1,h2,h3,h4⟩:=h a ha;obtain⟨p1,p2,p3,p4,_⟩:=pE hπ;have hlen:(B7 π l).length=l.length:=by simp[B7,p1]
 refine⟨λD a w=>J (λi=>∃j,π[i]? =some j/\D j) a w,λD D' a w hJ hD=>h1 _ _ _ _ hJ λi _=>⟨fun⟨j,hj,h⟩=>⟨j,hj,(hD j (p2 i j hj)).1 h⟩,fun⟨j,hj,h⟩=>⟨j,hj,(hD j (p2 i j hj)).2 h⟩⟩,λQ D a w j o rest hj ho pC hp kW hJ hk=>?_,λa w hJ=>h3 _ _ (h1 _ _ _ _ hJ λi hi=>?_),h1 _ _ _ _ h4 λi _=>⟨fun⟨j,_,h⟩=>h,False.elim⟩⟩
 ·refine R7 hπ ho (h2 _ _ _ _ _ _ _ (by rw[hlen,<-p1];exact(List.getElem?_eq_some_iff.1 (p3 j hj)).1) (Da hπ ho) ?_ ?_ ?_ hJ λa' w' hJ'=>hk _ _ (h1 _ _ _ _ hJ' λi hi=>?_))
  ·rintro⟨k,fg,fC⟩;rw[p3 j hj]at fg
   cases fg;exact pC fC
  ·intro k' qx;rw[zn,List.mem_map]at qx;obtain⟨k,fg,rfl⟩:=qx;have:=dL dU j o ho k fg;exact⟨k,p3 k hV,hp k fg⟩
  ·rintro i o' iY ⟨k,fg,fC⟩ k' qx;obtain⟨k2,ok,h5,h6,rfl⟩:=R6 hπ iY;rw[h5]at fg;cases fg;rw[zn,List.mem_map]at qx;obtain⟨q,Wj,rfl⟩:=qx;have:=dL dU k ok h6 q Wj;have:=p2 i k h5;exact⟨q,p3 q hV,kW k ok h6 fC q Wj⟩
  ·constructor
   ·rintro⟨k,fg,h|h⟩
    ·subst h;exact .inl (p4 i k fg).symm
    ·exact .inr ⟨k,fg,h⟩
   ·rintro(h|⟨k,fg,h⟩)
    ·subst h;exact⟨j,p3 j hj,.inl G⟩
    ·exact⟨k,fg,.inr h⟩
 ·rw[hlen]at hi;have hp:π[i]? =some (π[i]' hV):=List.getElem?_eq_getElem _;exact⟨λ_=>⟨_,hp,p2 i _ hp⟩,λ_=>by omega⟩
theorem T.UB {id:Nat} {l l':List Oper} (π:List Nat) (m:Nat) (fl:List Nat) (c:Nat) (N:aP) (hm:P.follows .mixedOrders=true) (Ng:B7 π l=l') (xY:fm l 0=true) (hπ:mR π l.length=true) (ze:Nat.blt m l'.length=true) (dU:fm l' 0=true) (uu:l7 l' m=true) (Bq:mP l' m fl c=true)
  (h:∀wD,(∀M,Step M w M wD aH)->ou P r n l'.toArray (l'.take m) L ds wD (λL'=>(∀j o,j∈fl->l'[j]? =some o->db P N wD L' o)/\wV P r n l'.toArray N wD K c (l'.drop m) L' ds wD)):T P r n (.region id l.toArray true) L ds w K:=by
 subst Ng;exact jT.t hm xY λwD hD=> .perm π hπ xY (Eu m fl c N ze dU uu Bq (h wD hD))
end
def zo (P:Program) (l:Nat) (args:Array Value) (w:World) (Q:Value->World->Prop):Prop:=YieldAt (FW none) 0 P l args w (λe w'=>∃v,e= .returned v/\Q v w')
section
variable {P:Program} {r:Option Nat} {n:Nat} {L:Sl} {ds:List Deferred} {w:World} {K:Kt} {ops:Array Oper} {rest:List Oper} {d:Nat} {ty:TypeId} {pos:String} {af:Array Edge}
theorem Rg.yield {x:Operand} {l:Nat} {xs:List Operand} {vs:List Value} {Ko:Array TypeId} {Q:Value->World->Prop} (hx:ev L x=some (.func (.yield l) #[] #[]))
  (ot:RS L xs=some vs) (hd:Nat.blt d n=true) (hs:zo P l vs.toArray w Q) (k:∀v w',Q v w'→Rg P r n ops rest ((d,v)::L) ds w' K):
  Rg P r n ops ({dst:=some d,op:= .call {callee:= .value x,args:=xs.toArray,argTypes:=Ko},type:=ty,pos,after:=af,guard:=none}::rest) L ds w K:=by
 refine ⟨λa ha=>wpListIn_plain G λK' RQ=>Jd a07 ?_⟩;obtain⟨fn,tmps,tv,body,hy,hr⟩:=hs
 have jg:(execOp a.eval {dst:=some d,op:= .call {callee:= .value x,args:=xs.toArray,argTypes:=Ko},type:=ty,pos,after:=af,guard:=none}).run P w= .ok (.round l fn tmps tv body) w:=by
  have h1:=rQ (ρ:=a.eval) (λx u hx=>ha.eval hx) ot;simp only[execOp,resolve,List.map_toArray,h1,ha.eval hx];simpa[Deferred.ofValue,invoke]using hy
 rw[jg,Oper.uponIn_round];refine ⟨λh=>by simp[FW,Fence.wide]at h,?_⟩;have hr':RoundIn (FW r) (0-1) P l fn tmps tv body w (λe w'=>∃v,e= .returned v/\Q v w'):=hr;refine hr'.mono ?_;rintro e w' ⟨v,rfl,hv⟩;exact RQ _ _ ((k v w' hv).run _ (ha.put (by simpa[Nat.blt_eq]using hd) v))
end
def tD (fn:FuncId) (tm:Array Value) (ps:Array Tmp) (tv body:Code) (D:Nat) (st:LoopState) (pe:Option Code):Loop:={state:=st,pending:=pe,fn:=fn,tmps:=tm,params:=ps,assign:=tv,body:=body,defers:=D}
structure Tm (n:Nat) (tm:Array Value) (L:Sl):Prop where
 size:n<=tm.size
 at_:∀t v,lk L t=some v->tm[t]? =some v
def KA:List Tmp->List Value->Sl->Sl
 |p::ps,v::vs,L=>KA ps vs ((p,v)::L)
 |_,_,L=>L
theorem B8 {n:Nat}:∀(ps:List Tmp) (vs:List Value) (tm:Array Value) (L:Sl),Tm n tm L->(∀p∈ps,p<n)->jf n {tmps:=(ps.zip vs).foldl (λtmps (t,a)=>tmps.setIfInBounds t a) tm,defers:=[]} (KA ps vs L) []
 |[],vs,tm,L,h,_=>⟨by simpa using h.size,rfl,by simpa[KA]using h.at_⟩
 |p::ps,[],tm,L,h,_=>⟨by simpa using h.size,rfl,by simpa[KA]using h.at_⟩
 |p::ps,v::vs,tm,L,h,hp=>by
  have h0:jf n {tmps:=tm,defers:=[]} L []:=⟨h.size,rfl,h.at_⟩;have h1:=h0.put (hp p (List.mem_cons_self ..)) v;exact B8 ps vs (tm.setIfInBounds p v) ((p,v)::L) ⟨by simpa using h.size,h1.at_⟩ (λq hq=>hp q (List.mem_cons_of_mem _ hq))
def Wm (l:Nat) (rec:LoopState->Option Code->Loop) (Q:Value->World->Prop):Kt
 |.normal,_,_,w=>w.heap[l]? =some (.loop (rec .busy none))/\Q (.bool true) (w.putObj l (.loop (rec .ready none)))
 |.ret,_,_,w=>w.heap[l]? =some (.loop (rec .busy none))/\Q (.bool false) (w.putObj l (.loop (rec .done (some .ret))))
 |.exit id,_,_,w=>w.heap[l]? =some (.loop (rec .busy none))/\Q (.bool false) (w.putObj l (.loop (rec .done (some (.exit id)))))
 |.goto id,_,_,w=>w.heap[l]? =some (.loop (rec .busy none))/\Q (.bool false) (w.putObj l (.loop (rec .done (some (.goto id)))))
 |_,_,_,_=>False
@[reducible] def aaI (P:Program) (l n:Nat) (rec:LoopState->Option Code->Loop) (body:Code) (Q:Value->World->Prop):Kt:=λe L ds w=>
 e= .normal/\w.heap[l]? =some (.loop (rec .ready none))/\T P (some l) n body L ds (w.putObj l (.loop (rec .busy none))) (Wm l rec Q)
theorem Nh {P:Program} {n l D:Nat} {fn:FuncId} {tm:Array Value} {ps:List Tmp} {tv body:Code} {vs:List Value} {L:Sl} {w:World} {Q:Value->World->Prop}
  (hl:w.heap[l]? =some (.loop (tD fn tm ps.toArray tv body D .ready none))) (R8:Tm n tm L) (hlen:vs.length=ps.length) (tu:∀p∈ps,p<n)
  (h:T P (some l) n tv (KA ps vs L) [] w (aaI P l n (tD fn tm ps.toArray tv body D) body Q)):zo P l vs.toArray w Q:=by
 have hy:=run_yield (P:=P) (args:=vs.toArray) hl (by simp[tD,hlen]);refine ⟨_,_,_,_,hy,roundIn_of_wpIn trivial ?_⟩
 have hz:((tD fn tm ps.toArray tv body D .ready none).params.zip vs.toArray).foldl (λtmps (t,a)=>tmps.setIfInBounds t a) (tD fn tm ps.toArray tv body D .ready none).tmps=(ps.zip vs).foldl (λtmps (t,a)=>tmps.setIfInBounds t a) tm:=by
  simp[tD,<-Array.foldl_toList]
 rw[hz];refine wpIn_mono (h.run _ (B8 ps vs tm L R8 tu)) ?_;rintro e a w1 ⟨L1,ds1,Ni,rfl,hl1,hb⟩;refine ⟨_,run_beginRound hl1 G,wpIn_mono (hb.run a Ni) ?_⟩;rintro e a2 w2 ⟨L2,ds2,Ef,hK⟩
 cases e with
 |normal=>exact⟨_,_,run_endRound none hK.1,_,rfl,hK.2⟩
 |ret=>exact⟨_,_,run_endRound (some .ret) hK.1,_,rfl,hK.2⟩
 |exit id=>exact⟨_,_,run_endRound (some (.exit id)) hK.1,_,rfl,hK.2⟩
 |goto id=>exact⟨_,_,run_endRound (some (.goto id)) hK.1,_,rfl,hK.2⟩
 |panic c=>exact hK.elim
 |outgrown=>exact hK.elim
def UC (n D:Nat) (ps:Array Tmp) (tv body:Code) (L:Sl) (rec:LoopState->Option Code->Loop):Prop:=∃fn tm,Tm n tm L/\rec=tD fn tm ps tv body D
theorem rR {P:Program} {n l D:Nat} {ps:List Tmp} {tv body:Code} {vs:List Value} {L:Sl} {w:World} {Q:Value->World->Prop} {rec:LoopState->Option Code->Loop} (uG:UC n D ps.toArray tv body L rec)
  (hl:w.heap[l]? =some (.loop (rec .ready none))) (hlen:vs.length=ps.length) (tu:∀p∈ps,p<n)
  (h:T P (some l) n tv (KA ps vs L) [] w (aaI P l n rec body Q)):zo P l vs.toArray w Q:=by
 obtain⟨fn,tm,R8,rfl⟩:=uG;exact Nh hl R8 hlen tu h
def mark (D:Nat):Deferred:={target:= .collected D,args:= #[]}
theorem T.Wn {P:Program} {n:Nat} {L:Sl} {ds:List Deferred} {w:World} {K:Kt} {g:Operand} {ps:Array Tmp} {tv body:Code} {gf:FuncId} {lb:Array Value} (hg:ev L g=some (.func (.func gf) #[] lb)) (he:Enters P gf)
  (h:∀fn tm,Tm n tm L->Spec P gf (#[.func (.yield (w.heap.size+1)) #[] #[]]++lb)
   ((w.alloc (.deferred (some []))).alloc (.loop (tD fn tm ps tv body w.heap.size .ready none))) (λ_ w3=>
    (w3.heap[w.heap.size+1]? =some (.loop (tD fn tm ps tv body w.heap.size .ready none))/\K .normal L (mark w.heap.size::ds) (w3.putObj (w.heap.size+1) (.loop (tD fn tm ps tv body w.heap.size .exhausted none))))\/
    ∃c,w3.heap[w.heap.size+1]? =some (.loop (tD fn tm ps tv body w.heap.size .done (some c)))/\T P none n c L (mark w.heap.size::ds) (w3.putObj (w.heap.size+1) (.loop (tD fn tm ps tv body w.heap.size .exhausted (some c)))) K)):
  T P none n (.rangeFunc g ps tv body) L ds w K:=by
 refine ⟨λa ha=>wpIn_rangeFunc λfn hfn=> ?_⟩;have hs:=h fn a.tmps ⟨ha.size,ha.at_⟩;have si:jf n {a with defers:=[mark w.heap.size]++a.defers} L (mark w.heap.size::ds):=⟨ha.size,by simp[ha.defers],ha.at_⟩
 let W1:World:=(w.alloc (.deferred (some []))).alloc (.loop (tD fn a.tmps ps tv body w.heap.size .ready none))
 refine⟨w.heap.size+1,[mark w.heap.size],W1,{target:= .fn (.func gf) lb,args:= #[.func (.yield (w.heap.size+1)) #[] #[]]},W1,gf,#[.func (.yield (w.heap.size+1)) #[] #[]]++lb,W1,run_enterLoop_outer _ _ _ _ _,?_,?_,?_,?_,?_⟩
 ·simp only[resolve,ha.eval hg];simp[go_sem]
 ·exact λ_ _=>trivial
 ·simpa[invoke,go_sem]using he (#[.func (.yield (w.heap.size+1)) #[] #[]]++lb) _
 ·exact λh=>by simp[FW,Fence.wide]at h
 ·refine (callsIn_wide.2 hs).mono ?_;rintro e w3 ⟨v,rfl,⟨hl,hk⟩|⟨c,hl,hk⟩⟩
  ·exact⟨none,_,run_endLoop hl (by simp[tD]),_,_,si,hk⟩
  ·exact⟨some c,_,run_endLoop hl (by simp[tD]),hk.run _ si⟩
theorem T.range {P:Program} {n:Nat} {L:Sl} {ds:List Deferred} {w:World} {K:Kt} {g:Operand} {ps:Array Tmp} {tv body:Code} {gf:FuncId} {lb:Array Value} (hg:ev L g=some (.func (.func gf) #[] lb)) (he:Enters P gf)
  (h:∀rec,UC n w.heap.size ps tv body L rec->Spec P gf (#[.func (.yield (w.heap.size+1)) #[] #[]]++lb)
   ((w.alloc (.deferred (some []))).alloc (.loop (rec .ready none))) (λ_ w3=>
    (w3.heap[w.heap.size+1]? =some (.loop (rec .ready none))/\K .normal L (mark w.heap.size::ds) (w3.putObj (w.heap.size+1) (.loop (rec .exhausted none))))\/
    ∃c,w3.heap[w.heap.size+1]? =some (.loop (rec .done (some c)))/\T P none n c L (mark w.heap.size::ds) (w3.putObj (w.heap.size+1) (.loop (rec .exhausted (some c)))) K)):
  T P none n (.rangeFunc g ps tv body) L ds w K:= .Wn hg he λfn tm R8=>h _ ⟨fn,tm,R8,rfl⟩
def Marks (P:Program):List Deferred->World->World->Prop
 |[],w,w'=>w'=w
 |d::ds,w,w'=>∃r w1,d.target= .collected r/\(Instr.takeDeferred r).run P w= .ok [] w1/\Marks P ds w1 w'
def Ji (P:Program) (fn:Func) (Q:Value->World->Prop):Kt
 |.normal,L,ds,w| .ret,L,ds,w=>∃w',Marks P ds w w'∧∀a:Act,(∀t v,lk L t=some v->a.tmps[t]? =some v)->∃v,(results fn a.tmps).run P w'= .ok v w'∧Q v w'
 |_,_,_,_=>False
theorem uH {P:Program} {fn:Func} {tmps:Array Value} {R:Ending->World->Prop} {w':World}:∀(ds:List Deferred) (w:World),Marks P ds w w'→(∃v,(results fn tmps).run P w'= .ok v w'∧R (.returned v) w')->LeavesInM (FW none) 0 P fn tmps R ds .returning w
 |[],w,h,hr=>by cases h;exact hr
 |d::ds,w,⟨r,w1,h1,h2,h3⟩,hr=>⟨by simp,.inl ⟨r,w1,h1,h2,uH ds w1 h3 hr⟩⟩
theorem uI {P:Program} {f:FuncId} {fn:Func} {c:Code} {args:List Value} {w:World} {Q:Value->World->Prop} (hf:P.funcs[f]? =some fn) (hb:fn.body=some c) {n:Nat} (hn:fn.ntmps=n)
  (h:T P none n c (wM 0 args) [] w (Ji P fn Q)):Spec P f args.toArray w Q:=by
 refine(callsIn_wide (n:=0)).1 (callsIn_of_wp_marks (F:=FW none) hf hb trivial ?_);refine wpIn_mono (h.run _ ⟨?_,G,?_⟩) ?_
 ·simp[hn];omega
 ·intro t v ht;obtain⟨_,h2⟩:=B1 args 0 t v ht;simp only[Nat.sub_zero]at h2;have eU:t<args.length:=(List.getElem?_eq_some_iff.1 h2).1;simp only;rw[Array.getElem?_append_left (by simpa using eU)];simpa using h2
 ·rintro e a w' ⟨L,ds,ha,hK⟩
  have go:(∃zj,Marks P ds w' zj/\∀a:Act,(∀t v,lk L t=some v->a.tmps[t]? =some v)->∃v,(results fn a.tmps).run P zj= .ok v zj/\Q v zj)->LeavesInM (FW none) 0 P fn a.tmps (λe w'=>∃v,e= .returned v/\Q v w') a.defers .returning w':=by
   rintro⟨zj,h1,h2⟩;obtain⟨v,h3,h4⟩:=h2 a ha.at_;rw[ha.defers];exact uH ds w' h1 ⟨v,h3,v,G,h4⟩
  cases e with
  |normal=>exact go hK
  |ret=>exact go hK
  |exit id=>exact hK.elim
  |goto id=>exact hK.elim
  |panic c=>exact hK.elim
  |outgrown=>exact hK.elim
theorem B9 {P:Program} {D:Nat} {w:World} (h:w.heap[D]? =some (.deferred (some []))):Marks P [mark D] w (w.putObj D (.deferred none)):=⟨D,_,rfl,run_takeDeferred h,rfl⟩
section
variable {P:Program} {fn:Func} {L:Sl} {w:World} {Q:Value->World->Prop}
theorem kM (hr:fn.results= #[]) (h:Q (.tuple #[]) w):yu P fn Q .normal L [] w:=⟨rfl,λa ha=>⟨_,by simp[results,hr],h⟩⟩
theorem Hh {t D:Nat} {v:Value} (hr:fn.results= #[.tmp t]) (hv:lk L t=some v) (hD:w.heap[D]? =some (.deferred (some []))) (h:Q v (w.putObj D (.deferred none))):
  Ji P fn Q .ret L [mark D] w:=⟨_,B9 hD,λa ha=>⟨v,by simp[results,hr,ha t v hv],h⟩⟩
theorem Wo {t u D:Nat} {x y:Value} (hr:fn.results= #[.tmp t,.tmp u]) (hx:lk L t=some x) (hy:lk L u=some y) (hD:w.heap[D]? =some (.deferred (some []))) (h:Q (.tuple #[x,y]) (w.putObj D (.deferred none))):
  Ji P fn Q .ret L [mark D] w:=⟨_,B9 hD,λa ha=>⟨_,by simp[results,hr,ha _ _ hx,ha _ _ hy],h⟩⟩
theorem R9 {t u:Nat} {x y:Value} (hr:fn.results= #[.tmp t,.tmp u]) (hx:lk L t=some x) (hy:lk L u=some y) (h:Q (.tuple #[x,y]) w):
  Ji P fn Q .ret L [] w:=⟨w,rfl,λa ha=>⟨_,by simp[results,hr,ha _ _ hx,ha _ _ hy],h⟩⟩
end
theorem gE {M:aP} {w:World} {b:Nat} {o:Obj} (hM:M b):Step M w M (w.putObj b o) (λk=>k=b):=
 ⟨λh k hk=>by simpa[World.putObj]using h k hk,rfl,rfl,rfl,by simp[World.putObj],λ_ _=>Iff.rfl,λk _ hn=>World.putObj_heap_other (λe=>hn e),λk hk=>by subst hk;exact hM⟩
section
variable {P:Program} {r:Option Nat} {n:Nat} {L:Sl} {ds:List Deferred} {w:World} {K:Kt} {ops:Array Oper} {rest:List Oper} {d:Nat} {ty:TypeId} {pos:String} {af:Array Edge} {x y:Operand} {α:Type} {A:RT α}
theorem dp.mS {M:aP} {v:Value} {a:α} (h:dp A M w v a):∃p,v= .pointer (some p):=by
 obtain⟨b,o,vs,h1,_⟩:=h;exact⟨_,h1⟩
theorem Rg.nilCheck {v:Value} (hx:ev L x=some v) (hv:∃p,v= .pointer (some p)) (hd:Nat.blt d n=true) (k:Rg P r n ops rest ((d,v)::L) ds w K):
  Rg P r n ops ({dst:=some d,op:= .nilCheck x,type:=ty,pos,after:=af,guard:=none}::rest) L ds w K:=by
 obtain⟨p,rfl⟩:=hv;exact .op a07 rfl rfl hd _ w (λρ h=>by simp only[execOp,h x _ hx];simp) k
theorem Rg.bZ {s:TypeId} {fs:Array Field} {fd:Field} {j size o o' b:Nat} {zv:Value} {bytes:Nat} (hu:P.underlying s=some (.struct fs)) (V4:fs[j]? =some fd) (ho:o+fd.offset=o') (hi:TI P fd.type zv size bytes) (hs:size≠0)
  (hx:ev L x=some (.pointer (some ⟨b,o,none⟩))) (hd:Nat.blt d n=true) (k:Rg P r n ops rest ((d,.pointer (some ⟨b,o',none⟩))::L) ds w K):
  Rg P r n ops ({dst:=some d,op:= .fieldAddr s x j,type:=ty,pos,after:=af,guard:=none}::rest) L ds w K:=
 .op a07 rfl rfl hd _ w (λρ h=>by
  simp only[execOp,h x _ hx];simp[Instr.fieldAt,run_underlying hu,V4,Instr.sureAddr,fieldPlace,hi.sizeOf,hs,<-ho,Addr.add_mid]) k
theorem Rg.eQ {t:TypeId} {fs:TypeDesc} {zv:Value} {bytes size b:Nat} {vs:List Value} {e:TypeId} {fr:Nat×Nat} (hu:P.underlying t=some fs) (hf:fs.isRow=true) (hi:TI P t zv size bytes) (hl:vs.length=size)
  (hx:ev L x=some (.pointer (some ⟨b,0,none⟩))) (hd:Nat.blt d n=true) (hb:w.heap[b]? =some (.cells vs.toArray e fr)) (k:Rg P r n ops rest ((d,.agg vs.toArray)::L) ds w K):
  Rg P r n ops ({dst:=some d,op:= .load t x,type:=ty,pos,after:=af,guard:=none}::rest) L ds w K:=by
 refine .op a07 G G hd (.agg vs.toArray) w (λρ h=>?_) k;simp only[execOp,h x _ hx];obtain⟨i,qQ,_,mu,_⟩:=hi.get;have hr:w.rangeAt b 0 vs:=λj v hj=>jR hb a95
 have:=run_loadAt_mid (P:=P) w b 0 t vs fs hr hu hf (by simp[qQ,mu,hl]);simp[this]
theorem rh:∀(vs:List Value) (w:World) (b o:Nat) (cs:Array Value) (e:TypeId) (fr:Nat×Nat),w.heap[b]? =some (.cells cs e fr)->
  ∃Nj:Array Value,(w.setCells b o vs).heap[b]? =some (.cells Nj e fr)/\Nj.size=cs.size/\(∀j,Nj[j]? =if o<=j/\j<o+vs.length/\j<cs.size then vs[j-o]? else cs[j]?)/\∀M:aP,M b->Step M w M (w.setCells b o vs) (λk=>k=b)
 |[],w,b,o,cs,e,fr,h=>⟨cs,by simpa[World.setCells]using h,rfl,λj=>by rw[if_neg a06],λM hM=>(Step.refl M w).eE a30 (λk hk=>by subst hk;exact hM)⟩
 |v::vs,w,b,o,cs,e,fr,h=>by
  have h1:=zg (o:=o) (v:=v) h;obtain⟨Nj,h2,h3,h4,h5⟩:=rh vs (w.setCell ⟨b,o,none⟩ v) b (o+1) _ e fr h1;refine⟨Nj,h2,by rw[h3];simp,λj=>?_,λM hM=>(uz M hM).trans (h5 M hM) λ_ _ h=>h⟩;rw[h4 j,Array.getElem?_setIfInBounds];simp only[Array.size_setIfInBounds,List.length_cons];by_cases hj:o=j
  ·subst hj;rw[if_neg hV,if_pos rfl];by_cases eU:o<cs.size
   ·rw[if_pos eU,if_pos ⟨Nat.le_refl _,by omega,eU⟩];simp
   ·rw[if_neg eU,if_neg hV,Array.getElem?_eq_none hV]
  ·rw[if_neg hj];by_cases h6:o+1<=j/\j<o+1+vs.length/\j<cs.size
   ·rw[if_pos h6,if_pos hV,show j-o=(j-(o+1))+1 from by omega];simp
   ·rw[if_neg h6,if_neg hV]
theorem Rg.dy {t:TypeId} {zv:Value} {bytes size b:Nat} {cs:Array Value} {vs:List Value} {e:TypeId} {M:aP} (hi:TI P t zv size bytes) (hl:vs.length=size) (hcs:cs.size=size) (h1:∀u∈vs,u.oneCell'=true)
  (hx:ev L x=some (.pointer (some ⟨b,0,none⟩))) (hy:ev L y=some (.agg vs.toArray)) (hb:w.heap[b]? =some (.cells cs e (0,0))) (hm:M b)
  (k:∀w',w'.heap[b]? =some (.cells vs.toArray e (0,0))->Step M w M w' (λk=>k=b)->Rg P r n ops rest L ds w' K):
  Rg P r n ops ({dst:=none,op:= .store t x y,type:=ty,pos,after:=af,guard:=none}::rest) L ds w K:=by
 obtain⟨Nj,h2,h3,h4,h5⟩:=rh vs w b 0 cs e (0,0) hb
 have agH:Nj=vs.toArray:=Array.ext_getElem? λj=>by
  rw[h4 j];by_cases hj:j<cs.size
  ·rw[if_pos hV];simp
  ·rw[if_neg hV,Array.getElem?_eq_none hV];simp;omega
 subst agH;refine .VW a07 G G (w.setCells b 0 vs) (λρ hρ=>?_) (k _ h2 (h5 M hm));simp only[execOp,hρ x _ hx,hρ y _ hy];obtain⟨i,qQ,_,mu,_⟩:=hi.get
 have:=run_storeAt_mid (P:=P) w b 0 t vs.toArray (λj hj=>by
  have hj':j<cs.size:=by simp at hj;omega
  exact⟨by rw[jR hb (v:=cs[j]) (by simp[hj'])];rfl,by simp[World.frozen?,hb]⟩) (by simp[qQ,mu,hl]) (by simpa[Array.all_eq_true_iff_forall_mem]using h1)
 simp[this]
theorem Rg.kN {t e:TypeId} {zv v:Value} {bytes:Nat} {M M1:aP} {w1:World} {a:α} {ty2:TypeId} {agJ:String} {af2:Array Edge} (hi:TI P e zv A.n bytes) (hz:zv.cells.size=A.n) (hg:A.agg=true) (hd:Nat.blt d n=true) (KB:t=e) (hdy:ev ((d,.pointer (some ⟨w.heap.size,0,none⟩))::L) y=some v)
  (hv:A.V M1 w1 a v) (hle:Le M1 w1 M w) (hm:Lt M w) (k:∀u w',dp A M w' u a->Step M w M w' aH->w.heap.size<w'.heap.size->Rg P r n ops rest ((d,u)::L) ds w' K):
  Rg P r n ops ({dst:=some d,op:= .alloc e,type:=ty,pos,after:=af,guard:=none}::{dst:=none,op:= .store t (.tmp d) y,type:=ty2,pos:=agJ,after:=af2,guard:=none}::rest) L ds w K:=by
 subst KB;obtain⟨vs,h1,rfl⟩:=hv.le hle;have hdd:lk ((d,.pointer (some ⟨w.heap.size,0,none⟩))::L) d=some (.pointer (some ⟨w.heap.size,0,none⟩)):=by simp[lk,Nat.beq_refl]
 obtain⟨i,i1,i2,i3,i4⟩:=hi.get;refine .op a07 G G hd (.pointer (some ⟨w.heap.size,0,none⟩)) (w.alloc (.cells zv.cells t)) (λρ hρ=>?_) ?_
 ·simp only[execOp];simp[Instr.alloc,zeroValue,typeInfo,i1,i2,newVar,newRow,newObj,Sem.run]
 ·have s1:=(ef M w (.cells zv.cells t)).own (Nat.le_refl _) (by simp);refine .dy (M:=ins M w.heap.size) hi (A.len h1) hz (A.one h1) hdd (by simpa[RT.val,hg]using hdy) (dC w _) (.inl G) (λw' h2 s2=>?_);have iA:=s2.size;have lF:Step M w M w' aH:=⟨λh b hb=>Nat.lt_of_lt_of_le (h b hb) (Nat.le_trans s1.size iA),s2.os.trans s1.os,s2.tape.trans s1.tape,s2.output.trans s1.output,Nat.le_trans s1.size iA,λ_ _=>Iff.rfl,λk hk _=>(s2.same k (Nat.lt_of_lt_of_le hk s1.size) (λe=>by subst e;omega)).trans (s1.same k hk λh=>h.elim),λ_ h=>h.elim⟩;refine k _ w' ⟨w.heap.size,0,vs,G,λh=>by have:=hm _ h;omega,A.le lF.le h1,λj u hj=>jR h2 a95⟩ lF (by simp at iA;omega)
def Hi (place:Nat->Option (Nat×Nat)):List Value->List (Nat×Value)->List Value->Prop
 |zs,[],out=>out=zs
 |zs,(i,v)::rest,out=>∃off vs,place i=some (off,vs.length)/\v.cells=vs.toArray/\off+vs.length<=zs.length/\Hi place (zs.take off++vs++zs.drop (off+vs.length)) rest out
theorem xZ {place:Nat->Option (Nat×Nat)}:∀(ps:List (Nat×Value)) (zs out:List Value),Hi place zs ps out->Instr.fill place zs.toArray ps=some out.toArray
 |[],zs,out,h=>by cases h;rfl
 |(i,v)::rest,zs,out,⟨off,vs,h1,h2,h3,h4⟩=>by
  rw[<-xZ rest _ out h4]
  have key:∀(l:List Value) (k:Nat) (cs:Array Value),off+k+l.length<=cs.size->((l.zipIdx k).foldl (fun(cs:Array Value) (x:Value×Nat)=>cs.setIfInBounds (off+x.2) x.1) cs).size=cs.size/\
    ∀j:Nat,((l.zipIdx k).foldl (fun(cs:Array Value) (x:Value×Nat)=>cs.setIfInBounds (off+x.2) x.1) cs)[j]? =if off+k<=j/\j<off+k+l.length then l[j-(off+k)]? else cs[j]? :=by
   intro l
   induction l with
   |nil=>
    intro k cs hk;refine ⟨G,λj=> ?_⟩;simp;intro h1 h2;omega
   |cons a l ih=>
    intro k cs hk;simp only[List.zipIdx_cons,List.foldl_cons];simp only[List.length_cons]at hk;obtain⟨h1,h2⟩:=ih (k+1) (cs.setIfInBounds (off+k) a) a06;refine ⟨by rw[h1];simp,λj=> ?_⟩;rw[h2 j,Array.getElem?_setIfInBounds,List.length_cons];by_cases h3:off+(k+1)<=j/\j<off+(k+1)+l.length
    ·rw[if_pos h3,if_pos hV,show j-(off+k)=(j-(off+(k+1)))+1 from by omega];simp
    ·rw[if_neg h3];by_cases h4:off+k=j
     ·subst h4;rw[if_pos rfl,if_pos hV,if_pos hV];simp
     ·rw[if_neg h4,if_neg hV]
  obtain⟨k1,k2⟩:=key vs 0 zs.toArray (by simpa using h3)
  conv=>lhs;rw[Instr.fill]
  simp only[h1,h2];simp[show¬(zs.length<off+vs.length) by omega];congr 1;refine Array.ext_getElem? λj=>?_
  rw[k2 j,Nat.add_zero,List.getElem?_toArray,List.getElem?_toArray];by_cases hj:j<off
  ·rw[if_neg hV,List.getElem?_append_left a06,List.getElem?_take,if_pos hj]
  ·have ht:(zs.take off).length=off:=by simp;omega
   rw[List.getElem?_append_right hV,ht];by_cases xX:j<off+vs.length
   ·rw[if_pos hV,List.getElem?_append_left hV]
   ·rw[if_neg hV,List.getElem?_append_right hV,List.getElem?_drop];congr 1;omega
def placesOf (P:Program) (t:TypeId):List (Option (Nat×Nat)):=match P.underlying t with
 |some (.struct fs)=>fs.toList.map λf=>(P.info? f.type).map λi=>(f.offset,i.size)
 |_=>[]
def Ew (L:Sl):List (Nat×Operand)->List (Nat×Value)->Prop
 |[],vs=>vs=[]
 |p::ps,vs=>∃v r,vs=(p.1,v)::r/\ev L p.2=some v/\Ew L ps r
theorem Ew.use {ρ:Operand->Value} (h:∀x v,ev L x=some v->ρ x=v):∀{ps:List (Nat×Operand)} {vs:List (Nat×Value)},Ew L ps vs->ps.map (λp=>(p.1,ρ p.2))=vs
 |[],_,hp=>by cases hp;rfl
 |p::ps,_,⟨v,r,h1,h2,h3⟩=>by rw[List.map_cons,h p.2 v h2,Ew.use h h3,h1]
theorem Rg.build {t:TypeId} {fs:Array Field} {zv:Value} {bytes size:Nat} {ps:List (Nat×Operand)} {iB:List (Nat×Value)} {out:List Value} {places:List (Nat×Nat)} (hu:P.underlying t=some (.struct fs)) (hi:TI P t zv size bytes)
  (Wp:placesOf P t=places.map some) (hd:Nat.blt d n=true)
  (ot:Ew L ps iB) (hf:Hi (λi=>places[i]?) zv.cells.toList iB out) (k:Rg P r n ops rest ((d,.agg out.toArray)::L) ds w K):
  Rg P r n ops ({dst:=some d,op:= .build t ps.toArray,type:=ty,pos,after:=af,guard:=none}::rest) L ds w K:=by
 have yN:fs.toList.map (λf=>(P.info? f.type).map λi=>(f.offset,i.size))=places.map some:=by
  unfold placesOf at Wp;rw[hu]at Wp;exact Wp
 obtain⟨i,i1,i2,i3,i4⟩:=hi.get;refine .op a07 G G hd (.agg out.toArray) w (λρ hρ=>?_) k;have hm:(Array.map (fun(i,x)=>(i,ρ x)) ps.toArray).toList=iB:=by rw[Array.toList_map];exact ot.use hρ
 have hp:∀(l:List Field) (acc:List (Nat×Nat)),l.map (λf=>(P.info? f.type).map λi=>(f.offset,i.size))=acc.map some->(l.mapM (λf=>do let s <-Go.sizeOf f.type;pure (f.offset,s):Field->Sem (Nat×Nat))).run P w= .ok acc w:=by
  intro l
  induction l with
  |nil=>intro acc h;cases acc with
   |nil=>rfl
   |cons a acc=>simp at h
  |cons f l ih=>
   intro acc h
   cases acc with
   |nil=>simp at h
   |cons a acc=>
    simp only[List.map_cons,List.cons.injEq]at h;obtain⟨h1,h2⟩:=h;have:=ih acc h2
    cases hq:P.info? f.type with
    |none=>rw[hq]at h1;simp at h1
    |some i=>
     rw[hq]at h1;simp at h1;subst h1;have hs:(Go.sizeOf f.type).run P w= .ok i.size w:=by simp[Go.sizeOf,typeInfo,program,Sem.run,hq]
     simp only[List.mapM_cons,Sem.run_bind,hs,Result.andThen_ok,Sem.run_pure,this]
 have ZU:(fs.mapM (λf=>do let s <-Go.sizeOf f.type;pure (f.offset,s):Field->Sem (Nat×Nat))).run P w= .ok places.toArray w:=by
  have h3:fs.mapM (λf=>do let s <-Go.sizeOf f.type;pure (f.offset,s):Field->Sem (Nat×Nat))=List.toArray <$> fs.toList.mapM (λf=>do let s <-Go.sizeOf f.type;pure (f.offset,s):Field->Sem (Nat×Nat)):=by
   exact Array.mapM_eq_mapM_toList
  rw[h3];simp only[map_eq_pure_bind,Sem.run_bind,hp _ _ yN,Result.andThen_ok,Sem.run_pure]
 have lU:=xZ iB _ out hf;have hz:(zeroValue t).run P w= .ok zv w:=by simp[zeroValue,typeInfo,program,Sem.run,i1,i2]
 have ZV:Instr.fill (λx=>places.toArray[x]?) zv.cells iB=some out.toArray:=by simpa using lU
 simp only[execOp,Instr.build,Sem.run_bind,hz,Result.andThen_ok,run_underlying hu,ZU,hm,ZV,Sem.run_pure]
theorem Rg.KC {t e:TypeId} {l h m:Operand} {κ κ' κ'':IntKind} {lo hi mx:Int} {hn:0<A.n} {M:aP} {w1:World} {xs:List α} {v zv:Value} {bytes:Nat} (ht:P.underlying t=some (.slice e)) (RV:TI P e zv A.n bytes)
  (hx:ev L x=some v) (hl:ev L l=some (.int κ lo)) (hh:ev L h=some (.int κ' hi)) (hm:ev L m=some (.int κ'' mx)) (hd:Nat.blt d n=true) (hv:(A.sl hn).V M w1 xs v) (hb:0<=lo/\lo<=hi/\hi=mx/\hi<=xs.length)
  (k:∀u,(A.sl hn).V M w1 ((xs.take hi.toNat).drop lo.toNat) u->Rg P r n ops rest ((d,u)::L) ds w K):
  Rg P r n ops ({dst:=some d,op:= .slice t x (some l) (some h) (some m),type:=ty,pos,after:=af,guard:=none}::rest) L ds w K:=by
 obtain⟨a,cap,rfl,hc,hlen,hs⟩:=jE.1 hv;obtain⟨h1,h2,rfl,h3⟩:=hb;have zf:((xs.take hi.toNat).drop lo.toNat).length=hi.toNat-lo.toNat:=by rw[List.length_drop,List.length_take];omega
 refine .op a07 G G hd (sliced a lo.toNat hi.toNat hi.toNat A.n) w (λρ hρ=>?_) (k _ (jE.2 ⟨_,hi.toNat-lo.toNat,?_,by omega,by omega,hs.slice lo.toNat hi.toNat cap hi.toNat hV hV hV⟩))
 ·simp only[execOp,hρ x _ hx,Option.map_some,hρ l _ hl,hρ h _ hh,hρ m _ hm];rw[Sem.run_bind,run_sliceAt_slice _ _ _ _ _ _ (lB ht),run_slice_lhm _ _ _ _ _ (lB ht) _ _ _ _ _ _ h1 h2 (Int.le_refl _) hV,uy ht,RV.sizeOf];simp
 ·rw[zf];rfl
theorem Rg.uJ {t t' e:TypeId} {a:Option Addr} {l c:Nat} (ht:P.underlying t=some (.slice e)) (hx:ev L x=some (.slice a l c)) (hy:ev L y=some (.slice none 0 0)) (hd:Nat.blt d n=true)
  (k:Rg P r n ops rest ((d,.bool (decide (a=none)))::L) ds w K):
  Rg P r n ops ({dst:=some d,op:= .binOp .eql t x y t',type:=ty,pos,after:=af,guard:=none}::rest) L ds w K:=
 .op a07 rfl rfl hd _ w (λρ h=>by
  have he:=run_equal_slice_nil (P:=P) w t e a l c ht;simp only[execOp];rw[h x _ hx,h y _ hy]
  cases a<;>simp[eqGuard,binOp,run_underlying ht]<;>simp[he]) k
theorem Rg.Nk {t t' e:TypeId} {v:Value} (ht:P.underlying t=some (.pointer e)) (hx:ev L x=some v) (hv:∃p,v= .pointer (some p)) (hy:ev L y=some (.pointer none)) (hd:Nat.blt d n=true)
  (k:Rg P r n ops rest ((d,.bool false)::L) ds w K):
  Rg P r n ops ({dst:=some d,op:= .binOp .eql t x y t',type:=ty,pos,after:=af,guard:=none}::rest) L ds w K:=by
 obtain⟨p,rfl⟩:=hv
 exact .op a07 G G hd _ w (λρ h=>by
  have hpe:P.underlying t=some (.pointer (P.pointee t)):=by simp[Program.pointee,ht]
  have he:=run_equal_pointer_nil (P:=P) w t (some p) hpe;simp only[execOp];rw[h x _ hx,h y _ hy];simp[eqGuard,binOp,run_underlying ht,he]) k
theorem Rg.sl0 {t e:TypeId} {zv:Value} {bytes size:Nat} (ht:P.underlying t=some (.slice e)) (hi:TI P e zv size bytes) (M:aP) (hd:Nat.blt d n=true)
  (k:∀a w',Step M w M w' aH->Rg P r n ops rest ((d,.slice (some a) 0 0)::L) ds w' K):
  Rg P r n ops ({dst:=some d,op:= .buildSlice t 0 #[],type:=ty,pos,after:=af,guard:=none}::rest) L ds w K:=by
 refine .op a07 G G hd (.slice (some ⟨w.heap.size,0,none⟩) 0 0) (w.alloc (.cells #[] e)) (λρ hρ=>?_) (k _ _ (ef M w _));simp only[execOp,Instr.buildSlice,Sem.run_bind,run_underlying ht,Result.andThen_ok,hi.sizeOf];simp[newRow,newObj,Sem.run,Instr.fill];have h0:Array.range 0= #[]:=by apply Array.ext<;>simp
 simp[h0]
theorem Nl {fn:Func} {Q:Value->World->Prop} {c t u s b:Nat} {vs:List Value} {fs:TypeDesc} {e:TypeId} {fr:Nat×Nat} {y z zv:Value} {size bytes:Nat} (hr:fn.results= #[.cell c t,.tmp u,.tmp s]) (hc:lk L c=some (.pointer (some ⟨b,0,none⟩))) (hu:P.underlying t=some fs) (hf:fs.isRow=true) (hi:TI P t zv size bytes) (hl:vs.length=size)
  (hb:w.heap[b]? =some (.cells vs.toArray e fr)) (hy:lk L u=some y) (hz:lk L s=some z) (h:Q (.tuple #[.agg vs.toArray,y,z]) w):yu P fn Q .ret L [] w:=
 ⟨rfl,λa ha=>⟨_,by
  obtain⟨i,qQ,_,mu,_⟩:=hi.get;have Wq:w.rangeAt b 0 vs:=λj v hj=>jR hb a95
  have:=run_loadVar_mid (P:=P) w b 0 t vs fs Wq hu hf (by simp[qQ,mu,hl]);simp[results,hr,ha _ _ hc,ha _ _ hy,ha _ _ hz,asAddr,this,Sem.run_bind],h⟩⟩
theorem Rg.oP {t e:TypeId} {zv:Value} {bytes:Nat} {hn:0<A.n} {M M2:aP} {w2:World} {a:Option Addr} {u:Value} {ys:List α} (ht:P.underlying t=some (.slice e)) (hi:TI P e zv A.n bytes) (hz:zv.cells.size=A.n)
  (hx:ev L x=some (.slice a 0 0)) (hy:ev L y=some u) (hd:Nat.blt d n=true) (hu:(A.sl hn).V M2 w2 ys u) (hle:Le M2 w2 M w) (hm:Lt M w) (hb:ys.length*bytes<=140737488355328)
  (k:∀v' w',(A.sl hn).V M w' ys v'→Step M w M w' aH->Rg P r n ops rest ((d,v')::L) ds w' K):
  Rg P r n ops ({dst:=some d,op:= .call {callee:= .builtin .append,args:= #[x,y],argTypes:= #[t,t]},type:=ty,pos,after:=af,guard:=none}::rest) L ds w K:=by
 have ZW:=dJ hu;by_cases fB:ys=[]
 ·subst fB;obtain⟨b,c,rfl,_⟩:=jE.1 hu;refine .op a07 G G hd (.slice a 0 0) w (λρ hρ=>?_) (k _ w (jE.2 ⟨a,0,rfl,Nat.le_refl _,by simp,.inl rfl⟩) bg);simp only[execOp,resolve,List.map_toArray,List.map_cons,List.map_nil,hρ x _ hx,hρ y _ hy];have:=qk (P:=P) (w:=w) (ty:=ty) ht hi a 0 0 c b (Nat.le_refl 0);simp only[List.length_nil]at this ⊢;simp[invoke,builtin,this]
 ·have hp:0<ys.length:=List.length_pos_iff.2 fB;refine .zi (xs:=[]) (a:=a) ht hi hz hx hy hd (jE.2 ⟨a,0,rfl,Nat.le_refl _,by simp,.inl rfl⟩) (λ_=>rfl) hu hle hp (by simpa using ZW) (by simpa using hb) λv' M' w' ho s=> ?_
  rw[List.nil_append]at ho;exact k v' w' (Own.close hm s ho ZW) s.back
theorem jX {M:aP} {a:α} {v:Value} (h:A.V M w a v) (hg:A.agg=false) (h1:A.n=1):v.oneCell'=true:=by
 obtain⟨vs,hR,rfl⟩:=h;have hl:=A.len hR
 match vs,hl with
 |[u],_=>simpa[RT.val,hg]using A.one hR u (by simp)
 |[],hl=>simp at hl;omega
 |_::_::_,hl=>simp at hl;omega
theorem mT {M:aP} {a:α} {v:Value} (h:A.V M w a v) (hg:A.agg=false) (h1:A.n=1):A.R M w a [v]:=by
 obtain⟨vs,hR,rfl⟩:=h;have hl:=A.len hR
 match vs,hl,hR with
 |[u],_,hR=>simpa[RT.val,hg]using hR
 |[],hl,_=>simp at hl;omega
 |_::_::_,hl,_=>simp at hl;omega
theorem fM {β:Type} {B:RT β} {M:aP} {a:α} {b:β} {u v:Value} (h:A.V M w a u) (h':B.V M w b v) (hg:A.agg=false) (h1:A.n=1) (hg':B.agg=false) (Sa:B.n=1):(A.pair B).V M w (a,b) (.agg [u,v].toArray):=
 ⟨[u,v],⟨[u],[v],rfl,mT h hg h1,mT h' hg' Sa⟩,rfl⟩
theorem Ex {x:Int}: -9223372036854775808<=IntKind.i64.wrap x/\IntKind.i64.wrap x<=9223372036854775807:=by
 rw[IntKind.wrap_i64];omega
end
def put (n:Nat):List UInt8:=if n<128 then[UInt8.ofNat n]else UInt8.ofNat (128+n%128)::put (n/128)
termination_by n
decreasing_by omega
theorem zp {n:Nat} (h:n<128):put n=[UInt8.ofNat n]:=by rw[put,if_pos h]
theorem Hj {n:Nat} (h:128<=n):put n=UInt8.ofNat (128+n%128)::put (n/128):=by rw[put,if_neg hV]
theorem Sb (n:Nat):0<(put n).length:=by rw[put];split<;>simp
theorem Sc {k:Nat}:∀{n:Nat},n<128^(k+1)->(put n).length<=k+1:=by
 induction k with
 |zero=>intro n h;rw[zp a84];simp
 |succ k ih=>
  intro n h;by_cases h1:n<128
  ·rw[zp h1];simp
  ·rw[Hj hV];have:=ih (n:=n/128) (by rw[Nat.pow_succ]at h;omega);simp;omega
theorem lI {n:Nat} (h:n<=9223372036854775807):(put n).length<=9:=Sc (k:=8) hV
def oQ:List UInt8->Nat->Nat->Option (Nat×Nat)
 |[],_,_=>none
 |c::cs,i,n=>if c.toNat<128 then(if c.toNat=0/\0<i then none else some (n+c.toNat%128*128^i,i+1))else oQ cs (i+1) (n+c.toNat%128*128^i)
def get (b:List UInt8) (at_:Int):Int×Int×Int:=
 if at_<0\/(b.length:Int)<at_ then(0,0,1)
 else match oQ ((b.drop at_.toNat).take 9) 0 0 with
  |some (n,k)=>(n,at_+k,0)
  |none=>(0,0,2)
theorem oR {bs:List UInt8} {k:Nat} {c:UInt8} (h:bs[k]? =some c) (n:Nat):oQ (bs.drop k) k n=
  if c.toNat<128 then(if c.toNat=0/\0<k then none else some (n+c.toNat%128*128^k,k+1))else oQ (bs.drop (k+1)) (k+1) (n+c.toNat%128*128^k):=by
 obtain⟨eU,he⟩:=List.getElem?_eq_some_iff.1 h;rw[List.drop_eq_getElem_cons eU,oQ,he]
theorem Wr (b:List UInt8) (i:Nat):(b.take (min b.length (i+9))).drop i=(b.drop i).take 9:=by
 rw[List.drop_take,List.take_eq_take_iff];simp;omega
def val:List UInt8->Nat
 |[]=>0
 |c::cs=>c.toNat%128+128*val cs
def gw:Int->List Int->Bool
 |_,[]=>true
 |last,x::l=>decide (last<x)&&gw x l
def l9:Int->List Int->List UInt8
 |_,[]=>[]
 |last,x::l=>put (x-last-1).toNat++l9 x l
def eV (l:List Int):List UInt8:=put l.length++l9 (-1) l
def UD:Int->List Int->List Int
 |_,[]=>[]
 |last,x::l=>let m:=if x<0 then-(x+1)else x;(last+1+m%1000)::UD (last+1+m%1000) l
def good (l:List Int) (most:Nat):List Int:=UD (-1) (l.take most)
theorem wZ {b:List UInt8} {at_:Int} (h:(get b at_).2.2=0):0<=at_/\at_<(get b at_).2.1/\(get b at_).2.1<=b.length/\0<=(get b at_).1/\(get b at_).1<9223372036854775808:=by
 unfold get at h ⊢
 split at h
 ·simp at h
 rename_i hr
 rw[if_neg hr]at*
 have key:∀(bs:List UInt8) (i n m k:Nat),oQ bs i n=some (m,k)->bs.length+i<=9->n<128^i->i<k/\k<=i+bs.length/\m<128^k:=by
  intro bs
  induction bs with
  |nil=>intro i n m k h;simp[oQ]at h
  |cons c cs ih=>
   intro i n m k h hl hn
   have hd:n+c.toNat%128*128^i<128^(i+1):=by
    have:=Nat.mul_le_mul_right (128^i) (show c.toNat%128<=127 from by omega);rw[Nat.pow_succ];omega
   simp only[oQ]at h
   split at h
   ·split at h
    ·cases h
    ·cases h;exact⟨by omega,by simp,hd⟩
   ·obtain⟨h1,h2,h3⟩:=ih (i+1) _ m k h (by simp at hl;omega) hd;exact⟨by omega,by simp;omega,h3⟩
 cases hg:oQ ((b.drop at_.toNat).take 9) 0 0 with
 |none=>simp[hg]at h
 |some p=>
  obtain⟨m,k⟩:=p;have hlen:((b.drop at_.toNat).take 9).length<=9/\((b.drop at_.toNat).take 9).length<=b.length-at_.toNat:=by rw[List.length_take,List.length_drop];omega
  obtain⟨h1,h2,h3⟩:=key _ 0 0 m k hg hV q0;have hp:128^k<=128^9:=Nat.pow_le_pow_right q0 hV;simp only;omega
def iU (b:List UInt8):Nat->Int->Int->Int×List Int×Int
 |0,at_,_=>(0,[],at_)
 |k+1,at_,last=>
  if(get b at_).2.2≠0 then((get b at_).2.2,[],0)
  else if 4611686018427387904-last-1<(get b at_).1 then(2,[],0)
  else if(iU b k (get b at_).2.1 (last+1+(get b at_).1)).1≠0 then((iU b k (get b at_).2.1 (last+1+(get b at_).1)).1,[],0)
  else(0,(last+1+(get b at_).1)::(iU b k (get b at_).2.1 (last+1+(get b at_).1)).2.1,(iU b k (get b at_).2.1 (last+1+(get b at_).1)).2.2)
def gY (b:List UInt8) (at_:Int):Int×List Int×Int:=
 if(get b at_).2.2≠0 then((get b at_).2.2,[],0)else iU b (get b at_).1.toNat (get b at_).2.1 (-1)
theorem gK {l:List Int} {k:Nat} {x:Int} (h:l[k]? =some x) (last:Int):gw last (l.drop k)=(decide (last<x)&&gw x (l.drop (k+1))):=by
 obtain⟨eU,he⟩:=List.getElem?_eq_some_iff.1 h;rw[List.drop_eq_getElem_cons eU,gw,he]
theorem KD {l:List Int} {k:Nat} {x:Int} (h:l[k]? =some x) (last:Int):l9 last (l.drop k)=put (x-last-1).toNat++l9 x (l.drop (k+1)):=by
 obtain⟨eU,he⟩:=List.getElem?_eq_some_iff.1 h;rw[List.drop_eq_getElem_cons eU,l9,he]
theorem zq:∀(l:List Int) (last:Int),-1<=last->(∀x∈l,x<=9223372036854775807)->gw last l=true->(l9 last l).length<=9*l.length
 |[],_,_,_,_=>by simp[l9]
 |x::l,last,h1,h2,h3=>by
  simp only[gw,Bool.and_eq_true,decide_eq_true_eq]at h3;have hx:=h2 x (List.mem_cons_self ..);have h4:=zq l x hV (λy hy=>h2 y (List.mem_cons_of_mem _ hy)) h3.2;have h5:=lI (n:=(x-last-1).toNat) hV;simp only[l9,List.length_append,List.length_cons];omega
theorem zr (b:List UInt8) (a last:Int):iU b 0 a last=(0,[],a):=rfl
theorem tF {b:List UInt8} {k:Nat} {a last:Int} (h:(get b a).2.2≠0):iU b (k+1) a last=((get b a).2.2,[],0):=by rw[iU,if_pos h]
theorem xc {b:List UInt8} {k:Nat} {a last:Int} (h:(get b a).2.2=0) (h2:4611686018427387904-last-1<(get b a).1):iU b (k+1) a last=(2,[],0):=by
 rw[iU,if_neg a84,if_pos h2]
theorem zt {b:List UInt8} {k:Nat} {a last:Int} (h:(get b a).2.2=0) (h2: ¬4611686018427387904-last-1<(get b a).1):iU b (k+1) a last=
  if(iU b k (get b a).2.1 (last+1+(get b a).1)).1≠0 then((iU b k (get b a).2.1 (last+1+(get b a).1)).1,[],0)
  else(0,(last+1+(get b a).1)::(iU b k (get b a).2.1 (last+1+(get b a).1)).2.1,(iU b k (get b a).2.1 (last+1+(get b a).1)).2.2):=by
 rw[iU,if_neg a84,if_neg h2]
def andThen (acc:List Int) (r:Int×List Int×Int):Int×List Int×Int:=if r.1≠0 then(r.1,[],0)else(0,acc++r.2.1,r.2.2)
theorem pF {b:List UInt8} {k:Nat} {a last:Int} (acc:List Int) (h:(get b a).2.2=0) (h2: ¬4611686018427387904-last-1<(get b a).1):
  andThen acc (iU b (k+1) a last)=andThen (acc++[last+1+(get b a).1]) (iU b k (get b a).2.1 (last+1+(get b a).1)):=by
 rw[zt h h2];unfold andThen;by_cases h3:(iU b k (get b a).2.1 (last+1+(get b a).1)).1=0<;>simp[h3]
theorem Ey (r:Int×List Int×Int) (h:r.1≠0->r.2=([],0)):andThen [] r=r:=by
 unfold andThen;by_cases h3:r.1=0
 ·rw[if_neg (by simpa using h3)];ext<;>simp[h3]
 ·rw[if_pos h3,<-h h3]
theorem KE (b:List UInt8):∀(k:Nat) (a last:Int),(iU b k a last).1≠0->(iU b k a last).2=([],0)
 |0,a,last,h=>by simp[iU]at h
 |k+1,a,last,h=>by
  rw[iU]at h ⊢
  split
  ·rfl
  ·rename_i h1;rw[if_neg h1]at h
   split
   ·rfl
   ·rename_i h2;rw[if_neg h2]at h
    split
    ·rfl
    ·rename_i h3;rw[if_neg h3]at h;simp at h
theorem pG (b:List UInt8) (a:Int):0<=(get b a).1/\0<=(get b a).2.2/\(get b a).2.2<=2/\((get b a).2.2≠0->(get b a).1=0/\(get b a).2.1=0):=by
 unfold get
 split
 ·simp
 ·split<;>simp<;>omega
theorem Ca (b:List UInt8) (a:Int):(get b a).1<=9223372036854775807:=by
 by_cases h:(get b a).2.2=0
 ·have:=wZ h;omega
 ·have:=(pG b a).2.2.2 h;omega
theorem Nn:∀(k m i acc:Nat) (post:List UInt8),m<128^(k+1)->(0<i->m≠0)->oQ ((put m++post).take (k+1)) i acc=some (acc+m*128^i,i+(put m).length):=by
 intro k
 induction k with
 |zero=>
  intro m i acc post h h0;have hm:m<128:=by simpa using h
  have e:(UInt8.ofNat m).toNat=m:=by rw[UInt8.toNat_ofNat'];omega
  rw[zp hm];simp only[List.cons_append,List.nil_append,List.take_succ_cons,oQ,e];rw[if_pos hm,if_neg hV,Nat.mod_eq_of_lt hm];rfl
 |succ k ih=>
  intro m i acc post h h0;by_cases hm:m<128
  ·have e:(UInt8.ofNat m).toNat=m:=by rw[UInt8.toNat_ofNat'];omega
   rw[zp hm];simp only[List.cons_append,List.nil_append,List.take_succ_cons,oQ,e];rw[if_pos hm,if_neg hV,Nat.mod_eq_of_lt hm];rfl
  ·have e:(UInt8.ofNat (128+m%128)).toNat=128+m%128:=by rw[UInt8.toNat_ofNat'];omega
   rw[Hj hV];simp only[List.cons_append,List.take_succ_cons,oQ,e];rw[if_neg hV,ih (m/128) (i+1) _ post (by rw[Nat.pow_succ]at h;omega) hV];have h2:(128+m%128)%128=m%128:=by omega
   rw[h2,Nat.pow_succ];congr 2
   ·have h3:m=m%128+128*(m/128):=by omega
    have h4:m*128^i=(m%128)*128^i+(m/128)*(128^i*128):=by
     conv=>lhs;rw[h3]
     rw[Nat.add_mul,Nat.mul_comm 128 (m/128),Nat.mul_assoc,Nat.mul_comm 128 (128^i)]
    omega
   ·simp;omega
theorem Db (pre post:List UInt8) {n:Nat} (hn:n<=9223372036854775807):get (pre++put n++post) pre.length=((n:Int),((pre.length+(put n).length:Nat):Int),0):=by
 unfold get;rw[if_neg a06]
 have h1:((pre++put n++post).drop (pre.length:Int).toNat).take 9=(put n++post).take (8+1):=by
  rw[Int.toNat_natCast,List.append_assoc,List.drop_left]
 rw[h1,Nn 8 n 0 0 post hV hV];simp
theorem Cb:∀(l:List Int) (pre post:List UInt8) (last:Int),-1<=last->gw last l=true->(∀x∈l,x<=4611686018427387904)->
  iU (pre++l9 last l++post) l.length pre.length last=(0,l,((pre.length+(l9 last l).length:Nat):Int))
 |[],pre,post,last,_,_,_=>by simp[l9,iU]
 |x::l,pre,post,last,h1,h2,h3=>by
  simp only[gw,Bool.and_eq_true,decide_eq_true_eq]at h2;have hx:=h3 x (List.mem_cons_self ..);have e0:pre++l9 last (x::l)++post=pre++put (x-last-1).toNat++(l9 x l++post):=by simp[l9]
  have e1:=Db pre (l9 x l++post) (n:=(x-last-1).toNat) hV;have e2:pre++put (x-last-1).toNat++(l9 x l++post)=(pre++put (x-last-1).toNat)++l9 x l++post:=by simp
  have ih:=Cb l (pre++put (x-last-1).toNat) post x hV h2.2 (λy hy=>h3 y (List.mem_cons_of_mem _ hy));rw[e0,List.length_cons,zt (by rw[e1]) (by rw[e1];simp only;omega),e1];simp only;have e3:last+1+(((x-last-1).toNat:Nat):Int)=x:=by omega
  rw[e3,e2,show((pre.length+(put (x-last-1).toNat).length:Nat):Int)=((pre++put (x-last-1).toNat).length:Int)from by simp,ih];simp[l9];omega
theorem Bz (pre post:List UInt8) {l:List Int} (hr:gw (-1) l=true) (h3:∀x∈l,x<=4611686018427387904) (hl:l.length<=9223372036854775807):
  gY (pre++eV l++post) pre.length=(0,l,((pre.length+(eV l).length:Nat):Int)):=by
 have e0:pre++eV l++post=pre++put l.length++(l9 (-1) l++post):=by simp[eV]
 have e1:=Db pre (l9 (-1) l++post) (n:=l.length) hl;have e2:pre++put l.length++(l9 (-1) l++post)=(pre++put l.length)++l9 (-1) l++post:=by simp
 unfold gY;rw[e0,e1,if_neg (by simp)];simp only;have:=Cb l (pre++put l.length) post (-1) hV hr h3;rw[e2,show((pre.length+(put l.length).length:Nat):Int)=((pre++put l.length).length:Int)from by simp,Int.toNat_natCast,this];simp[eV];omega
end Go.K
namespace Go.K
section
variable {P:Program} {r:Option Nat} {n:Nat} {L:Sl} {ds:List Deferred} {w:World} {K:Kt} {ops:Array Oper} {rest:List Oper} {d:Nat} {x:Operand} {ty:TypeId} {pos:String} {af:Array Edge}
theorem Rg.xf {t e:TypeId} {a:Option Addr} {l c:Nat} (ht:P.underlying t=some (.slice e)) (hx:ev L x=some (.slice a l c)) (hd:Nat.blt d n=true)
  (k:Rg P r n ops rest ((d,.int .i64 (l:Int))::L) ds w K):
  Rg P r n ops ({dst:=some d,op:= .call {callee:= .builtin .len,args:= #[x],argTypes:= #[t]},type:=ty,pos,after:=af,guard:=none}::rest) L ds w K:=by
 refine .op a07 G G hd _ w (λρ h=>?_) k;simp only[execOp,resolve,List.map_toArray,List.map_cons,List.map_nil,h x _ hx];simp[invoke,builtin,Builtin.len_,run_underlying ht,goInt]
end
end Go.K

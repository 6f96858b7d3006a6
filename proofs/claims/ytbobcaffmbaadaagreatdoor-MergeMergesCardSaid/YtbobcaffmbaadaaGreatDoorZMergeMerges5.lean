/- What the law 'MergeMerges' needs of walks and plain Lean, part 5: nothing is assumed beyond the texts that it imports. -/
import Derived.Ground.Names8Prog
import Derived.Ground.SlgnProg
import Derived.Ground.SlsfProg
import Derived.KernelRfl
import Derived.Lib.RowBridge
import Derived.Lib.SlicesCompact
import Derived.Shelf.Lays8
import Derived.Shelf.SlGeneric
import Derived.Shelf.SlLaysN
import Derived.Shelf.SlSortCmp.NoneTotal
import Derived.Shelf.SlicesG.CompactS
import Derived.Shelf.SortM.Plain
import Derived.Shelf.SortM.SortNone
import Derived.Shelf.Spec.SlicesGrow
import Derived.Test.YtbobcaffmbaadaaGreatDoorProg
import Derived.Test.YtbobcaffmbaadaaGreatDoorZMergeMerges1
import Derived.Test.YtbobcaffmbaadaaGreatDoorZMergeMerges2
import Derived.Test.YtbobcaffmbaadaaGreatDoorZMergeMerges3
import Derived.Test.YtbobcaffmbaadaaGreatDoorZMergeMerges4
set_option linter.unusedVariables false
set_option linter.unusedSimpArgs false
namespace Go.K
abbrev Hd:=Int×Int×Int
def hn (xs:List Hd) (i:Nat):Int:=(xs.getD i (0,0,0)).1
def swp (xs:List Hd) (i j:Nat):List Hd:=(xs.set i (xs.getD j (0,0,0))).set j (xs.getD i (0,0,0))
def sV (xs:List Hd):Prop:=∀k,0<k->k<xs.length->hn xs ((k-1)/2)<=hn xs k
theorem nR (xs:List Hd) (i j:Nat):(swp xs i j).length=xs.length:=by unfold swp;simp
theorem tY {xs:List Hd} {i j:Nat} (hi:i<xs.length) (hj:j<xs.length) (k:Nat):(swp xs i j).getD k (0,0,0)=if k=j then xs.getD i (0,0,0)else if k=i then xs.getD j (0,0,0)else xs.getD k (0,0,0):=by
 unfold swp;simp only[ax,dN,fX];by_cases h1:j=k
 ·subst h1;rw[if_pos rfl,if_pos hj,if_pos rfl];rfl
 ·rw[if_neg h1,if_neg (show¬k=j from λh=>h1 h.symm)];by_cases h2:i=k
  ·subst h2;rw[if_pos rfl,if_pos rfl,if_pos hi];rfl
  ·rw[if_neg h2,if_neg (show¬k=i from λh=>h2 h.symm)]
theorem Kq {xs:List Hd} {i j:Nat} (hi:i<xs.length) (hj:j<xs.length) (k:Nat):hn (swp xs i j) k=if k=j then hn xs i else if k=i then hn xs j else hn xs k:=by
 unfold hn;rw[tY hi hj];split
 ·rfl
 ·split<;>rfl
theorem tZ {xs:List Hd} {i j:Nat} (hi:i<xs.length) (hj:j<xs.length):(swp xs i j).Perm xs:=by
 have:=List.set_set_perm hi hj;unfold swp;rw[ax,ax,al hi,al hj];exact this
structure Ux (xs:List Hd) (j:Nat):Prop where
 a:∀k,0<k->k<xs.length->k≠j->hn xs ((k-1)/2)<=hn xs k
 b:0<j->∀k,0<k->k<xs.length->(k-1)/2=j->hn xs ((j-1)/2)<=hn xs k
theorem Ux.done {xs:List Hd} {j:Nat} (h:Ux xs j) (hd:j=0\/hn xs ((j-1)/2)<=hn xs j):sV xs:=λk h0 hk=>by
 by_cases e:k=j
 ·subst e;rcases hd with hd|hd
  ·omega
  ·exact hd
 ·exact h.a k h0 hk e
theorem Ux.push {xs:List Hd} (h:sV xs) (x:Hd):Ux (xs++[x]) xs.length:=by
 have key:∀k,k<xs.length->hn (xs++[x]) k=hn xs k:=λk hk=>by
  unfold hn;rw[ax,ax,fP hk]
 refine⟨λk h0 hk fG=>?_,λh0 k IM hk he=>?_⟩
 ·rw[aY,cb]at hk;rw[key k k3,key _ k3];exact h k h0 k3
 ·rw[aY,cb]at hk;omega
theorem Ux.swap {xs:List Hd} {j:Nat} (h:Ux xs j) (hj:j<xs.length) (h0:0<j) (hl:hn xs j<hn xs ((j-1)/2)):Ux (swp xs ((j-1)/2) j) ((j-1)/2):=by
 obtain⟨i,hi⟩:∃i,i=(j-1)/2:=⟨_,rfl⟩;rw[<-hi]at hl ⊢;have kS:i<j:=by omega
 have hs:=λk=>Kq (xs:=xs) (i:=i) (j:=j) k3 hj k
 refine⟨λk IM hk fG=>?_,λhi0 k IM hk he=>?_⟩
 ·rw[nR]at hk;rw[hs,hs];by_cases e1:k=j
  ·subst e1;rw[if_pos rfl,<-hi,if_neg k3,if_pos rfl];omega
  ·rw[if_neg e1,if_neg fG];by_cases e2:(k-1)/2=j
   ·rw[if_pos e2];have:=h.b h0 k IM hk e2;rw[<-hi]at this;exact this
   ·rw[if_neg e2];have h1:=h.a k IM hk e1;by_cases e3:(k-1)/2=i
    ·rw[if_pos e3];rw[e3]at h1;omega
    ·rw[if_neg e3];exact h1
 ·rw[nR]at hk;rw[hs,hs,if_neg k3,if_neg k3];have h2:=h.a i hi0 k3 k3;by_cases e1:k=j
  ·rw[if_pos e1];exact h2
  ·rw[if_neg e1,if_neg k3];have h1:=h.a k IM hk e1;rw[he]at h1;omega
structure O1 (xs:List Hd) (n i:Nat):Prop where
 a:∀k,0<k->k<n->(k-1)/2≠i->hn xs ((k-1)/2)<=hn xs k
 b:0<i->∀k,0<k->k<n->(k-1)/2=i->hn xs ((i-1)/2)<=hn xs k
theorem O1.leaf {xs:List Hd} {n i:Nat} (h:O1 xs n i) (hl:n<=2*i+1):∀k,0<k->k<n->hn xs ((k-1)/2)<=hn xs k:=λk h0 hk=>h.a k h0 hk k3
theorem O1.stay {xs:List Hd} {n i j:Nat} (h:O1 xs n i) (hj:j=2*i+1\/j=2*i+2) (hm:∀k,(k=2*i+1\/k=2*i+2)->k<n->hn xs j<=hn xs k) (hs:hn xs i<=hn xs j):∀k,0<k->k<n->hn xs ((k-1)/2)<=hn xs k:=λk h0 hk=>by
 by_cases e:(k-1)/2=i
 ·rw[e];have:=hm k k3 hk;omega
 ·exact h.a k h0 hk e
theorem O1.swap {xs:List Hd} {n i j:Nat} (h:O1 xs n i) (JG:n<=xs.length) (OR:j<n) (hj:j=2*i+1\/j=2*i+2) (hm:∀k,(k=2*i+1\/k=2*i+2)->k<n->hn xs j<=hn xs k) (hl:hn xs j<hn xs i):O1 (swp xs i j) n j:=by
 have hs:=λk=>Kq (xs:=xs) (i:=i) (j:=j) k3 k3 k
 refine⟨λk IM hk fG=>?_,λ_ k IM hk he=>?_⟩
 ·rw[hs,hs,if_neg fG];by_cases e1:(k-1)/2=i
  ·rw[if_pos e1];by_cases e2:k=j
   ·rw[if_pos e2];omega
   ·rw[if_neg e2,if_neg k3];exact hm k k3 hk
  ·rw[if_neg e1,if_neg k3];by_cases e2:k=i
   ·rw[if_pos e2,e2];rw[e2]at IM;exact h.b IM j k3 OR k3
   ·rw[if_neg e2];exact h.a k IM hk e1
 ·rw[hs,hs,if_neg k3,if_pos k3,if_neg k3,if_neg k3];have h1:=h.a k IM hk k3;rw[he]at h1;exact h1
theorem O1.pop {xs:List Hd} (h:sV xs) (hl:0<xs.length):O1 (swp xs 0 (xs.length-1)) (xs.length-1) 0:=by
 have hs:=λk=>Kq (xs:=xs) (i:=0) (j:=xs.length-1) hl k3 k
 refine⟨λk IM hk fG=>?_,λh0=>by omega⟩;rw[hs,hs,if_neg k3,if_neg k3,if_neg k3,if_neg k3];exact h k IM k3
theorem sV.min {xs:List Hd} (h:sV xs):∀k,k<xs.length->hn xs 0<=hn xs k
 |0,_=>zM _
 |k+1,hk=>Int.le_trans (sV.min h (k/2) k3) (by have:=h (k+1) k3 hk;rwa [Nat.add_sub_cancel]at this)
termination_by k _=>k
theorem sV.take {xs:List Hd} {n:Nat} (JG:n<=xs.length) (h:∀k,0<k->k<n->hn xs ((k-1)/2)<=hn xs k):sV (xs.take n):=λk h0 hk=>by
 rw[aU]at hk
 have key:∀t,t<n->hn (xs.take n) t=hn xs t:=λt ht=>by
  unfold hn;rw[ax,ax,cY,if_pos ht]
 rw[key _ k3,key _ k3];exact h k h0 k3
theorem abA {xs:List Hd} {x:Hd} (hx:x∈xs):∃k,k<xs.length/\xs.getD k (0,0,0)=x/\hn xs k=x.1:=by
 obtain⟨k,hk⟩:=bQ.1 hx;have h1:=(aj.1 hk).1;refine⟨k,h1,?_,?_⟩
 ·rw[ax,hk];rfl
 ·unfold hn;rw[ax,hk];rfl
theorem Wb {xs ys:List Hd} (hl:0<xs.length) (hp:ys.Perm xs) (kF:ys.getD (xs.length-1) (0,0,0)=xs.getD 0 (0,0,0)):∃x,ys.getD (xs.length-1) (0,0,0)=x/\(x::ys.take (xs.length-1)).Perm xs:=by
 refine ⟨_,G,?_⟩;have Ja:=hp.length_eq
 have h1:ys=ys.take (xs.length-1)++[ys.getD (xs.length-1) (0,0,0)]:=by
  conv=>lhs;rw[<-lj (xs.length-1) ys]
  congr 1;rw[dV k3,fR k3,ax,al k3];rfl
 have h2:(ys.getD (xs.length-1) (0,0,0)::ys.take (xs.length-1)).Perm (ys.take (xs.length-1)++[ys.getD (xs.length-1) (0,0,0)]):=(List.perm_append_comm (l₁:=[_]));rw[<-h1]at h2;exact h2.trans hp
theorem wM:∀(l:List Int) (last:Int),eT last l=true->l.Pairwise (· < ·)/\∀x∈l,last<x
 |[],_,_=>by simp
 |a::l,last,h=>by
  simp only[eT,cv,decide_eq_true_eq]at h;obtain⟨h1,h2⟩:=wM l a h.2;refine ⟨eV.2 ⟨h2,h1⟩,λx hx=> ?_⟩;rcases cR.1 hx with rfl|hx
  ·exact h.1
  ·have:=h2 x hx;omega
def Tr (ls:List (List Int)) (i k:Nat) (n:Int):Prop:=∃l,ls[i]? =some l/\l[k]? =some n
def B0 (f:Nat->Nat):Nat->Nat
 |0=>0
 |k+1=>B0 f k+f k
theorem Mm {f g:Nat->Nat}:∀{n:Nat},(∀j,j<n->f j=g j)->B0 f n=B0 g n
 |0,_=>rfl
 |n+1,h=>by unfold B0;rw[Mm (λj hj=>h j k3),h n k3]
theorem HI {f g:Nat->Nat} {i:Nat} (hi:f i=g i+1) (hj:∀j,j≠i->f j=g j):∀{n:Nat},i<n->B0 f n=B0 g n+1
 |0,h=>by omega
 |n+1,h=>by
  unfold B0;by_cases e:i=n
  ·subst e;rw[hi,Mm (λj Xk=>hj j k3)];omega
  ·rw[HI hi hj (n:=n) k3,hj n (λh=>e h.symm)];omega
def ud (ls:List (List Int)) (i:Nat):Nat:=(ls.getD i []).length
def uT (ls:List (List Int)):Nat:=B0 (ud ls) ls.length
def rem (ls:List (List Int)) (at_:Nat->Nat):Nat:=B0 (λi=>ud ls i-at_ i) ls.length
def Cz (at_:Nat->Nat) (i:Nat):Nat->Nat:=λj=>if j=i then at_ j+1 else at_ j
theorem Tr.lt {ls:List (List Int)} {i k:Nat} {n:Int} (h:Tr ls i k n):i<ls.length/\k<ud ls i:=by
 obtain⟨l,h1,h2⟩:=h;have h3:=(aj.1 h1).1;refine ⟨h3,?_⟩;unfold ud;rw[ax,h1];exact(aj.1 h2).1
theorem Tr.un {ls:List (List Int)} {i k:Nat} {n n':Int} (h:Tr ls i k n) (h':Tr ls i k n'):n=n':=by
 obtain⟨l,h1,h2⟩:=h;obtain⟨l',h3,h4⟩:=h';rw[h1]at h3;cases h3;rw[h2]at h4;cases h4;rfl
theorem Tr.ex {ls:List (List Int)} {i k:Nat} (h:k<ud ls i):∃n,Tr ls i k n:=by
 unfold ud at h;rw[ax]at h
 cases hi:ls[i]? with
 |none=>rw[hi]at h;simp at h
 |some l=>rw[hi]at h;exact⟨_,l,hi,al h⟩
def Up (ls:List (List Int)):Prop:=∀l∈ls,eT (-1) l=true
noncomputable instance (ls:List (List Int)):Decidable (Up ls):=Classical.propDecidable _
theorem Up.mono {ls:List (List Int)} (h:Up ls) {i k k':Nat} {n n':Int} (h1:Tr ls i k n) (h2:Tr ls i k' n') (hk:k<k'):n<n':=by
 obtain⟨l,a1,a2⟩:=h1;obtain⟨l',b1,b2⟩:=h2;rw[a1]at b1;cases b1;have hp:=(wM l (-1) (h l (au a1))).1;obtain⟨c1,c2⟩:=aj.1 a2;obtain⟨d1,d2⟩:=aj.1 b2;rw[<-c2,<-d2];exact(cJ.1 hp) k k' c1 d1 hk
theorem Up.nn {ls:List (List Int)} (h:Up ls) {i k:Nat} {n:Int} (h1:Tr ls i k n):0<=n:=by
 obtain⟨l,a1,a2⟩:=h1;have:=(wM l (-1) (h l (au a1))).2 n (au a2);omega
structure yP (ls:List (List Int)) (at_:Nat->Nat) (out:List Hd) (last:Int):Prop where
 a:∀o∈out,∃i k:Nat,o=(o.1,(i:Int),(k:Int))/\Tr ls i k o.1/\k<at_ i
 b:∀i k n,Tr ls i k n->k<at_ i->(n,(i:Int),(k:Int))∈out
 c:out.Pairwise λp q=>p.1<q.1
 d:∀o∈out,o.1<=last
 d2:last= -1\/∃o∈out,o.1=last
 e:∀i n,Tr ls i (at_ i) n->last<=n
 f:out.length+rem ls at_=uT ls
theorem yP.zero (ls:List (List Int)) (h:Up ls):yP ls (λ_=>0) [] (-1):=
 ⟨λ_ h=>by(cases h),λi k n _ h=>by omega,List.Pairwise.nil,λ_ h=>by(cases h),.inl rfl,λi n ht=>by have:=h.nn ht;omega,by simp[rem,uT]⟩
theorem yP.step {ls:List (List Int)} {at_:Nat->Nat} {out:List Hd} {last:Int} (hu:Up ls) (h:yP ls at_ out last) {i:Nat} {n:Int} (ht:Tr ls i (at_ i) n) (C6:∀j m,Tr ls j (at_ j) m->n<=m) (fG:n≠last):
  yP ls (Cz at_ i) (out++[(n,(i:Int),((at_ i:Nat):Int))]) n:=by
 have eK:=h.e i n ht;refine⟨λo ho=>?_,λj k m hj hk=>?_,?_,λo ho=>?_,.inr ⟨_,List.mem_append_right _ (b9.2 G),G⟩,λj m hj=>?_,?_⟩
 ·rcases cP.1 ho with ho|ho
  ·obtain⟨j,k,h1,h2,h3⟩:=h.a o ho;exact⟨j,k,h1,h2,by unfold Cz;split<;>omega⟩
  ·rw[b9]at ho;subst ho;exact⟨i,at_ i,G,ht,by unfold Cz;rw[if_pos rfl];omega⟩
 ·unfold Cz at hk;by_cases e:j=i
  ·subst e;rw[if_pos rfl]at hk;rcases cQ k (at_ j)with h1|h1
   ·exact iH _ (h.b j k m hj h1)
   ·obtain rfl:k=at_ j:=by omega
    rw[hj.un ht];exact List.mem_append_right _ (b9.2 G)
  ·rw[if_neg e]at hk;exact iH _ (h.b j k m hj hk)
 ·refine lZ.2 ⟨h.c,List.pairwise_singleton _ _,λp hp q hq=> ?_⟩;rw[b9]at hq;subst hq;have:=h.d p hp;simp only;omega
 ·rcases cP.1 ho with ho|ho
  ·have:=h.d o ho;omega
  ·rw[b9]at ho;subst ho;exact zM _
 ·unfold Cz at hj;by_cases e:j=i
  ·subst e;rw[if_pos rfl]at hj;have:=hu.mono ht hj k3;omega
  ·rw[if_neg e]at hj;exact C6 j m hj
 ·obtain⟨h1,h2⟩:=ht.lt;have h3:=h.f;have h4:rem ls at_=rem ls (Cz at_ i)+1:=HI (i:=i) (by simp only[Cz,if_true];omega) (λj hj=>by simp only[Cz,if_neg hj]) h1;rw[aY,cb];omega
def ta (ls:List (List Int)):Option (List Hd)->Prop
 |none=>∃i k i' k' n,¬(i=i'∧k=k')/\Tr ls i k n/\Tr ls i' k' n
 |some out=>(out.Pairwise λp q=>p.1<q.1)/\(∀o∈out,∃i k:Nat,o=(o.1,(i:Int),(k:Int))/\Tr ls i k o.1)/\∀i k n,Tr ls i k n->(n,(i:Int),(k:Int))∈out
theorem yP.fin {ls:List (List Int)} {at_:Nat->Nat} {out:List Hd} {last:Int} (h:yP ls at_ out last) (hn:∀i n,¬Tr ls i (at_ i) n):ta ls (some out):=by
 refine⟨h.c,λo ho=>?_,λi k n ht=>?_⟩
 ·obtain⟨i,k,h1,h2,_⟩:=h.a o ho;exact⟨i,k,h1,h2⟩
 ·refine h.b i k n ht ?_;rcases cQ k (at_ i)with h1|h1
  ·exact h1
  ·obtain⟨m,hm⟩:=Tr.ex (ls:=ls) (i:=i) (k:=at_ i) (by have:=ht.lt.2;omega);exact absurd hm (hn i m)
theorem yP.Yk {ls:List (List Int)} {at_:Nat->Nat} {out:List Hd} {last:Int} (hu:Up ls) (h:yP ls at_ out last) {i:Nat} {n:Int} (ht:Tr ls i (at_ i) n) (he:n=last):ta ls none:=by
 rcases h.d2 with h1|⟨o,ho,h1⟩
 ·have:=hu.nn ht;omega
 ·obtain⟨j,k,h2,h3,h4⟩:=h.a o ho;refine ⟨i,at_ i,j,k,n,fun⟨e1,e2⟩=>by subst e1;omega,ht,?_⟩;rw[he,<-h1];exact h3
theorem D3:∀{a b:List Hd},(a.Pairwise λp q=>p.1<q.1)->(b.Pairwise λp q=>p.1<q.1)->(∀x,x∈a↔x∈b)->a=b
 |[],[],_,_,_=>rfl
 |[],y::b,_,_,h=>by have:=(h y).2 (bZ ..);cases this
 |x::a,[],_,_,h=>by have:=(h x).1 (bZ ..);cases this
 |x::a,y::b,ha,hb,h=>by
  obtain⟨ha1,ha2⟩:=eV.1 ha;obtain⟨Ey,Lu⟩:=eV.1 hb
  have e:x=y:=by
   rcases cR.1 ((h x).1 (bZ ..))with h1|h1
   ·exact h1
   ·rcases cR.1 ((h y).2 (bZ ..))with h2|h2
    ·exact h2.symm
    ·have:=Ey x h1;have:=ha1 y h2;omega
  subst e;rw[D3 ha2 Lu (λz=>?_)];constructor
  ·intro hz;rcases cR.1 ((h z).1 (cI _ hz))with h1|h1
   ·subst h1;have:=ha1 z hz;omega
   ·exact h1
  ·intro hz;rcases cR.1 ((h z).2 (cI _ hz))with h1|h1
   ·subst h1;have:=Ey z hz;omega
   ·exact h1
theorem Kr {out:List Hd} (h:out.Pairwise λp q=>p.1<q.1) {x y:Hd} (hx:x∈out) (hy:y∈out) (he:x.1=y.1):x=y:=by
 obtain⟨i,hi⟩:=bQ.1 hx;obtain⟨j,hj⟩:=bQ.1 hy;obtain⟨i1,i2⟩:=aj.1 hi;obtain⟨j1,j2⟩:=aj.1 hj;have hp:=cJ.1 h;rcases fJ i j with h1|h1|h1
 ·have:=hp i j i1 j1 h1;rw[i2,j2]at this;omega
 ·subst h1;rw[<-i2,<-j2]
 ·have:=hp j i j1 i1 h1;rw[i2,j2]at this;omega
theorem ta.un {ls:List (List Int)}:∀{r r':Option (List Hd)},ta ls r->ta ls r'→r=r':=by
 have key:∀{out:List Hd},ta ls none->ta ls (some out)->False:=by
  rintro out ⟨i,k,i',k',n,fG,h1,h2⟩ ⟨h3,h4,h5⟩;have:=Kr h3 (h5 _ _ _ h1) (h5 _ _ _ h2) rfl;simp only[fc,true_and]at this;exact fG ⟨by omega,by omega⟩
 intro r r' h h'
 cases r with
 |none=>cases r' with
  |none=>rfl
  |some o=>exact(key h h').elim
 |some o=>cases r' with
  |none=>exact(key h' h).elim
  |some o'=>
   have half:∀{a b:List Hd},ta ls (some a)->ta ls (some b)->∀x∈a,x∈b:=λha hb x hx=>by
    obtain⟨i,k,e1,e2⟩:=ha.2.1 x hx;rw[e1];exact hb.2.2 i k _ e2
   rw[D3 h.1 h'.1 (λx=>⟨half h h' x,half h' h x⟩)]
def qy (ls:List (List Int)) (at_:Nat->Nat) (upto:Nat) (hs:List Hd):Prop:=hs.Nodup/\∀h:Hd,h∈hs↔∃(i:Nat) (n:Int),i<upto/\h=(n,(i:Int),((at_ i:Nat):Int))/\Tr ls i (at_ i) n
theorem qy.perm {ls:List (List Int)} {at_:Nat->Nat} {u:Nat} {hs sr:List Hd} (h:qy ls at_ u hs) (hp:sr.Perm hs):qy ls at_ u sr:=⟨hp.nodup_iff.2 h.1,λx=>(hp.mem_iff).trans (h.2 x)⟩
def Of (ls:List (List Int)) (i k:Nat):List Hd:=match (ls.getD i [])[k]? with
 |some n=>[(n,(i:Int),(k:Int))]
 |none=>[]
theorem Tr.iff {ls:List (List Int)} {i k:Nat} {n:Int}:Tr ls i k n↔i<ls.length/\(ls.getD i [])[k]? =some n:=by
 constructor
 ·rintro⟨l,h1,h2⟩;have h3:=(aj.1 h1).1;rw[ax,h1];exact⟨h3,h2⟩
 ·rintro⟨h1,h2⟩;rw[ax,al h1]at h2;exact⟨_,al h1,h2⟩
theorem Av {ls:List (List Int)} {i k:Nat} (hi:i<ls.length) {h:Hd}:h∈Of ls i k↔∃n,h=(n,(i:Int),(k:Int))/\Tr ls i k n:=by
 unfold Of;constructor
 ·intro hh
  split at hh
  ·rename_i n hn
   rw[b9]at hh;exact⟨n,hh,Tr.iff.2 ⟨hi,hn⟩⟩
  ·cases hh
 ·rintro⟨n,rfl,ht⟩;rw[(Tr.iff.1 ht).2];exact b9.2 G
theorem D4 (ls:List (List Int)) (i k:Nat):(Of ls i k).Nodup:=by unfold Of;split<;>simp
theorem qy.fill {ls:List (List Int)} {u:Nat} {hs sr:List Hd} (h:qy ls (λ_=>0) u hs) (hu:u<ls.length) (hp:sr.Perm (hs++Of ls u 0)):qy ls (λ_=>0) (u+1) sr:=by
 refine qy.perm (hs:=hs++Of ls u 0) ⟨?_,λx=>?_⟩ hp
 ·refine List.nodup_append.2 ⟨h.1,D4 _ _ _,λa ha b hb e=> ?_⟩;subst e;obtain⟨i,n,h1,h2,_⟩:=(h.2 a).1 ha;obtain⟨m,h3,_⟩:=(Av hu).1 hb;rw[h2]at h3;simp only[fc]at h3;omega
 ·rw[cP,h.2 x,Av hu];constructor
  ·rintro(⟨i,n,h1,h2,h3⟩|⟨n,h2,h3⟩)
   ·exact⟨i,n,by omega,h2,h3⟩
   ·exact⟨u,n,by omega,h2,h3⟩
  ·rintro⟨i,n,h1,h2,h3⟩;rcases cQ i u with h4|h4
   ·exact .inl ⟨i,n,h4,h2,h3⟩
   ·obtain rfl:i=u:=by omega
    exact .inr ⟨n,h2,h3⟩
theorem qy.next {ls:List (List Int)} {at_:Nat->Nat} {hs ys zs:List Hd} {i:Nat} {n:Int} (h:qy ls at_ ls.length hs) (hp:((n,(i:Int),((at_ i:Nat):Int))::ys).Perm hs) (hi:i<ls.length) (hz:zs.Perm (ys++Of ls i (at_ i+1))):qy ls (Cz at_ i) ls.length zs:=by
 have qL:=(hp.nodup_iff).2 h.1;obtain⟨hn1,hn2⟩:=AD.1 qL
 have fO:∀x,x∈ys↔x∈hs/\x≠(n,(i:Int),((at_ i:Nat):Int)):=λx=>by
  rw[<-hp.mem_iff,cR];constructor
  ·intro hx;exact⟨.inr hx,λe=>hn1 (e▸hx)⟩
  ·rintro⟨h1|h1,h2⟩
   ·exact absurd h1 h2
   ·exact h1
 have hx:(n,(i:Int),((at_ i:Nat):Int))∈hs:=(hp.mem_iff).1 (bZ ..);obtain⟨i',n',h1,h2,h3⟩:=(h.2 _).1 hx;simp only[fc]at h2;obtain⟨e1,e2,e3⟩:=h2;obtain rfl:i=i':=by omega
 subst e1;refine qy.perm (hs:=ys++Of ls i (at_ i+1)) ⟨?_,λx=>?_⟩ hz
 ·refine List.nodup_append.2 ⟨hn2,D4 _ _ _,λa ha b hb e=> ?_⟩;subst e;obtain⟨j,m,g1,g2,g3⟩:=(h.2 a).1 ((fO a).1 ha).1;obtain⟨m',g4,_⟩:=(Av hi).1 hb;rw[g2]at g4;simp only[fc]at g4;obtain rfl:j=i:=by omega
  omega
 ·rw[cP,fO,h.2 x,Av hi];constructor
  ·rintro(⟨⟨j,m,g1,g2,g3⟩,g4⟩|⟨m,g2,g3⟩)
   ·have XN:j≠i:=λe=>by subst e;rw[g2]at g4;exact g4 (by rw[g3.un h3])
    exact⟨j,m,g1,by rw[g2];simp only[Cz,if_neg XN],by simp only[Cz,if_neg XN];exact g3⟩
   ·exact⟨i,m,hi,by rw[g2];simp only[Cz,if_true],by simp only[Cz,if_true];exact g3⟩
  ·rintro⟨j,m,g1,g2,g3⟩;by_cases e:j=i
   ·subst e;simp only[Cz,if_true]at g2 g3;exact .inr ⟨m,g2,g3⟩
   ·simp only[Cz,if_neg e]at g2 g3;exact .inl ⟨⟨j,m,g1,g2,g3⟩,λe2=>by rw[g2]at e2;simp only[fc]at e2;omega⟩
theorem qy.zero (ls:List (List Int)):qy ls (λ_=>0) 0 []:=⟨List.nodup_nil,λx=>⟨λh=>by(cases h),fun⟨i,n,h,_⟩=>by omega⟩⟩
theorem qy.apN {ls:List (List Int)} {at_:Nat->Nat} (h:qy ls at_ ls.length []):∀i n,¬Tr ls i (at_ i) n:=λi n ht=>by
 have:=(h.2 _).2 ⟨i,n,ht.lt.1,rfl,ht⟩;cases this
theorem qy.len {ls:List (List Int)} {at_:Nat->Nat} {u:Nat} {hs:List Hd} (h:qy ls at_ u hs):hs.length<=u:=by
 have MZ:(hs.map λh=>h.2.1.toNat).Nodup:=by
  refine dr.2 (h.1.imp_of_mem λ{a b} ha hb hab e=>hab ?_);obtain⟨i,n,_,h2,h3⟩:=(h.2 a).1 ha;obtain⟨j,m,_,g2,g3⟩:=(h.2 b).1 hb;rw[h2,g2]at e;simp only[an]at e;subst e;rw[h2,g2,h3.un g3]
 have eK:∀x∈(hs.map λh=>h.2.1.toNat),x<u:=λx hx=>by
  obtain⟨y,hy,rfl⟩:=ck.1 hx;obtain⟨i,n,h1,h2,_⟩:=(h.2 y).1 hy;rw[h2];simpa using h1
 have hss:∀x∈(hs.map λh=>h.2.1.toNat),x∈List.range u:=λx hx=>List.mem_range.2 (eK x hx)
 have:=List.Nodup.length_le_of_subset MZ hss;rw[ay,List.length_range]at this;exact this
theorem jn {l:List Int} (h0:0<l.length):eT (-1) l=true↔0<=l.getD 0 0/\(∀i,i+1<l.length->l.getD i 0<=l.getD (i+1) 0)/\(∀i,i+1<l.length->l.getD i 0≠l.getD (i+1) 0):=by
 have key:∀(l:List Int) (last:Int),eT last l=true↔(∀x,l[0]? =some x->last<x)/\∀i,i+1<l.length->l.getD i 0<l.getD (i+1) 0:=by
  intro l
  induction l with
  |nil=>intro last;simp[eT]
  |cons a l ih=>
   intro last;simp only[eT,cv,decide_eq_true_eq,ih a];constructor
   ·rintro⟨h1,h2,h3⟩;refine ⟨λx hx=>by simp at hx;omega,λi hi=> ?_⟩
    cases i with
    |zero=>
     cases l with
     |nil=>simp at hi
     |cons b l=>simpa using h2 b rfl
    |succ i=>simpa using h3 i af3
   ·rintro⟨h1,h2⟩;refine⟨h1 a G,λx hx=>?_,λi hi=>?_⟩
    ·have:=h2 0 (by have:=(aj.1 hx).1;simp;omega);simp only[gV,fh,gX]at this;rw[ax,hx]at this;exact this
    ·have:=h2 (i+1) a03;simpa using this
 rw[key];constructor
 ·rintro⟨h1,h2⟩;refine⟨?_,λi hi=>Int.le_of_lt (h2 i hi),λi hi=>by have:=h2 i hi;omega⟩;have:=h1 _ (al h0);rw[ax,al h0];simp only[Option.getD_some];omega
 ·rintro⟨h1,h2,h3⟩;refine⟨λx hx=>?_,λi hi=>by have:=h2 i hi;have:=h3 i hi;omega⟩;rw[ax,hx]at h1;simp only[Option.getD_some]at h1;omega
def du (out:List Hd):List (Int×Int):=out.map Prod.snd
abbrev RT.hd:RT Hd:=RT.pair (RT.int .i64) (RT.pair (RT.int .i64) (RT.int .i64))
theorem Yl:Part RT.hd (RT.int .i64) (λh=>h.1) 0:=o7 _ _
theorem hd1:Part RT.hd (RT.int .i64) (λh=>h.2.1) 1:=(jS _ _).trans (o7 _ _)
theorem hd2:Part RT.hd (RT.int .i64) (λh=>h.2.2) 2:=(jS _ _).trans (jS _ _)
def nj (x:Int):Prop:= -9223372036854775808<=x/\x<=9223372036854775807
theorem Sz {M:aJ} {w:World} {a b c:Int} (ha:nj a) (hb:nj b) (hc:nj c):RT.hd.V M w (a,b,c) (.agg #[.int .i64 a,.int .i64 b,.int .i64 c]):=
 ⟨[.int .i64 a,.int .i64 b,.int .i64 c],⟨[.int .i64 a],[.int .i64 b,.int .i64 c],rfl,⟨rfl,ha⟩,⟨[.int .i64 b],[.int .i64 c],rfl,⟨rfl,hb⟩,⟨rfl,hc⟩⟩⟩,rfl⟩
theorem wN {M:aJ} {w:World} {a b c:Int} {v:Value} (h:RT.hd.V M w (a,b,c) v):v= .agg #[.int .i64 a,.int .i64 b,.int .i64 c]/\nj a/\nj b/\nj c:=by
 obtain⟨vs,⟨va,vb,rfl,h1,⟨vc,vd,rfl,h2,h3⟩⟩,rfl⟩:=h;have e1:=h1.1;have e2:=h2.1;have e3:=h3.1;subst e1;subst e2;subst e3;exact⟨G,h1.2,h2.2,h3.2⟩
theorem Step.ag2 {M M2 N:aJ} {w w':World} (s:Step M w M w' N) (hm:∀b,b<w.heap.size->(M2 b↔M b)) (hl:Lt M2 w'):Step M w M2 w' N:=
 ⟨λ_=>hl,s.os,s.tape,s.output,s.size,hm,s.same,s.sub⟩
theorem Own.ltM {α:Type} {A:RT α} {e:TypeId} {M:aJ} {w:World} {base:Nat} {v:Value} {xs:List α} (h:Own A e M w base v xs):xs.length<=9223372036854775807:=by
 obtain⟨⟨C,hr,_⟩,_⟩:=h;rcases hr.2 with⟨_,h2⟩|⟨g,cap,cur,h1,h2,h3,h4,h5,_⟩
 ·omega
 ·unfold maxLen at h5;omega
theorem Own.yQ {α:Type} {A:RT α} {e:TypeId} {M:aJ} {w:World} {base:Nat} {v:Value} {xs:List α} (h:Own A e M w base v xs) (hl:0<xs.length):v≠ .slice none 0 0:=λe=>by
 obtain⟨a,cap,h1,_⟩:=h.isSlice;rw[e]at h1;simp only[gG]at h1;omega
theorem Own.apart {α:Type} {A:RT α} {e Th:TypeId} {M:aJ} {w:World} {base bh:Nat} {v:Value} {xs:List α} {cs:Array Value} {fr:Nat×Nat} (h:Own A e M w base v xs) (hb:w.heap[bh]? =some (.cells cs Th fr)) (ne:Th≠e):∀k,v.ownBlock=some k->k≠bh:=λk hk he=>by
 obtain⟨⟨C,hr,_⟩,_⟩:=h;rcases hr.2 with⟨h1,_⟩|⟨g,cap,cur,h1,h2,h3,_⟩
 ·rw[h1]at hk;cases hk
 ·rw[h1]at hk;cases hk;have he:g=bh:=he;rw[he]at h3;have:=hb.symm.trans h3;simp only[eE,Obj.cells.injEq]at this;exact ne this.2.1
structure uX (Th Te:TypeId) (M:aJ) (w:World) (bh base:Nat) (v:Value) (hs:List Hd):Prop where
 h:w.heap[bh]? =some (.cells #[v] Th (0,0))
 mh:M bh
 o:Own RT.hd Te M w base v hs
 nn:v≠ .slice none 0 0
 ne:Th≠Te
section
variable {Th Te:TypeId} {M M' N:aJ} {w w':World} {bh base:Nat} {v v':Value} {hs sr:List Hd}
theorem uX.apart (h:uX Th Te M w bh base v hs):∀k,v.ownBlock=some k->k≠bh:=h.o.apart h.h h.ne
theorem uX.aE (h:uX Th Te M w bh base v hs) (s:Step M w M' w' aA):uX Th Te M' w' bh base v hs:=⟨s.aP h.h,(s.mem bh (ae h.h)).2 h.mh,h.o.aE s,h.nn,h.ne⟩
theorem uX.wrote (h:uX Th Te M w bh base v hs) (s:Step M w M w' (gy v)) (ho:Own RT.hd Te M w' base v sr):uX Th Te M w' bh base v sr:=
 ⟨s.keep h.h (λhk=>h.apart bh hk rfl),h.mh,ho,h.nn,h.ne⟩
theorem Own.val {α:Type} {A:RT α} {e:TypeId} {base:Nat} {xs:List α} (h:Own A e M w base v xs) {j:Nat} {x:α} (hx:xs[j]? =some x):∃u,A.V M w x u:=by
 obtain⟨⟨C,hr,ha⟩,_⟩:=h;obtain⟨vs,hv,_⟩:=ha.at_ j x hx;exact⟨_,vs,hv,G⟩
theorem uX.view {hn:0<RT.hd.n} (h:uX Th Te M w bh base v hs) (hl:hs.length<=140737488355328):(RT.hd.sl hn).V (λk=>M k/\¬v.ownBlock=some k) w hs v:=
 h.o.sl (λb _ hm=>⟨λh=>hm h.1,rfl⟩) (λb hb h=>h.2 hb) hl
end
def BT (w:World) (k:Nat) (T:TypeId):Prop:=∃cs fr,w.heap[k]? =some (.cells cs T fr)
theorem BT.ne {w:World} {a b:Nat} {Ta Tb:TypeId} (ha:BT w a Ta) (hb:BT w b Tb) (h:Ta≠Tb):a≠b:=λe=>by
 subst e;obtain⟨cs,fr,h1⟩:=ha;obtain⟨IF,fr',h2⟩:=hb;have:=h1.symm.trans h2;simp only[eE,Obj.cells.injEq]at this;exact h this.2.1
theorem Own.bt {α:Type} {A:RT α} {e:TypeId} {M:aJ} {w:World} {base:Nat} {v:Value} {xs:List α} (h:Own A e M w base v xs):∀k,v.ownBlock=some k->BT w k e:=λk hk=>by
 obtain⟨⟨C,hr,_⟩,_⟩:=h;rcases hr.2 with⟨h1,_⟩|⟨g,cap,cur,h1,h2,h3,_⟩
 ·rw[h1]at hk;cases hk
 ·rw[h1]at hk;cases hk;exact⟨_,_,h3⟩
def NB (Te:TypeId) (M:aJ) (w:World) (bh base:Nat):aJ:=λk=>M k/\(k=bh\/(base<=k/\BT w k Te))
theorem NB.not {Te T:TypeId} {M:aJ} {w:World} {bh base k:Nat} (hk:BT w k T) (fG:T≠Te) (hb:k≠bh): ¬NB Te M w bh base k:=λh=>h.2.elim hb λh2=>hk.ne h2.2 fG rfl
section
variable {Th Te:TypeId} {M M1 M2 M' N:aJ} {w w0 w1 w2 w':World} {bh base:Nat} {v:Value} {hs:List Hd}
theorem Step.nb (s1:Step M w0 M1 w1 (NB Te M w0 bh base)) (s2:Step M1 w1 M2 w2 (NB Te M1 w1 bh base)):Step M w0 M2 w2 (NB Te M w0 bh base):=
 s1.trans s2 λb hb h=>by
  by_cases hn:NB Te M w0 bh base b
  ·exact hn
  ·refine⟨(s1.mem b hb).1 h.1,h.2.imp id fun⟨Q9,cs,fr,hc⟩=>⟨Q9,cs,fr,?_⟩⟩;rw[<-s1.same b hb hn];exact hc
theorem Step.Ym (s:Step M w M' w' (gy v)) (h:uX Th Te M w bh base v hs):Step M w M' w' (NB Te M w bh base):=s.eL (λb hb=>⟨h.o.mut_ b hb,.inr ⟨(h.o.base b hb).1,h.o.bt b hb⟩⟩) (λ_ h=>h.1)
theorem Step.nb0 (s:Step M w M' w' aA):Step M w M' w' (NB Te M w bh base):=s.eL a42 (λ_ h=>h.1)
theorem uX.keep (h:uX Th Te M w bh base v hs) (s:Step M w M' w' N) (hb: ¬N bh) (hv:∀k,v.ownBlock=some k->¬N k):uX Th Te M' w' bh base v hs:=
 ⟨s.keep h.h hb,(s.mem bh (ae h.h)).2 h.mh,h.o.step s hv,h.nn,h.ne⟩
end
section
variable {P:Program} {r:Option Nat} {n:Nat} {L:Sl} {ds:List Deferred} {w:World} {K:Kt} {ops:Array Oper} {rest:List Oper} {d:Nat} {ty:TypeId} {pos:String} {af:Array Edge} {x y:Operand}
theorem Rg.par {t t':TypeId} {j:Nat} (hx:ev L x=some (.int .i64 ((j:Int)-1))) (hy:ev L y=some (.int .i64 2)) (hd:Nat.blt d n=true) (hj:j<=9223372036854775807)
  (k:Rg P r n ops rest ((d,.int .i64 (((j-1)/2:Nat):Int))::L) ds w K):
  Rg P r n ops ({dst:=some d,op:= .binOp .quo t x y t',type:=ty,pos,after:=af,guard:=none}::rest) L ds w K:=by
 cases j with
 |zero=>exact .bin hx hy hd (by simp[binOp,Op.intDiv];try rfl) k
 |succ j=>
  refine Rg.zT hx hy hd k3 ?_;rw[show(((j+1:Nat):Int)-1)/2=(((j+1-1)/2:Nat):Int)from by omega];exact k
end
theorem Yn {xs:List Hd} {i:Nat} {a b c:Int} (h:xs[i]? =some (a,b,c)):hn xs i=a:=by unfold hn;rw[ax,h];rfl
theorem Mo {xs:List Hd} {i j:Nat} {x y:Hd} (hx:xs[i]? =some x) (hy:xs[j]? =some y):swp xs i j=(xs.set i y).set j x:=by
 unfold swp;rw[ax,ax,hx,hy];rfl
theorem Og {xs:List Hd} {i j:Nat} {x y:Hd} (hx:xs[i]? =some x) (hy:xs[j]? =some y):(swp xs i j).set j x=swp xs i j:=by
 rw[Mo hx hy,List.set_set]
open Go.Proofs
namespace TKMul
theorem apP:Enters Tryz.prog 215:=enters Tryz.func215 rfl q0
end TKMul
open TKMul
set_option maxRecDepth 10000
theorem Ks {n:Nat} (h:n<=1073741824):IntKind.u64.wrap ((BitVec.ofInt IntKind.u64.bits (n:Int)&&&BitVec.ofInt IntKind.u64.bits 4294967295).toNat:Int)=(n:Int):=by
 have e:(BitVec.ofInt IntKind.u64.bits (n:Int)&&&BitVec.ofInt IntKind.u64.bits 4294967295).toNat=n:=by
  rw[BitVec.toNat_and,tj,tj];have h1:((4294967295:Int)%((2^IntKind.u64.bits:Nat):Int)).toNat=2^32-1:=by decide
  have h2:((n:Int)%((2^IntKind.u64.bits:Nat):Int)).toNat=n:=by
   change((n:Int)%((18446744073709551616:Nat):Int)).toNat=n;omega
  rw[h1,h2,Nat.and_two_pow_sub_one_eq_mod];omega
 rw[e];exact iF _ k3
theorem HJ {n:Nat} (h:n<=1073741824):(n:Int).fdiv (2^min (Int.toNat 32) IntKind.u64.bits)=0:=by
 show((n:Int)).fdiv 4294967296=0;rw[Int.fdiv_eq_ediv_of_nonneg _ q0];omega
theorem Oh {w0:World} {n:Nat} (hn:n<=1073741824):
  Spec Tryz.prog 215 #[.int .u64 1,.int .u64 n] w0 (λv' w'=>v'= .tuple #[.int .u64 0,.int .u64 n]/\w0=w'):=by
 refine bF (args:=[_,_]) (fn:=Tryz.f215) Tryz.func215 G (n:=51) Tryz.ntmps215 (T.aQ (aB G G (Rg.bA G G (T.aQ (ab G G (Rg.and G G G (bc (v':= .int .u64 (1)) (congrArg _ (by first|decide|exact Ks k3)) (aB G G ?_))))))));refine ad (T.aQ (ab G G (Rg.shr G G G k3 (bc (v':= .int .u64 (0:Int)) (congrArg _ aj1) (Rg.bA G G (T.aQ (ab G G (Rg.and G G G ?_))))))));refine bc (v':= .int .u64 ((n:Int))) (congrArg _ (by first|decide|exact Ks k3)) (Rg.bA G G (T.aQ (ab G G (Rg.shr G G G k3 (bc (v':= .int .u64 (0:Int)) (congrArg _ aj1) (Rg.bA G G (T.aQ ?_)))))));refine ab rfl rfl (ab rfl rfl (Rg.Nb rfl rfl rfl (bc (v':= .int .u64 ((n:Int))) (congrArg _ a98) (Rg.bA rfl rfl (T.aQ (ab rfl rfl (ab rfl rfl (Rg.Nb rfl rfl rfl (bc (v':= .int .u64 (0)) (congrArg _ a98) ?_)))))))));refine ab G G (Rg.shr G G G k3 (bc (v':= .int .u64 (0:Int)) (congrArg _ aj1) (Rg.zR rfl rfl rfl (bc (v':= .int .u64 (0)) (congrArg _ a98) (Rg.bA rfl rfl (T.aQ (ab rfl rfl (Rg.and rfl rfl rfl (bc (v':= .int .u64 (0)) (congrArg _ (by first|decide|exact Ks k3)) ?_)))))))));refine Rg.bA G G (T.aQ (ab G G (Rg.shr G G G k3 (bc (v':= .int .u64 (0:Int)) (congrArg _ aj1) (Rg.bA G G (T.aQ (ab G G ?_)))))));refine ab rfl rfl (ab rfl rfl (Rg.Nb rfl rfl rfl (bc (v':= .int .u64 (0)) (congrArg _ a98) (Rg.zR rfl rfl rfl (bc (v':= .int .u64 (0)) (congrArg _ a98) (Rg.bA rfl rfl (T.aQ (ab rfl rfl (ab rfl rfl ?_)))))))))
 refine Rg.Nb rfl rfl rfl (bc (v':= .int .u64 (0)) (congrArg _ a98) (ab rfl rfl (Rg.zR rfl rfl rfl (bc (v':= .int .u64 (0)) (congrArg _ a98) (ab rfl rfl (Rg.shr rfl rfl rfl k3 (bc (v':= .int .u64 (0:Int)) (congrArg _ aj1) (Rg.zR rfl rfl rfl (bc (v':= .int .u64 (0)) (congrArg _ a98) (Rg.bA rfl rfl ?_))))))))));refine T.aQ (ab rfl rfl (ab rfl rfl (Rg.Nb rfl rfl rfl (bc (v':= .int .u64 ((n:Int))) (congrArg _ a98) (Rg.bA rfl rfl (aT ?_))))));exact fA G G G ⟨G,G⟩
theorem Wc {w0:World} {n:Nat} (hn:n<=1073741824):
  Spec Tryz.prog 161 #[.int .u64 1,.int .u64 n] w0 (λv' w'=>v'= .tuple #[.int .u64 0,.int .u64 n]/\w0=w'):=by
 refine bF (args:=[_,_]) (fn:=Tryz.f161) Tryz.func161 G (n:=30) Tryz.ntmps161 (T.aQ (aB G G (Rg.bA G G (aI (jD G (aR (T.aQ (ab G G ?_))))))));refine ab G G ?_;refine a8 G G apP (Oh hn) (λr wc h=>?_);obtain⟨rfl,rfl⟩:=h;refine ab G G (cq G G G (cq G G G (aB G G (Rg.bA G G (T.aQ (ab G G (ab G G (aB G G (aB G G ?_)))))))));refine ad (aT ?_);exact fA G G G ⟨G,G⟩
end Go.K
namespace Go.K
open Go.Proofs
namespace TKRep11
theorem apQ:Enters Tryz.prog 161:=enters Tryz.func161 rfl q0
end TKRep11
open TKRep11
set_option maxRecDepth 10000
theorem HK (b o i:Nat):(⟨b,o,none⟩:Addr).add i=⟨b,o+i,none⟩:=by simp[Addr.add]
def filled (n k:Nat) (x:Int):List Int:=List.replicate k x++List.replicate (n-k) 0
theorem B1 {n k:Nat} {x:Int} (h:k<=n):(filled n k x).length=n:=by unfold filled;simp;omega
theorem Ku (n:Nat) (x:Int):filled n n x=List.replicate n x:=by unfold filled;simp
theorem Kv {n k j:Nat} {x:Int} (h:j<k):(filled n k x)[j]? =some x:=by unfold filled;rw[fP a69];simp[h]
theorem zF {n k m:Nat} {x:Int} (h:k+m<=n):(filled n k x).take k++List.replicate m x++(filled n k x).drop (k+m)=filled n (k+m) x:=by
 unfold filled;rw[List.take_append_of_le_length (by simp),aL (by simp),List.replicate_append_replicate,List.drop_append,gL (by simp),ew,List.drop_replicate,db];congr 2;omega
theorem Own.Yo {M:aJ} {w:World} {e:TypeId} {base g n:Nat} (h:w.heap[g]? =some (.cells (List.replicate n (.int .i64 0)).toArray e (0,0))) (hb:base<=g) (hm:M g) (hn:n<=1099511627776):Own (RT.int .i64) e M w base (.slice (some ⟨g,0,none⟩) n n) (List.replicate n 0):=by
 refine⟨⟨List.replicate n (.int .i64 0),⟨by simp[RT.int],.inr ⟨g,n,_,by simp,hb,h,by simp,by unfold maxLen;simp;omega,by simp[RT.int],by simp[RT.int]⟩⟩,?_⟩,λb hb=>by cases hb;exact hm⟩;have:=eX.Ev (M:=M) (w:=w) (κ:= .i64) (xs:=List.replicate n 0) (λx hx=>by rw[jT hx];decide);simpa using this
theorem HL {M:aJ} {w0:World} {v:Value} {x:Int} {n:Nat} (hM:Lt M w0) (hv:((RT.int .i64).sl).V M w0 [x] v) (hn:n<=1073741824):
  Spec Tryz.prog 112 #[v,.int .i64 n] w0 (λv' w'=>∃M',Own (RT.int .i64) 3 M' w' w0.heap.size v' (List.replicate n x)/\Lt M' w'∧Step M w0 M' w' aA):=by
 have hxr:=Ei hv (i:=0) rfl;obtain⟨av,aBt,rfl,hcv,_,Xc⟩:=jg.1 hv;obtain⟨bv,ov,rfl,hbv,hav⟩:=Xc.resolve_left (by simp);obtain⟨vs0,⟨apR,_⟩,hrx⟩:=hav 0 x rfl;subst apR;have hcx:w0.cell? ⟨bv,ov,none⟩=some (.int .i64 x):=by simpa using hrx 0 _ rfl
 refine bF (args:=[_,_]) (fn:=Tryz.f112) Tryz.func112 G (n:=48) Tryz.ntmps112 (T.aQ (Rg.bA G G (aI (T.aQ (ab G G (ch G G G (ad (T.zQ G k3 ?_))))))));refine aR (T.aQ (ab rfl rfl (Rg.rq ah rfl rfl (vR aq lF rfl rfl (bc (v':= .int .u64 1) (congrArg _ (by simp only[cb];decide)) (ab rfl rfl (vR aq lF rfl rfl (bc (v':= .int .u64 (n:Int)) (congrArg _ (iF _ k3)) ?_))))))));refine a8 G G apQ (Wc hn) (λr wc h=>?_);obtain⟨rfl,rfl⟩:=h;refine ab G G (cq G G G (cq G G G (aB G G (Rg.bA G G (aI (T.aQ (ab G G (iX G G G (ab G G ?_)))))))));refine Rg.Pe (g:=23) G k3 (ak G G (ab G G (ak G G (iX G G G (aM G G G (ad (T.zQ G k3 (aR (T.aQ (ab G G ?_))))))))));refine Rg.ym lF aq G G k3 ?_;refine Rg.mk0 (len:=n) M ah I3 G G G G k3 k3 (λg wg zg zg' gg sg=>?_);have ho:Own (RT.int .i64) 3 (ins M g) wg w0.heap.size (.slice (some ⟨g,0,none⟩) n n) (filled n 0 x):=by unfold filled;simpa using Own.Yo gg zg (.inl rfl) (by omega)
 clear gg;refine Rg.bA G G (T.aQ (ab G G ?_));obtain⟨k0,IM⟩:∃k0:Nat,k0=min 1 n:=⟨_,rfl⟩;refine ab G G ?_;refine Rg.Xp (M:=ins M g) (xs:=filled n 0 x) (ys:=List.replicate k0 x) (o:=0) ah I3 rfl rfl rfl ho a03 (by rw[B1 k3,db];omega) (λj a hj=>?_) (λa ha=>by rw[jT ha];exact hxr) (λw7 oK s7=>?_)
 ·have AP:=(aj.1 hj).1;rw[db]at AP;have e:a=x:=by rw[uA]at hj;split at hj<;>simp_all
  subst e;obtain rfl:j=0:=by omega
  have hc:=sg.same bv (World.block_lt_of_cell? w0 _ hcx) (λh=>h);have:wg.cell? ⟨bv,ov,none⟩=some (.int .i64 a):=by rw[World.cell?_of_block (w:=w0) hc];exact hcx
  rw[HK,Nat.add_zero];exact this
 rw[db,zF k3,fh]at oK;refine bc (v':= .int .i64 (k0:Int)) (by rw[db]) ?_;have S7:=sg.cL s7 (λb hb=>by have hb:b=g:=hb;omega);refine Rg.bA G G (aI (aS ?_));refine dg (σ:=Nat) (λs=>[(7,.slice (some ⟨g,0,none⟩) n n),(8,.int .i64 s)]) (λs w=>s<=n/\(0<n->0<s)/\Own (RT.int .i64) 3 (ins M g) w w0.heap.size (.slice (some ⟨g,0,none⟩) n n) (filled n s x)/\Step M w0 (ins M g) w aA) (λs=>n-s) k0 a38 ?_ ?_
 ·exact⟨by omega,by omega,oK,S7⟩
 ·rintro k w1 ⟨hk,aBw,ho,S⟩;refine aI (T.aQ (ab G G (ab G G (Rg.rq ah G G (ch G G G (ad ?_))))));refine bM G (λc8=>?_) (λc8=>?_)
  ·refine aR (aS ?_);apply nq 7 [0] 1 (λb=>b=g) mixed rfl rfl rfl rfl;intro Uv Yi;have Cx:=Yi (ins M g);refine ab G G (Rg.bL (ab G G (Rg.bL (ab G G (Rg.bL (Rg.PJ ah I3 G G G k3 (bc (v':= .slice (some ⟨g,k,none⟩) (n-k) (n-k)) (by rw[an,fN]) (Rg.bL (ab G G (Rg.bL (ab G G ?_)))))))))));refine Rg.bL (Rg.Zy ah I3 G G G k3 (bc (v':= .slice (some ⟨g,0,none⟩) k n) (by rw[an]) (Rg.bL (dD (⟨eQ ⟨ey,trivial⟩,?_⟩)))));have kp:=fq (λb=>b=g) Uv;refine Rg.Xp (M:=ins M g) (xs:=filled n k x) (ys:=List.replicate (min k (n-k)) x) (o:=k) ah I3 G G G (ho.aE Cx) (by simp) (by rw[B1 hk,db];omega) (λj a hj=>?_) (λa ha=>by rw[jT ha];exact hxr) (λw7 oK s7=>?_)
   ·have AP:=(aj.1 hj).1;rw[db]at AP;have e:a=x:=by rw[uA]at hj;split at hj<;>simp_all
    subst e;have:=(ho.aE Cx).cell (Kv (n:=n) (show j<k by omega));rw[HK,fh];exact this
   rw[db,zF k3]at oK;refine bc (v':= .int .i64 ((min k (n-k):Nat):Int)) (by rw[db]) ?_;refine(fun(kp:eB _ _ _)=>ad ⟨G,G,λ_=>kp,?_⟩) a00;refine bG G G G k3 (ad ⟨G,G,λh=>absurd G h,aB G G (ad ⟨G,G,λh=>absurd G h,iu ?_⟩)⟩);refine⟨G,k+min k (n-k),(.cons G (.cons (congrArg (λz=>some (Value.int .i64 z)) k3) .nil)),?_,?_⟩
   ·exact⟨by omega,by omega,oK,(S.aw (Yi _)).cL s7 (λb hb=>by have hb:b=g:=hb;omega)⟩
   ·show n-(k+min k (n-k))<n-k;omega
  ·refine cO (T.aQ (ab G G (Rg.bA G G (aT ?_))));obtain rfl:k=n:=by omega
   rw[Ku]at ho;exact aX G G ⟨_,ho,S.lt hM,S⟩
end Go.K
namespace Go.K
open Go.Proofs
namespace TKPlc11
theorem j6:TI Tryz.prog 124 (.agg #[(.int .i64 0),(.int .i64 0)]) 2 16:=by unfold TI;kernel_rfl
theorem apS:Enters Tryz.prog 112:=enters Tryz.func112 rfl q0
end TKPlc11
open TKPlc11
set_option maxRecDepth 10000
def rL (o:List Fo) (p:Fo) (r:Int):Prop:=(r= -1/\p∉o)\/∃t:Nat,r=(t:Int)/\o[t]? =some p
theorem rL.hit {o:List Fo} {p:Fo} {k:Nat} (h:o[k]? =some p):rL (o.take (k+1)) p (k:Int):= .inr ⟨k,rfl,by rw[cY,if_pos k3];exact h⟩
theorem rL.Wd {o:List Fo} {p q:Fo} {k:Nat} {r:Int} (h:o[k]? =some q) (fG:q≠p) (hr:rL (o.take k) p r):rL (o.take (k+1)) p r:=by
 obtain⟨hk,hq⟩:=aj.1 h;rw[eF hk,hq];rcases hr with⟨h1,h2⟩|⟨t,h1,h2⟩
 ·exact .inl ⟨h1,λhm=>by rcases cP.1 hm with hm|hm;exact h2 hm;rw[b9]at hm;exact fG hm.symm⟩
 ·exact .inr ⟨t,h1,by rw[fP (aj.1 h2).1];exact h2⟩
theorem rL.all {o:List Fo} {p:Fo} {r:Int} (h:rL (o.take o.length) p r):rL o p r:=by rwa [mB]at h
theorem uI {M:aJ} {w:World} {a b:Int} {v:Value} (h:RT.fo.V M w (a,b) v):v= .agg #[.int .i64 a,.int .i64 b]/\nj a/\nj b:=by
 obtain⟨vs,⟨va,vb,rfl,⟨rfl,h1⟩,⟨rfl,h2⟩⟩,rfl⟩:=h;exact⟨G,h1,h2⟩
def Plc (o:List Fo) (i:Int) (n:Nat) (xs:List Int):Prop:=xs.length=n/\∀j,j<n->rL o (i,(j:Int)) (xs.getD j 0)
theorem HM {M:aJ} {w0:World} {v:Value} {o:List Fo} {i:Int} {n:Nat} (hM:Lt M w0) (hv:((RT.fo).sl).V M w0 o v) (hn:n<=1073741824):
  Spec Tryz.prog 61 #[v,.int .i64 i,.int .i64 n] w0 (λv' w'=>∃M' xs,Plc o i n xs/\Own (RT.int .i64) 3 M' w' w0.heap.size v' xs/\Lt M' w'∧Step M w0 M' w' aA):=by
 have dR:=dZ hv;refine bF (args:=[_,_,_]) (fn:=Tryz.f61) Tryz.func61 G (n:=44) Tryz.ntmps61 (T.aQ (Rg.bA G G (T.aQ ?_)));refine dP (A:=RT.int .i64) (hn:=by decide) (M:=M) ah I3 q0 G G hM (gw q0) (.inr ⟨G,G⟩) (λu w1 hu s1=>?_);refine ab G G (Rg.max2 G G G (bc (v':= .int .i64 (n:Int)) (congrArg _ k3) ?_));refine a8 G G apS (HL (s1.lt hM) hu hn) (λrv w2 h=>?_);obtain⟨M2,wO,IK,s2⟩:=h;have S2:=s1.aw s2;replace wO:=wO.kj s1.size;refine Rg.bA G G (aI (T.aQ (ab G G (bK dz G (hv.le S2.le) G (ab G G (ad (aS ?_)))))));refine dg (σ:=Nat×List Int) (λs=>[(1,.int .i64 i),(7,rv),(14,v),(15,.int .i64 o.length),(16,.int .i64 s.1)]) (λs w=>s.1<=o.length/\Plc (o.take s.1) i n s.2/\∃M1,Lt M1 w/\Own (RT.int .i64) 3 M1 w w0.heap.size rv s.2/\Step M w0 M1 w aA) (λs=>o.length-s.1) (0,List.replicate n (-1)) a19 ?_ ?_
 ·refine⟨bC _,⟨by simp,λj hj=> .inl ⟨?_,by simp⟩⟩,M2,IK,wO,S2⟩;simp only[ax,uA];rw[if_pos hj];rfl
 ·clear wO S2 IK;rintro⟨k,xs⟩ w1 ⟨hk,⟨qb,uQ⟩,M1,mV,ho,S⟩;dsimp only at hk qb uQ ho ⊢;refine T.aQ (ch G G G (ad (aI ?_)));refine bM G (λc3=>?_) (λc3=>?_)
  ·refine aR (aI (aS (T.aQ (ab G G ?_))));obtain⟨⟨a,b⟩,hx⟩:∃x,o[k]? =some x:=⟨_,al k3⟩;refine bX dz j6 G G G (hv.le S.le) bY k3 (λu4 a4 zu IH=>?_);obtain rfl:(a,b)=a4:=dw (ar (zu.symm.trans (by rw[an];exact hx)));refine cW (A:=RT.fo) cB G j6 q0 G G G IH bY (λv4 qm=>?_);obtain⟨rfl,ra,rb⟩:=uI qm;refine eA M1 j6 G (λb4 wa za za' ga sa=>?_);refine aB G G ?_;refine ej (M:=ins M1 b4) (vs:=[.int .i64 a,.int .i64 b]) j6 G G ab1 rfl rfl ga (.inl rfl) (λws gs ss=>?_);have sS:=(sa.cL ss (λb hb=>by have hb:b=b4:=hb;rw[hb];exact za)).any M1;have ho:=ho.aE sS;have S:=S.aw sS;have mV:=sS.lt mV;refine ad (T.aQ (Ak (len:=2) cB I3 G G G k3 (aV aq G G G gs G (ab G G (sJ G G G (ab G G ?_))))));refine aW (g:=25) G (λaa2=>?_) (λaa2=>?_)
   ·refine ak G G (Ak (len:=2) cB I3 G G G k3 (ak G G (aV aq G G G gs G (ak G G (eP G G G (bm G G G (ab G G ?_)))))));refine aW (g:=30) G (λaa3=>?_) (λaa3=>?_)
    ·refine ak G G (Ak (len:=2) cB I3 G G G k3 (ak G G (aV aq G G G gs G (ak G G (ab G G (ak G G (fW ah G ho G (ak G G (ch G G G (bm G G G (ad ?_)))))))))));refine bM G (λc5=>?_) (λc5=>?_)
     ·obtain⟨g,cap,cur,rfl,W8,O2,ue⟩:=ho.tC (ho.yQ k3);refine aH (ab G G (Ak (len:=2) cB I3 G G G k3 (aV aq G G G gs G (ab G G (jG (size:=1) ah I3 G G G k3 (q:=b.toNat) k3 ?_)))));refine Rg.Je (M:=M1) I3 G G ho k3 ⟨by show(-9223372036854775808:Int)<=_;omega,by show _<=(9223372036854775807:Int);omega⟩ (λw6 th s6=>?_);refine ad (aH (bG G G G k3 (ab G G (ad ?_))));refine⟨G,(k+1,xs.set b.toNat (k:Int)),a19,?_,?_⟩
      ·refine⟨by simp only;omega,⟨by simp only[fX];exact qb,λj hj=>?_⟩,M1,s6.lt mV,th,S.cL s6 (λb hb=>by have hb:b=g:=hb;omega)⟩;simp only[ax,dN];by_cases e:b.toNat=j
       ·rw[if_pos e,if_pos k3];exact .hit (by rw[hx];congr 2<;>omega)
       ·rw[if_neg e,<-ax];exact .Wd hx (λh=>by simp only[fc]at h;omega) (uQ j hj)
      ·show o.length-(k+1)<o.length-k;omega
     ·refine aR (aH (bG G G G k3 (ab G G (ad ?_))));refine⟨G,(k+1,xs),a19,?_,?_⟩
      ·refine⟨by simp only;omega,⟨qb,λj hj=> .Wd hx (λh=>?_) (uQ j hj)⟩,M1,mV,ho,S⟩;simp only[fc]at h
       first|omega|(simp_all;done)|(simp_all;omega)
      ·show o.length-(k+1)<o.length-k;omega
    ·refine ao G G G G (ao G G G G (ao G G G G (ao G G G G (ao G G G G (aM G G G (ad (jD G (aR (aH (bG G G G k3 (ab G G ?_)))))))))));refine ad ?_;refine⟨G,(k+1,xs),a19,?_,?_⟩
     ·refine⟨by simp only;omega,⟨qb,λj hj=> .Wd hx (λh=>?_) (uQ j hj)⟩,M1,mV,ho,S⟩;simp only[fc]at h
      first|omega|(simp_all;done)|(simp_all;omega)
     ·show o.length-(k+1)<o.length-k;omega
   ·refine ao G G G G (ao G G G G (ao G G G G (aM G G G (ab G G (ao G G G G (ao G G G G (ao G G G G (ao G G G G (ao G G G G (aM G G G (ad ?_)))))))))));refine jD G (aR (aH (bG G G G k3 (ab G G (ad ?_)))));refine⟨G,(k+1,xs),a19,?_,?_⟩
    ·refine⟨by simp only;omega,⟨qb,λj hj=> .Wd hx (λh=>?_) (uQ j hj)⟩,M1,mV,ho,S⟩;simp only[fc]at h
     first|omega|(simp_all;done)|(simp_all;omega)
    ·show o.length-(k+1)<o.length-k;omega
  ·refine cO (T.aQ (ab G G (Rg.bA G G (aT ?_))));obtain rfl:k=o.length:=by omega
   exact aX G G ⟨M1,xs,⟨qb,λj hj=>(uQ j hj).all⟩,ho,mV,S⟩
end Go.K
namespace Go.K
open Go.Proofs
set_option maxRecDepth 10000
theorem SB:Up [[1,4],[2]]:=by intro l hl;simp only[cR,fC,or_false]at hl;rcases hl with rfl|rfl<;>decide
theorem Oi:ta [[1,4],[2]] (some [((1:Int),(0:Int),(0:Int)),(2,1,0),(4,0,1)]):=by
 refine⟨by decide,λo ho=>?_,λi k n ⟨l,h1,h2⟩=>?_⟩
 ·simp only[cR,fC,or_false]at ho;rcases ho with rfl|rfl|rfl
  ·exact⟨0,0,G,_,G,G⟩
  ·exact⟨1,0,G,_,G,G⟩
  ·exact⟨0,1,G,_,G,G⟩
 ·rcases i with _|_|i
  ·simp only[List.getElem?_cons_zero,eE]at h1;subst h1;rcases k with _|_|k
   ·simp at h2;subst h2;decide
   ·simp at h2;subst h2;decide
   ·simp at h2
  ·simp only[fh,List.getElem?_cons_succ,List.getElem?_cons_zero,eE]at h1;subst h1;rcases k with _|k
   ·simp at h2;subst h2;decide
   ·simp at h2
  ·simp at h1
abbrev Gs:Type:=List (List En×List Bool)
def su (g:Gs) (i d:Nat) (e:En):Prop:=∃L a,g[i]? =some (L,a)/\L[d]? =some e/\a[d]? =some true
theorem su.un {g:Gs} {i d:Nat} {e e':En} (h:su g i d e) (h':su g i d e'):e=e':=by
 obtain⟨L,a,h1,h2,_⟩:=h;obtain⟨L',a',h3,h4,_⟩:=h';rw[h1]at h3;cases h3;rw[h2]at h4;exact ar h4
def rM (L:List En) (d:Int):Int:=(L.map (·.2)).getD d.toNat 0
def im (g:Gs):List (List Int):=g.map λp=>gx p.2
def jc (g:Gs):List (List Int):=g.map λp=>(gx p.2).map (rM p.1)
def ia (g:Gs) (o:List Fo):List Fo:=o.map λp=>(p.1,((im g).getD p.1.toNat []).getD p.2.toNat 0)
def fy (g:Gs) (p:Fo):En:=(g.getD p.1.toNat ([],[])).1.getD p.2.toNat (((0:Int),[]),0)
def Kw (g:Gs):Prop:=∀p∈g,wW (-1) p.1=true/\p.2.length=p.1.length
theorem mM {l:List Bool} {d:Int}:d∈gx l↔∃k:Nat,d=k/\l[k]? =some true:=by
 unfold gx;rw[ck];constructor
 ·rintro⟨⟨b,k⟩,h,rfl⟩;obtain⟨h1,h2⟩:=kg.1 h;simp only at h2;subst h2;exact⟨k,G,List.mem_zipIdx_iff_getElem?.1 h1⟩
 ·rintro⟨k,rfl,h⟩;exact⟨(true,k),kg.2 ⟨List.mem_zipIdx_iff_getElem?.2 h,G⟩,G⟩
theorem xN (l:List Bool):(gx l).Pairwise (· < ·):=by
 unfold gx;refine dr.2 (List.Pairwise.sublist List.filter_sublist ?_);have h:=List.pairwise_lt_range' (s:=0) (n:=l.length);rw[<-List.zipIdx_map_snd 0 l]at h;exact(dr.1 h).imp λh=>by omega
structure Mg (g:Gs) (os:List Fo) (E:List En):Prop where
 at_:∀(k:Nat) (p:Fo),os[k]? =some p->∃(i d:Nat) (e:En),p=((i:Int),(d:Int))/\E[k]? =some e/\su g i d e
 len:E.length=os.length
 all:∀(i d:Nat) (e:En),su g i d e->((i:Int),(d:Int))∈os
 up:E.Pairwise λa b=>a.2<b.2
 nd:os.Nodup
theorem Aw {g:Gs} (hg:Kw g) {i k:Nat} {n:Int} (h:Tr (jc g) i k n):∃(d:Nat) (e:En),su g i d e/\((im g).getD i []).getD k 0=(d:Int)/\n=e.2/\fy g ((i:Int),(d:Int))=e/\((im g).getD i [])[k]? =some (d:Int):=by
 obtain⟨l,h1,h2⟩:=h;unfold jc at h1;rw[bj]at h1
 cases hi:g[i]? with
 |none=>rw[hi]at h1;simp at h1
 |some p=>
  rw[hi]at h1;obtain rfl:List.map (rM p.1) (gx p.2)=l:=by simpa using h1
  rw[bj]at h2
  cases hk:(gx p.2)[k]? with
  |none=>rw[hk]at h2;simp at h2
  |some d=>
   rw[hk]at h2;obtain rfl:rM p.1 d=n:=by simpa using h2
   obtain⟨m,rfl,hm⟩:=mM.1 (au hk);obtain⟨h3,h4⟩:=hg p (au hi);have tq:m<p.1.length:=by rw[<-h4];exact(aj.1 hm).1
   have We:(im g).getD i []=gx p.2:=by unfold im;rw[ax,bj,hi];rfl
   refine⟨m,p.1[m],⟨p.1,p.2,hi,al tq,hm⟩,?_,?_,?_,by rw[We];exact hk⟩
   ·rw[We,ax,hk];rfl
   ·unfold rM;rw[an,ax,bj,al tq];rfl
   ·have px:g.getD i ([],[])=p:=by rw[ax,hi];rfl
    show(g.getD (i:Int).toNat ([],[])).1.getD (m:Int).toNat _=_;rw[an,an,px,ax,al tq];rfl
theorem Yp {g:Gs} (hg:Kw g) {out:List Hd} (h:ta (jc g) (some out)):Mg g (ia g (du out)) ((ia g (du out)).map (fy g)):=by
 obtain⟨h1,h2,h3⟩:=h
 have key:∀(k:Nat) (o:Hd),out[k]? =some o->∃(i d:Nat) (e:En) (q:Nat),o=(e.2,(i:Int),(q:Int))/\(ia g (du out))[k]? =some ((i:Int),(d:Int))/\su g i d e/\fy g ((i:Int),(d:Int))=e/\((im g).getD i [])[q]? =some (d:Int):=λk o ho=>by
  obtain⟨i,q,e1,e2⟩:=h2 o (au ho);obtain⟨d,e,a1,a2,a3,a4,a5⟩:=Aw hg e2;refine⟨i,d,e,q,by rw[e1,a3],?_,a1,a4,a5⟩;unfold ia du;rw[bj,bj,ho,e1];show some (((i:Int),((im g).getD (i:Int).toNat []).getD (q:Int).toNat 0))=_;rw[an,an,a2]
 have hlen:(ia g (du out)).length=out.length:=by unfold ia du;rw[ay,ay]
 have get:∀(k:Nat) (p:Fo),(ia g (du out))[k]? =some p->∃o,out[k]? =some o:=λk p hp=>⟨_,al (by rw[<-hlen];exact(aj.1 hp).1)⟩
 have ag3:((ia g (du out)).map (fy g)).Pairwise λa b=>a.2<b.2:=by
  rw[cJ];intro a b ha hb hab;have la:a<out.length:=by rw[ay,hlen]at ha;exact ha
  have lb:b<out.length:=by rw[ay,hlen]at hb;exact hb
  obtain⟨i,d,e,q,o1,o2,o3,o4,_⟩:=key a _ (al la);obtain⟨i',d',e',q',p1,p2,p3,p4,_⟩:=key b _ (al lb);have eK:=(cJ.1 h1) a b la lb hab;rw[o1,p1]at eK;have f1:((ia g (du out)).map (fy g))[a]? =some e:=by rw[bj,o2,dA,o4]
  have f2:((ia g (du out)).map (fy g))[b]? =some e':=by rw[bj,p2,dA,p4]
  rw[(aj.1 f1).2,(aj.1 f2).2];exact eK
 refine⟨λk p hp=>?_,by rw[ay],λi d e hl=>?_,ag3,?_⟩
 ·obtain⟨o,ho⟩:=get k p hp;obtain⟨i,d,e,q,_,a2,a3,a4,_⟩:=key k o ho;rw[hp]at a2;obtain rfl:=ar a2;exact⟨i,d,e,rfl,by rw[bj,hp,dA,a4],a3⟩
 ·obtain⟨L,a,b1,b2,b3⟩:=hl;have hm:(d:Int)∈gx a:=mM.2 ⟨d,rfl,b3⟩;obtain⟨q,hq⟩:=bQ.1 hm;have ht:Tr (jc g) i q (rM L d):=⟨(gx a).map (rM L),by unfold jc;rw[bj,b1];rfl,by rw[bj,hq];rfl⟩;have k4:=h3 i q _ ht;obtain⟨k,hk⟩:=bQ.1 k4;obtain⟨i',d',e',q',c1,c2,c3,c4,c5⟩:=key k _ hk;simp only[fc]at c1;obtain rfl:i=i':=by omega
  obtain rfl:q=q':=by omega
  have We:(im g).getD i []=gx a:=by unfold im;rw[ax,bj,b1];rfl
  rw[We,hq]at c5;rw[ar c5];exact au c2
 ·have h5:(ia g (du out)).Pairwise λa b=>(fy g a).2<(fy g b).2:=(dr (f:=fy g) (R:=fun(a b:En)=>a.2<b.2)).1 ag3
  exact h5.imp λh e=>by subst e;omega
theorem Mg.un {g:Gs} {os:List Fo} {E:List En} (h:Mg g os E) {k k':Nat} {p:Fo} (h1:os[k]? =some p) (h2:os[k']? =some p):k=k':=by
 obtain⟨a1,a2⟩:=aj.1 h1;obtain⟨b1,b2⟩:=aj.1 h2;exact(List.getElem_inj (h₀:=a1) (h₁:=b1) h.nd).1 (a2.trans b2.symm)
theorem xO:∀{L:List En} {last:Int},wW last L=true->∀e∈L,last<e.2/\nP e.1=0
 |[],_,_,e,h=>by cases h
 |x::L,last,h,e,he=>by
  simp only[wW,cv,decide_eq_true_eq]at h
  have hx:last<x.2/\nP x.1=0:=by
   refine ⟨(yN h.1).2,?_⟩;have:=h.1;unfold pf at this
   split at this
   ·rename_i h1;exact absurd this h1
   ·rename_i h1;simpa using h1
  rcases cR.1 he with rfl|he
  ·exact hx
  ·have:=xO h.2 e he;exact⟨by omega,this.2⟩
theorem Kx:∀{L:List En} {last:Int},(∀e∈L,last<e.2/\nP e.1=0)->L.Pairwise (λa b=>a.2<b.2)->wW last L=true
 |[],_,_,_=>rfl
 |x::L,last,h,hp=>by
  obtain⟨h1,h2⟩:=h x (bZ ..);have Uk:=eV.1 hp;simp only[wW,cv,decide_eq_true_eq];refine⟨?_,Kx (λe he=>⟨Uk.1 e he,(h e (cI _ he)).2⟩) Uk.2⟩;unfold pf;rw[if_neg (by rw[h2];simp),if_neg (by omega)]
theorem E9:∀{L:List En} {last:Int},wW last L=true->L.Pairwise λa b=>a.2<b.2
 |[],_,_=>List.Pairwise.nil
 |x::L,last,h=>by
  simp only[wW,cv,decide_eq_true_eq]at h;exact eV.2 ⟨λe he=>(xO h.2 e he).1,E9 h.2⟩
theorem Mg.mem {g:Gs} {os:List Fo} {E:List En} (h:Mg g os E) {e:En}:e∈E↔∃i d,su g i d e:=by
 constructor
 ·intro he;obtain⟨k,hk⟩:=bQ.1 he;obtain⟨i,d,e',_,h2,h3⟩:=h.at_ k _ (al (by rw[<-h.len];exact(aj.1 hk).1));rw[hk]at h2;cases h2;exact⟨i,d,h3⟩
 ·rintro⟨i,d,hl⟩;obtain⟨k,hk⟩:=bQ.1 (h.all i d e hl);obtain⟨i',d',e',h1,h2,h3⟩:=h.at_ k _ hk;simp only[fc]at h1;obtain rfl:i=i':=by omega
  obtain rfl:d=d':=by omega
  rw[hl.un h3];exact au h2
theorem su.ok {g:Gs} (hg:Kw g) {i d:Nat} {e:En} (h:su g i d e): -1<e.2/\nP e.1=0:=by
 obtain⟨L,a,h1,h2,_⟩:=h;exact xO (hg _ (au h1)).1 e (au h2)
theorem Mg.ok {g:Gs} (hg:Kw g) {os:List Fo} {E:List En} (h:Mg g os E):wW (-1) E=true:=
 Kx (λe he=>by obtain⟨i,d,hl⟩:=h.mem.1 he;exact hl.ok hg) h.up
theorem Wf {E E':List En} (h:E.Pairwise λa b=>a.2<b.2) (h':E'.Pairwise λa b=>a.2<b.2) (hm:∀e,e∈E↔e∈E'):E=E':=
 xB (λa b h1 h2=>by omega) h h' (h.imp λh e=>by subst e;omega) (h'.imp λh e=>by subst e;omega) hm
theorem Mp {i:Nat} {tl:List (Fd×Nat)} {k:List UInt8} {q:Po}:q∈DM i tl k↔∃t∈cX tl,fv t=k/\q=((i:Int),posOf tl t):=by
 unfold DM;rw[ck];constructor
 ·rintro⟨t,ht,rfl⟩;obtain⟨h1,h2⟩:=kg.1 ht;exact⟨t,h1,by simpa using h2,rfl⟩
 ·rintro⟨t,h1,h2,rfl⟩;exact⟨t,kg.2 ⟨h1,by simpa using h2⟩,rfl⟩
theorem Fa {k:List UInt8} {q:Po}:∀{L:List En} {i:Nat},q∈xE k i L↔∃(d:Nat) (e:En),L[d]? =some e/\q∈DM (i+d) (mU e) k
 |[],i=>by simp[xE]
 |x::L,i=>by
  simp only[xE,cP,Fa (L:=L)];constructor
  ·rintro(h|⟨d,e,h1,h2⟩)
   ·exact⟨0,x,G,h⟩
   ·exact⟨d+1,e,by simpa using h1,by rw[show i+(d+1)=i+1+d from by omega];exact h2⟩
  ·rintro⟨d,e,h1,h2⟩
   cases d with
   |zero=>simp at h1;subst h1;exact .inl h2
   |succ d=>exact .inr ⟨d,e,by simpa using h1,by rw[show i+1+d=i+(d+1)from by omega];exact h2⟩
theorem B2 {L:List En} {k:List UInt8} {q:Po}:q∈pk L k↔∃(d:Nat) (e:En),L[d]? =some e/\∃t∈cX (mU e),fv t=k/\q=((d:Int),posOf (mU e) t):=by
 unfold pk;rw[Fa];simp only[fh,Mp]
theorem HN:∀{l:List Po} {last:Int},ik last l=true->l.Pairwise (λa b=>a.1<b.1)/\∀p∈l,last<p.1
 |[],_,_=>⟨List.Pairwise.nil,λp h=>by cases h⟩
 |(d,ps)::l,last,h=>by
  simp only[ik,cv,decide_eq_true_eq]at h;obtain⟨⟨⟨⟨h1,h2⟩,h3⟩,h4⟩,h5⟩:=h;obtain⟨h6,h7⟩:=HN h5;refine ⟨eV.2 ⟨h7,h6⟩,λp hp=> ?_⟩;rcases cR.1 hp with rfl|hp
  ·exact h1
  ·have:=h7 p hp;omega
theorem SC {L:List En} (h:wW (-1) L=true) (hn:L.length<=1000000) (k:List UInt8):(pk L k).Pairwise λa b=>a.1<b.1:=
 (HN (xG k L 0 (-1) (jQ h) k3 k3)).1
def mN (to:List Int) (l:List Po):List Po:=l.filterMap λp=>if 0<=to.getD p.1.toNat 0 then some (to.getD p.1.toNat 0,p.2)else none
theorem B3 (to:List Int) (l:List Po) (p:Po):mN to (l++[p])=if 0<=to.getD p.1.toNat 0 then mN to l++[(to.getD p.1.toNat 0,p.2)]else mN to l:=by
 unfold mN;rw[List.filterMap_append]
 split
 ·rename_i h;rw[List.filterMap_cons,if_pos h];rfl
 ·rename_i h;rw[List.filterMap_cons,if_neg h];simp
theorem wR (to:List Int) (l:List Po):(mN to l).length<=l.length:=List.length_filterMap_le _ _
def HO (g:Gs) (os:List Fo) (tos:List (List Int)):Prop:=tos.length=g.length/\∀(i:Nat) (p:List En×List Bool),g[i]? =some p->Plc os i p.1.length (tos.getD i [])
def Ad (g:Gs) (tos:List (List Int)) (k:List UInt8) (n:Nat):List Po:=(List.range n).flatMap λi=>mN (tos.getD i []) (pk (g.getD i ([],[])).1 k)
theorem yR (g:Gs) (tos:List (List Int)) (k:List UInt8) (n:Nat):Ad g tos k (n+1)=Ad g tos k n++mN (tos.getD n []) (pk (g.getD n ([],[])).1 k):=by
 unfold Ad;rw[List.range_succ,List.flatMap_append];simp
section
variable {g:Gs} {os:List Fo} {E:List En} {tos:List (List Int)} {k:List UInt8}
theorem B4 (hm:Mg g os E) (ht:HO g os tos) {i:Nat} (hi:i<g.length) {q:Po}:q∈mN (tos.getD i []) (pk (g.getD i ([],[])).1 k)↔∃(d n:Nat) (e:En),os[n]? =some ((i:Int),(d:Int))/\E[n]? =some e/\∃t∈cX (mU e),fv t=k/\q=((n:Int),posOf (mU e) t):=by
 have ke:g[i]? =some g[i]:=al hi;obtain⟨hl,hp⟩:=ht.2 i _ ke;have px:g.getD i ([],[])=g[i]:=by rw[ax,ke];rfl
 rw[px];unfold mN;rw[List.mem_filterMap];constructor
 ·rintro⟨p,h1,h2⟩;obtain⟨d,e,hd,t,LU,Bj,rfl⟩:=B2.1 h1;simp only[an]at h2
  split at h2
  ·rename_i h3
   have h2:=ar h2;rcases hp d (aj.1 hd).1 with⟨h4,_⟩|⟨n,h4,h5⟩
   ·omega
   ·obtain⟨i',d',e',a1,a2,a3⟩:=hm.at_ n _ h5;simp only[fc]at a1;obtain rfl:i=i':=by omega
    obtain rfl:d=d':=by omega
    obtain⟨L,a,b1,b2,_⟩:=a3;rw[ke]at b1;have b1:=ar b1;rw[b1]at hd;rw[hd]at b2;obtain rfl:=ar b2;exact⟨d,n,e,h5,a2,t,LU,Bj,by rw[<-h2,h4]⟩
  ·cases h2
 ·rintro⟨d,n,e,h1,h2,t,LU,Bj,rfl⟩;obtain⟨i',d',e',a1,a2,a3⟩:=hm.at_ n _ h1;simp only[fc]at a1;obtain rfl:i=i':=by omega
  obtain rfl:d=d':=by omega
  rw[h2]at a2;obtain rfl:=ar a2;obtain⟨L,a,b1,b2,_⟩:=a3;rw[ke]at b1;have b1:=ar b1;refine ⟨((d:Int),posOf (mU e) t),B2.2 ⟨d,e,by rw[b1];exact b2,t,LU,Bj,G⟩,?_⟩;have hd:d<g[i].1.length:=by rw[b1];exact(aj.1 b2).1
  simp only[an];rcases hp d hd with⟨h4,h5⟩|⟨n',h4,h5⟩
  ·exact absurd (au h1) h5
  ·obtain rfl:=hm.un h1 h5;rw[h4,if_pos k3]
theorem SD (hg:Kw g) (hn:∀p∈g,p.1.length<=1000000) (hm:Mg g os E) (ht:HO g os tos) {i:Nat} (hi:i<g.length):(mN (tos.getD i []) (pk (g.getD i ([],[])).1 k)).Pairwise λa b=>a.1≠b.1:=by
 have ke:g[i]? =some g[i]:=al hi;obtain⟨hl,hp⟩:=ht.2 i _ ke;have px:g.getD i ([],[])=g[i]:=by rw[ax,ke];rfl
 rw[px];unfold mN;have hu:=SC (hg _ (au ke)).1 (hn _ (au ke)) k;refine List.pairwise_filterMap.2 (hu.imp_of_mem λ{a b} ha hb hab x hx y hy=>?_);obtain⟨d,e,hd,_,_,_,rfl⟩:=B2.1 ha;obtain⟨d',e',Uq,_,_,_,rfl⟩:=B2.1 hb;simp only[an]at hx hy hab
 split at hx
 ·split at hy
  ·obtain rfl:=ar hx;obtain rfl:=ar hy;simp only;rcases hp d (aj.1 hd).1 with⟨h4,_⟩|⟨n,h4,h5⟩
   ·omega
   ·rcases hp d' (aj.1 Uq).1 with⟨h6,_⟩|⟨n',h6,h7⟩
    ·omega
    ·intro e;rw[h4,h6]at e;obtain rfl:n=n':=by omega
     rw[h5]at h7;have:=congrArg Prod.snd (ar h7);simp only at this;omega
  ·cases hy
 ·cases hx
theorem HP (hm:Mg g os E) (ht:HO g os tos) {n:Nat} (hn:n<=g.length) {q:Po}:q∈Ad g tos k n↔∃(i d m:Nat) (e:En),i<n/\os[m]? =some ((i:Int),(d:Int))/\E[m]? =some e/\∃t∈cX (mU e),fv t=k/\q=((m:Int),posOf (mU e) t):=by
 unfold Ad;rw[kV];constructor
 ·rintro⟨i,hi,h⟩;have hi:=List.mem_range.1 hi;obtain⟨d,m,e,h1,h2,h3⟩:=(B4 hm ht k3).1 h;exact⟨i,d,m,e,hi,h1,h2,h3⟩
 ·rintro⟨i,d,m,e,hi,h1,h2,h3⟩;exact⟨i,List.mem_range.2 hi,(B4 hm ht k3).2 ⟨d,m,e,h1,h2,h3⟩⟩
theorem Ax (hg:Kw g) (hl:∀p∈g,p.1.length<=1000000) (hm:Mg g os E) (ht:HO g os tos):∀{n:Nat},n<=g.length->(Ad g tos k n).Pairwise λa b=>a.1≠b.1
 |0,_=>List.Pairwise.nil
 |n+1,hn=>by
  rw[yR];refine lZ.2 ⟨Ax hg hl hm ht k3,SD hg hl hm ht k3,λa ha b hb e=> ?_⟩;obtain⟨i,d,m,e1,hi,h1,_,_,_,_,rfl⟩:=(HP hm ht k3).1 ha;obtain⟨d',m',e2,h2,_,_,_,_,rfl⟩:=(B4 hm ht k3).1 hb;simp only at e;obtain rfl:m=m':=by omega
  rw[h1]at h2;have:=congrArg Prod.fst (ar h2);simp only at this;omega
theorem SE (hm:Mg g os E) (ht:HO g os tos) {q:Po}:q∈Ad g tos k g.length↔q∈pk E k:=by
 rw[HP hm ht (aN _),B2];constructor
 ·rintro⟨i,d,m,e,_,_,h2,h3⟩;exact⟨m,e,h2,h3⟩
 ·rintro⟨m,e,h1,h2⟩;obtain⟨i,d,e',a1,a2,L,a,a3,_⟩:=hm.at_ m _ (al (by rw[<-hm.len];exact(aj.1 h1).1));exact⟨i,d,m,e,(aj.1 a3).1,by rw[<-a1];exact al _,h1,h2⟩
theorem yS (hg:Kw g) (hl:∀p∈g,p.1.length<=1000000) (hE:E.length<=1000000) (hm:Mg g os E) (ht:HO g os tos):(Ad g tos k g.length).Perm (pk E k):=
 (List.perm_ext_iff_of_nodup ((Ax hg hl hm ht (aN _)).imp λh e=>h af6) ((SC (hm.ok hg) hE k).imp λh e=>by subst e;omega)).2 λ_=>SE hm ht
theorem HQ (hg:Kw g) (hl:∀p∈g,p.1.length<=1000000) (hE:E.length<=1000000) (hm:Mg g os E) (ht:HO g os tos) {s:List Po} (hs:s.Perm (Ad g tos k g.length)) (hp:s.Pairwise λa b=>a.1<=b.1):s=pk E k:=by
 have hu:=SC (hm.ok hg) hE k;have qL:=Ax hg hl hm ht (k:=k) (aN _);refine List.Perm.eq_of_pairwise (le:=λa b=>a.1<=b.1) (λa b ha hb h1 h2=>?_) hp (hu.imp λh=>by omega) (hs.trans (yS hg hl hE hm ht));have uO:=(hs.trans (yS hg hl hE hm ht)).mem_iff.1 ha;obtain⟨i,hi⟩:=l0.1 uO;obtain⟨j,hj⟩:=l0.1 hb;obtain⟨hi,rfl⟩:=hi;obtain⟨hj,rfl⟩:=hj;rcases fJ i j with h|h|h
 ·have:=(cJ.1 hu) i j hi hj h;omega
 ·subst h;rfl
 ·have:=(cJ.1 hu) j i hj hi h;omega
theorem D5 (hm:Mg g os E) {J:List (List UInt8)} (hJ:CZ J) (k4:∀x,x∈J↔∃p∈g,x∈keysOf p.1):J.filter (λk=> !(pk E k).isEmpty)=keysOf E:=by
 have lh:∀x,pk E x≠[]↔x∈jb E:=λx=>⟨λh=>Classical.byContradiction λhn=>h (ES 0 hn),λh=>JU 0 h⟩
 have hu:CZ (J.filter λk=> !(pk E k).isEmpty):=List.Pairwise.sublist List.filter_sublist hJ;refine xB (R:=λa b=>a<b) (λa b h1 h2=>absurd h2 (jx h1)) hu (lD E) hu.nodup (lD E).nodup λx=> ?_
 rw[kg,ka,<-lh];constructor
 ·rintro⟨_,h⟩ e;rw[e]at h;simp at h
 ·intro h
  refine⟨(k4 x).2 ?_,by cases hx:pk E x with
   |nil=>exact absurd hx h
   |cons a b=>rfl⟩
  have h2:=(lh x).1 h;unfold jb at h2;obtain⟨e,he,h3⟩:=kV.1 h2;obtain⟨i,d,L,a,a1,a2,_⟩:=hm.mem.1 he;exact⟨(L,a),au a1,ka.2 (kV.2 ⟨e,au a2,h3⟩)⟩
end
def B5 (g:Gs):Prop:=∃(i d i' d':Nat) (e e':En),su g i d e/\su g i' d' e'∧¬(i=i'∧d=d')/\e.2=e'.2
theorem abB {g:List En} (hu:g.Pairwise λa b=>a.2<b.2) {i i':Nat} {e e':En} (h:g[i]? =some e) (h':g[i']? =some e') (he:e.2=e'.2):i=i':=by
 obtain⟨p1,p2⟩:=aj.1 h;obtain⟨q1,q2⟩:=aj.1 h';have hp:=cJ.1 hu;rcases fJ i i' with hl|hl|hl
 ·have:=hp i i' p1 q1 hl;rw[p2,q2]at this;omega
 ·exact hl
 ·have:=hp i' i q1 p1 hl;rw[p2,q2]at this;omega
theorem D6 {g:Gs} (h:((g.map (·.1)).flatten).Pairwise λx y=>x.2≠y.2): ¬B5 g:=by
 rintro⟨i,d,i',d',e,e',⟨L,a,h1,h2,_⟩,⟨L',a',h3,h4,_⟩,fG,heq⟩;rw[List.pairwise_flatten]at h;obtain⟨ha,hb⟩:=h;have g1:(g.map (·.1))[i]? =some L:=by rw[bj,h1];rfl
 have g3:(g.map (·.1))[i']? =some L':=by rw[bj,h3];rfl
 obtain⟨p1,p2⟩:=aj.1 g1;obtain⟨q1,q2⟩:=aj.1 g3;rcases fJ i i' with eK|rfl|eK
 ·have:=cJ.1 hb i i' p1 q1 eK;rw[p2,q2]at this;exact this e (au h2) e' (au h4) heq
 ·rw[h1]at h3;cases h3;have hl:=ha L (au g1);obtain⟨r1,r2⟩:=aj.1 h2;obtain⟨s1,s2⟩:=aj.1 h4;rcases fJ d d' with h|h|h
  ·have:=cJ.1 hl d d' r1 s1 h;rw[r2,s2]at this;exact this heq
  ·exact fG ⟨G,h⟩
  ·have:=cJ.1 hl d' d s1 r1 h;rw[r2,s2]at this;exact this heq.symm
 ·have:=cJ.1 hb i' i q1 p1 eK;rw[p2,q2]at this;exact this e' (au h4) e (au h2) heq.symm
theorem abC {L:List En} {a:List Bool} (hu:L.Pairwise λx y=>x.2<y.2): ¬B5 [(L,a)]:=D6 (by
 show(List.flatten [L]).Pairwise _;rw[List.flatten_cons,List.flatten_nil,eJ];exact hu.imp λh e=>by omega)
def IN (g:List En) (kof:Nat->Nat) (j:Nat):Nat->List En
 |0=>[]
 |n+1=>IN g kof j n++if kof n=j then(g[n]?).toList else[]
section
variable {g:List En} {kof:Nat->Nat} {j:Nat}
theorem uJ {e:En}:∀{n:Nat},e∈IN g kof j n↔∃i,i<n/\kof i=j/\g[i]? =some e
 |0=>by simp[IN]
 |n+1=>by
  rw[IN,cP,uJ];constructor
  ·rintro(⟨i,h1,h2,h3⟩|h)
   ·exact⟨i,by omega,h2,h3⟩
   ·split at h
    ·rename_i hk;exact⟨n,by omega,hk,by simpa using h⟩
    ·cases h
  ·rintro⟨i,h1,h2,h3⟩;rcases cQ i n with h|h
   ·exact .inl ⟨i,h,h2,h3⟩
   ·obtain rfl:i=n:=by omega
    refine .inr ?_;rw[if_pos h2,h3];simp
theorem Ky (hu:g.Pairwise λa b=>a.2<b.2):∀n,(IN g kof j n).Pairwise λa b=>a.2<b.2
 |0=>List.Pairwise.nil
 |n+1=>by
  rw[IN];refine lZ.2 ⟨Ky hu n,?_,λa ha b hb=>?_⟩
  ·split
   ·cases g[n]? <;>simp
   ·exact .nil
  ·obtain⟨i,h1,h2,h3⟩:=uJ.1 ha
   split at hb
   ·have hb:g[n]? =some b:=by simpa using hb
    obtain⟨p1,p2⟩:=aj.1 h3;obtain⟨q1,q2⟩:=aj.1 hb;rw[<-p2,<-q2];exact(cJ.1 hu) i n p1 q1 h1
   ·cases hb
theorem abD (h:wW (-1) g=true) (n:Nat):wW (-1) (IN g kof j n)=true:=
 Kx (λe he=>by obtain⟨i,_,_,h3⟩:=uJ.1 he;exact xO h e (au h3)) (Ky (E9 h) n)
theorem Ay:∀n,(IN g kof j n).length<=n
 |0=>aN _
 |n+1=>by
  have:=Ay n;rw[IN,aY]
  split
  ·cases g[n]? <;>simp<;>omega
  ·simp;omega
end
def Az (g:List En) (kof:Nat->Nat) (m:Nat):List (List En):=(List.range m).map λj=>IN g kof j g.length
theorem Wg {g:List En} {kof:Nat->Nat} {m j:Nat} (h:j<m):(Az g kof m)[j]? =some (IN g kof j g.length):=by
 unfold Az;rw[bj,Cu h];rfl
theorem SF {g:List En} {kof:Nat->Nat} (hu:g.Pairwise λa b=>a.2<b.2) (js:List Nat) (hj:js.Nodup):(js.map λj=>IN g kof j g.length).flatten.Pairwise λx y=>x.2≠y.2:=by
 rw[List.pairwise_flatten];refine⟨λl hl=>?_,?_⟩
 ·obtain⟨j,_,rfl⟩:=ck.1 hl;exact(Ky hu _).imp λh e=>by omega
 ·rw[dr]
  exact hj.imp λfG x hx y hy e=>by
   obtain⟨i,_,h2,h3⟩:=uJ.1 hx;obtain⟨i',_,An,h3'⟩:=uJ.1 hy;have:=abB hu h3 h3' e;subst this;omega
def ma (to:List Int) (m:Nat) (i:Nat):Nat:=((if to.getD i 0<0 then-(to.getD i 0+1)else to.getD i 0)%(m:Int)).toNat
theorem Mt {to:List Int} {m:Nat} (hm:0<m) (i:Nat):ma to m i<m:=by
 unfold ma;have h1:=Int.emod_nonneg (if to.getD i 0<0 then-(to.getD i 0+1)else to.getD i 0) (show(m:Int)≠0 by omega);have h2:=Int.emod_lt_of_pos (if to.getD i 0<0 then-(to.getD i 0+1)else to.getD i 0) (show 0<(m:Int) by omega);omega
theorem Own.Wh {α:Type} {A:RT α} (hA:C5 A) {e:TypeId} {M:aJ} {w:World} {base:Nat} {v:Value} {xs:List α} (h:Own A e M w base v xs) {M':aJ} (hm:∀b,v.ownBlock=some b->M' b):Own A e M' w base v xs:=by
 obtain⟨⟨C,h1,h2⟩,_⟩:=h;exact⟨⟨C,h1,h2.Wa hA⟩,hm⟩
theorem Own.ag4 {α:Type} {A:RT α} (hA:C5 A) {e:TypeId} {N:aJ} {w w':World} {base:Nat} {v:Value} {xs:List α} (h:Own A e allM w base v xs) (s:Step allM w allM w' N) (hn:∀b,v.ownBlock=some b->¬N b):Own A e allM w' base v xs:=by
 obtain⟨⟨C,h1,h2⟩,_⟩:=h;refine⟨⟨C,⟨h1.1,?_⟩,h2.Wa hA⟩,λ_ _=>trivial⟩;rcases h1.2 with h3|⟨g,cap,cur,h3,h4,h5,h6,h7,h8⟩
 ·exact .inl h3
 ·exact .inr ⟨g,cap,cur,h3,h4,by rw[s.same g (ae h5) (hn g (by rw[h3];rfl))];exact h5,h6,h7,h8⟩
theorem Own.Yq {α:Type} {A:RT α} (hA:C5 A) {e:TypeId} {M:aJ} {w:World} {base:Nat} {v:Value} {xs:List α} (h:Own A e M w base v xs):Own A e (o9 v) w base v xs:=h.Wh hA λ_ h=>h
theorem Own.Yr {α:Type} {A:RT α} (hA:C5 A) {e:TypeId} {M M' N:aJ} {w w':World} {base:Nat} {v:Value} {xs:List α} (h:Own A e (o9 v) w base v xs) (s:Step M w M' w' N) (hn:∀c,v.ownBlock=some c->¬N c):Own A e (o9 v) w' base v xs:=
 ((h.Wh hA (M':=allM) (λ_ _=>trivial)).ag4 hA s.all hn).Yq hA
variable {P:Program} {r:Option Nat} {n:Nat} {L:Sl} {ds:List Deferred} {w:World} {K:Kt} {ops:Array Oper} {rest:List Oper} {d:Nat} {x y:Operand} {ty:TypeId} {pos:String} {af:Array Edge} {α:Type} {A:RT α}
theorem Own.uY {e:TypeId} {M:aJ} {base:Nat} {u v:Value} {xs:List α} (h:Own A e M w base u xs) (qt:∀b,u.ownBlock=some b->v.ownBlock≠some b):Own A e (rm M v) w base u xs:=by
 obtain⟨⟨C,hr,ha⟩,hm⟩:=h;exact⟨⟨C,hr,ha.le (ed M v w)⟩,λb hb=>⟨hm b hb,qt b hb⟩⟩
theorem Rg.abE {t e:TypeId} {zv:Value} {bytes:Nat} {M:aJ} {base g len cap j:Nat} {xs:List α} {a:α} {v:Value} (hA:A.n=1/\A.agg=false) (hi:TI P t zv 1 bytes) (hx:ev L x=some (.pointer (some ⟨g,j,none⟩))) (hy:ev L y=some v) (h:Own A e M w base (.slice (some ⟨g,0,none⟩) len cap) xs) (hj:j<xs.length) (hv:A.V M w a v)
  (k:∀w',Own A e M w' base (.slice (some ⟨g,0,none⟩) len cap) (xs.set j a)->Step M w M w' (λk=>k=g)->Rg P r n ops rest L ds w' K):
  Rg P r n ops ({dst:=none,op:= .store t x y,type:=ty,pos,after:=af,guard:=none}::rest) L ds w K:=by
 obtain⟨vs,kh,hvv⟩:=hv;have hl:=A.len kh;rw[hA.1]at hl
 obtain⟨u,rfl⟩:∃u,vs=[u]:=by
  match vs,hl with
  |[u],_=>exact⟨u,rfl⟩
 have hvu:v=u:=by rw[hvv];unfold RT.val;rw[hA.2];rfl
 subst hvu;have h1:=A.one kh v (by simp);obtain⟨w',Zz,ho,hs⟩:=h.setCells hj kh;obtain⟨⟨C,hr,_⟩,hm⟩:=h;rcases hr.2 with⟨h2,_⟩|⟨g',zV,cur,h2,_,h3,h4,h5,h6,h7⟩
 ·cases h2
 ·simp only[gG,eE,mW]at h2;obtain⟨⟨rfl,_⟩,rfl,rfl⟩:=h2;rw[hA.1]at h6 Zz;refine .W5 a04 G G w' (λρ hρ=>?_) (k w' ho hs);subst Zz;simp only[execOp,hρ x _ hx,hρ y _ hy];have:=pG (P:=P) hi (w:=w) (b:=g) (o:=j) (v:=v) h1 (by rw[gA h3 (v:=cur[j]' k3) (by simp)];rfl) (by simp[World.frozen?,h3]);simp[this,World.setCells]
theorem Rg.apT {t e:TypeId} {zv v:Value} {bytes:Nat} {M:aJ} (ht:P.underlying t=some (.slice e)) (hi:TI P e zv 1 bytes) (hx:ev L x=some v) (hd:Nat.blt d n=true) (hc:v.cells= #[v])
  (k:∀g w',w.heap.size<=g->w'.heap[g]? =some (.cells #[v] e (0,0))->Step M w M w' aA->Rg P r n ops rest ((d,.slice (some ⟨g,0,none⟩) 1 1)::L) ds w' K):
  Rg P r n ops ({dst:=some d,op:= .buildSlice t 1 #[(0,x)],type:=ty,pos,after:=af,guard:=none}::rest) L ds w K:=by
 obtain⟨i,zf,Al,hi3,hi4⟩:=hi.get;refine .op a04 G G hd (.slice (some ⟨w.heap.size,0,none⟩) 1 1) (w.alloc (.cells #[v] e)) (λρ hρ=>?_) (k _ _ (aN _) (de w _) (dK M w (.cells #[v] e)));simp only[execOp,fg,fe,je,hρ x _ hx];simp only[Instr.buildSlice,cA,run_underlying ht,dd,hi.sizeOf,Nat.one_mul];rw[if_neg k3,if_neg k3];simp only[cA,zeroValue,typeInfo,program,Sem.run,zf,Al,dd,zN];rw[FZ 1 _ #[v] v (by simp) hc (by simp)];simp[newRow,newObj,Sem.run]
theorem Rg.uK {i:Operand} {t e:TypeId} {κ:IntKind} {j:Int} {b o len bytes:Nat} {zv:Value} (ht:P.underlying t=some (.array len e)) (hi:TI P e zv 1 bytes) (hx:ev L x=some (.pointer (some ⟨b,o,none⟩))) (IS:ev L i=some (.int κ j)) (hd:Nat.blt d n=true) (hj:0<=j/\j<len)
  (k:Rg P r n ops rest ((d,.pointer (some ⟨b,o+j.toNat,none⟩))::L) ds w K):
  Rg P r n ops ({dst:=some d,op:= .indexAddr t x i,type:=ty,pos,after:=af,guard:=none}::rest) L ds w K:=
 .op a04 rfl rfl hd _ w (λρ h=>by
  simp only[execOp,h x _ hx,h i _ IS];simp[Instr.indexAt,run_underlying ht,asIntOf,hj,hi.sizeOf,zL,Instr.sureAddr]) k
def Mu (p:Fo):List Value:=[.int .i64 p.1,.int .i64 p.2]
def ag5 (p:Fo):Prop:=nj p.1/\nj p.2
theorem xQ {M:aJ} {w:World}:∀{xs:List Fo} {C:List Value},eX RT.fo M w xs C↔C=xs.flatMap Mu/\∀p∈xs,ag5 p
 |[],C=>⟨λh=>⟨h,λp h=>by cases h⟩,λh=>h.1⟩
 |p::xs,C=>by
  constructor
  ·rintro⟨vs,r,h1,⟨va,vb,rfl,⟨rfl,ha⟩,⟨rfl,hb⟩⟩,h3⟩;obtain⟨h4,h5⟩:=xQ.1 h3;refine ⟨by rw[h1,h4];rfl,λq hq=> ?_⟩;rcases cR.1 hq with rfl|hq
   ·exact⟨ha,hb⟩
   ·exact h5 q hq
  ·rintro⟨h1,h2⟩;obtain⟨ha,hb⟩:=h2 p (bZ ..);exact⟨_,_,by rw[h1];rfl,⟨_,_,rfl,⟨rfl,ha⟩,⟨rfl,hb⟩⟩,xQ.2 ⟨rfl,λq hq=>h2 q (cI _ hq)⟩⟩
theorem HR {a:Int}:∀{xs:List Fo} {k:Nat} {p:Fo},xs[k]? =some p->(xs.flatMap Mu).set (k*2+1) (.int .i64 a)=(xs.set k (p.1,a)).flatMap Mu
 |[],k,p,h=>by simp at h
 |q::xs,0,p,h=>by
  simp at h;subst h;rfl
 |q::xs,k+1,p,h=>by
  have:=HR (a:=a) (xs:=xs) (k:=k) (p:=p) a69;rw[List.set_cons_succ,oZ,oZ,<-this];show(Mu q++_).set _ _=Mu q++_;rw[show(k+1)*2+1=(k*2+1)+2 from by omega];rfl
theorem B6:∀xs:List Fo,(xs.flatMap Mu).length=xs.length*2
 |[]=>rfl
 |p::xs=>by rw[oZ,aY,B6 xs,dG];show 2+_=_;omega
theorem Own.Ys {e:TypeId} {M:aJ} {base g len cap k:Nat} {xs:List Fo} {p:Fo} (h:Own RT.fo e M w base (.slice (some ⟨g,0,none⟩) len cap) xs) (hx:xs[k]? =some p):
  ∃cur,w.heap[g]? =some (.cells cur e (0,0))/\M g/\ag5 p/\base<=g/\(∃u,cur[k*2+1]? =some u/\u.oneCell'=true)/\∀(M':aJ) (w':World) (a:Int),nj a->w'.heap[g]? =some (.cells (cur.setIfInBounds (k*2+1) (.int .i64 a)) e (0,0))->M' g->Own RT.fo e M' w' base (.slice (some ⟨g,0,none⟩) len cap) (xs.set k (p.1,a)):=by
 obtain⟨⟨C,hr,ha⟩,hm⟩:=h;obtain⟨rfl,hok⟩:=xQ.1 ha;have AN:=(aj.1 hx).1;rcases hr.2 with⟨h1,_⟩|⟨g',zV,cur,h1,h2,h3,h4,h5,h6,h7⟩
 ·cases h1
 ·simp only[gG,eE,mW]at h1;obtain⟨⟨rfl,_⟩,rfl,rfl⟩:=h1;have e2:RT.fo.n=2:=rfl;rw[e2]at h6 h7;have k4:k*2+1<xs.length*2:=by omega
  have km:∃u,cur[k*2+1]? =some u/\u.oneCell'=true:=by
   have hl:k*2+1<(xs.flatMap Mu).length:=by rw[B6];exact k4
   refine⟨(xs.flatMap Mu)[k*2+1],?_,ha.one _ (yg _)⟩;have h8:(cur.toList.take (xs.length*2))[k*2+1]? =some (xs.flatMap Mu)[k*2+1]:=by rw[h7];exact al hl
   rw[cY,if_pos k4]at h8;simpa using h8
  refine⟨cur,h3,hm g G,hok p (au hx),h2,km,λM' w' a har hw hM'=>?_⟩;refine⟨⟨(xs.set k (p.1,a)).flatMap Mu,⟨by rw[B6];rfl,.inr ⟨g,cap,_,by rw[fX],h2,hw,by rw[fX];exact h4,h5,by rw[e2];simpa using h6,?_⟩⟩,xQ.2 ⟨rfl,λq hq=>?_⟩⟩,λb hb=>by cases hb;exact hM'⟩
  ·rw[e2,fX,<-HR hx,<-h7];apply eS;intro j;rw[dN];simp only[cY,Array.toList_setIfInBounds,dN,aU,Ct];by_cases hj:j<xs.length*2
   ·rw[if_pos hj,if_pos hj];have:xs.length*2<=cur.size:=by rw[h6];omega
    by_cases e:k*2+1=j
    ·rw[if_pos e,if_pos e,if_pos k3,if_pos k3]
    ·rw[if_neg e,if_neg e]
   ·rw[if_neg hj,if_neg hj];rw[if_neg k3]
  ·rcases List.mem_or_eq_of_mem_set hq with hq|rfl
   ·exact hok q hq
   ·exact⟨(hok p (au hx)).1,har⟩
end Go.K
namespace Go.K
open Go.Proofs
namespace TKSet
theorem Oj:TI Tryz.prog 131 (.slice none 0 0) 1 24:=by unfold TI;kernel_rfl
theorem apU:TI Tryz.prog 133 (.agg #[(.int .i64 0),(.slice none 0 0)]) 2 32:=by unfold TI;kernel_rfl
theorem Fb:TI Tryz.prog 190 (.int .u64 0) 1 8:=by unfold TI;kernel_rfl
theorem apV:placesOf Tryz.prog 133=[(0,1),(1,1)].map some:=by kernel_rfl
theorem ag6:Enters Tryz.prog 117:=enters Tryz.func117 rfl q0
theorem abF:Enters Tryz.prog 174:=enters Tryz.func174 rfl q0
theorem ag7:Enters Tryz.prog 175:=enters Tryz.func175 rfl q0
end TKSet
open TKSet
set_option maxRecDepth 10000
theorem C7 {w0:World} {k m x:Nat} (Ol:∃e fr,w0.heap[1]? =some (.cells (OS.map fun(k:Nat)=>Value.int .u8 (k:Int)).toArray e fr)) (hx:x=2^k*(2*m+1)) (hl:x<2^64):
  Spec Tryz.prog 213 #[.int .u64 x] w0 (λv' w'=>v'= .int .i64 k/\w0=w'):=by
 obtain⟨et,ft,Ol⟩:=Ol;have hp:=Nat.two_pow_pos k;have wZ:0<x:=by rw[hx];exact Nat.mul_pos hp k3
 have hkx:2^k<=x:=by rw[hx];exact Nat.le_mul_of_pos_right _ k3
 have hk:k<64:=by
  rcases cQ k 64 with h2|h2
  ·exact h2
  ·have:=zK (n:=2) q0 h2;omega
 obtain⟨hd1,hd2⟩:=ZA k hk;have lx:((OS.map fun(k:Nat)=>Value.int .u8 (k:Int)).toArray)[(2^k*285870213051353865)%2^64/2^58]? =some (.int .u8 (k:Int)):=by rw[ec,bj,hd2];rfl
 refine bF (args:=[_]) (fn:=Tryz.f213) Tryz.func213 G (n:=14) Tryz.ntmps213 (T.aQ (Rg.bA G G (aI (T.aQ (ab G G (sJ G G G (ad (T.zQ G (k3) ?_))))))));refine aR (T.aQ (ab rfl rfl (ab rfl rfl (Rg.alx rfl rfl (bc (v':= .int .u64 ((2^64-x:Nat):Int)) (by rw[show(0:Int)-(x:Int)=((2^64-x:Nat):Int)-18446744073709551616 from by omega];simp[IntKind.wrap,IntKind.bits,IntKind.signed];omega) (Rg.and rfl rfl rfl (bc (v':= .int .u64 ((2^k:Nat):Int)) (by rw[PK x (2^64-x) hl k3,hx,UW k3]) (Rg.Nb rfl rfl rfl (bc (v':= .int .u64 (((2^k*285870213051353865)%2^64:Nat):Int)) (congrArg _ (by rw[show((2^k:Nat):Int)*285870213051353865=((2^k*285870213051353865:Nat):Int)from by rw[Int.natCast_mul];rfl];exact LD _)) (Rg.shr G G G q0 ?_))))))))));refine bc (v':= .int .u64 (((2^k*285870213051353865)%2^64/2^58:Nat):Int)) (congrArg _ (ZB _ 58 q0)) (Ak (len:=64) Tryz.underlying326 I5 G G G k3 (aV (v:= .int .u8 (k:Int)) dq rfl rfl rfl Ol (by rw[an];exact lx) (Rg.ym dq aq G G k3 (Rg.bA G G (aT ?_)))));exact aj9
theorem Mv {M:aJ} {w0:World} {n:Nat} {ws:List Nat} {bs bw:Nat} (h:kH 133 190 n ws M w0 bs bw) {i:Int}:
  Spec Tryz.prog 174 #[.pointer (some ⟨bs,0,none⟩),.int .i64 i] w0 (λv' w'=>v'= .bool (decide (0<=i/\i<n))/\w0=w'):=by
 have hS:=h.s;have hW:=h.w;have hlen:=h.len;have hok:=h.ok;have Zd:=h.nn;refine bF (args:=[_,_]) (fn:=Tryz.f174) Tryz.func174 G (n:=15) Tryz.ntmps174 (T.aQ (Rg.bA G G (T.aQ (ab G G (eP G G G (ab G G ?_))))));refine aW (g:=7) G (λjM=>?_) (λjM=>?_)
 ·refine ak G G (ab G G (ak G G (ab G G (ak G G (cu G ⟨_,G⟩ G (ak G G (bR vW G G I3 q0 G G (ak G G (aV aq G G G W4 G (ak G G (ch G G G ?_)))))))))));refine bm G G G (Rg.bA G G (aT ?_))
  first
  |exact a97
  |exact a94
 ·refine ao G G G G (ao G G G G (ao G G G G (ao G G G G (ao G G G G (ao G G G G (aM G G G (Rg.bA G G (aT ?_))))))))
  first
  |exact a97
  |exact a94
theorem SG {M:aJ} {w0:World} {n:Nat} {ws:List Nat} {bs bw:Nat} (h:kH 133 190 n ws M w0 bs bw) {i:Int}:
  Spec Tryz.prog 175 #[.pointer (some ⟨bs,0,none⟩),.int .i64 i] w0 (λv' w'=>v'= .bool (UX n ws i)/\w0=w'):=by
 have hS:=h.s;have hW:=h.w;have hlen:=h.len;have hok:=h.ok;have Zd:=h.nn;refine bF (args:=[_,_]) (fn:=Tryz.f175) Tryz.func175 G (n:=23) Tryz.ntmps175 (T.aQ (Rg.bA G G (T.aQ (ab G G (ab G G ?_)))));refine a8 G G abF (Mv h) (λr wc h=>?_);obtain⟨rfl,rfl⟩:=h;refine ab G G ?_;refine aW (g:=8) G (λlA=>?_) (λlA=>?_)
 ·obtain⟨j,rfl⟩:∃j:Nat,i=j:=⟨i.toNat,by omega⟩;refine ak G G (ab G G (ak G G (cu G ⟨_,G⟩ G (ak G G (bR vW G G Oj q0 G G (ak G G (aV oh G G G W4 G (ak G G (ab G G (ak G G (Rg.zT G G G k3 ?_)))))))))));refine ak G G (Rg.CM oh Fb G G G k3 (ak rfl rfl (aV vT rfl rfl rfl hW (v:= .int .u64 ((ws.getD (j/64) 0:Nat):Int)) (by rw[show(((j:Int)/64)).toNat=j/64 from by omega];exact rj k3) (ak G G (ab G G (ak G G (Rg.zU G G G k3 (ak G G (Rg.shr G G G k3 (bc (v':= .int .u64 ((ws.getD (j/64) 0/2^(j%64):Nat):Int)) (congrArg _ (by rw[show((j:Int)%64)=((j%64:Nat):Int)from by omega];exact ZB _ _ k3)) (ak G G ?_)))))))))));refine Rg.and G G G (bc (v':= .int .u64 ((ws.getD (j/64) 0/2^(j%64)%2:Nat):Int)) (congrArg _ (by have:=PK (ws.getD (j/64) 0/2^(j%64)) 1 (Nat.lt_of_le_of_lt (Nat.div_le_self _ _) (hok.get _)) q0;rw[Nat.and_one_is_mod]at this;exact this)) (ak G G (sJ G G G (bm G G G (Rg.bA G G (aT ?_))))))
  first
  |exact aX G G ⟨congrArg Value.bool aj2,G⟩
  |exact aX G G ⟨congrArg Value.bool (by unfold UX;rw[decide_eq_false lA,mA]),rfl⟩
 ·refine ao G G G G (ao G G G G (ao G G G G (ao G G G G (ao G G G G (ao G G G G (ao G G G G (ao G G G G (ao G G G G (ao G G G G (ao G G G G (ao G G G G ?_)))))))))));refine ao G G G G (aM G G G (Rg.bA G G (aT ?_)))
  first
  |exact aX G G ⟨congrArg Value.bool aj2,G⟩
  |exact aX G G ⟨congrArg Value.bool (by unfold UX;rw[decide_eq_false lA,mA]),rfl⟩
theorem Om {M:aJ} {w0:World} {n:Nat} (hn:n<=1099511627776):
  Spec Tryz.prog 24 #[.int .i64 n] w0 (λv' w'=>∃bs bw,v'= .pointer (some ⟨bs,0,none⟩)/\w0.heap.size<=bs/\w0.heap.size<=bw/\Step M w0 (ins (ins M bw) bs) w' aA/\kH 133 190 n (List.replicate ((n+63)/64) 0) (ins (ins M bw) bs) w' bs bw):=by
 refine bF (args:=[_]) (fn:=Tryz.f24) Tryz.func24 G (n:=13) Tryz.ntmps24 (T.aQ (Rg.bA G G (T.aQ (ab G G (Rg.max2 G G G (bc (v':= .int .i64 n) (congrArg _ k3) (Rg.bA G G ?_)))))));refine T.aQ (ab G G (ab G G (bG G G G k3 (fQ G G G k3 (Rg.zT G G G k3 (bc (v':= .int .i64 (((n+63)/64:Nat):Int)) (congrArg _ k3) ?_))))));refine Rg.mk0 M oh Fb G G G G k3 k3 (λbw w1 z1 z1' h1 s1=>?_);refine ie (places:=[(0,1),(1,1)]) vW apU apV rfl ⟨_,_,rfl,rfl,_,_,rfl,rfl,rfl⟩ (out:=[_,_]) ⟨0,[_],rfl,rfl,by simp[Value.cells],1,[_],rfl,rfl,by simp[Value.cells],rfl⟩ ?_;refine zO (ins M bw) G G (λbs w2 z2 z2' h2 s2=>?_);have y1:=s1.size;refine Rg.bA G G (aT ?_);refine aX rfl rfl ⟨bs,bw,rfl,by omega,z1,s1.aw s2,.inl rfl,.inr (.inl rfl),by omega,by rw[db];exact h2,?_,by simp,λx hx=>by rw[jT hx];decide,hn⟩;have:=s2.aP h1;rw[this];simp[tD]
end Go.K
namespace Go.K
open Go.Proofs
set_option maxRecDepth 10000
theorem On {M:aJ} {w0:World} {n:Nat} {ws:List Nat} {bs bw:Nat} (h:kH 133 190 n ws M w0 bs bw):
  Spec Tryz.prog 102 #[.pointer (some ⟨bs,0,none⟩)] w0 (λv' w'=>v'= .int .i64 (n:Int)/\w0=w'):=by
 have hS:=h.s;have hW:=h.w;have hlen:=h.len;have hok:=h.ok;have Zd:=h.nn;refine bF (args:=[_]) (fn:=Tryz.f102) Tryz.func102 G (n:=7) Tryz.ntmps102 (T.aQ (Rg.bA G G (T.aQ (ab G G (cu G ⟨_,G⟩ G (bR vW G G I3 q0 G G (aV aq G G G W4 G (aB G G ?_))))))));refine ad (aT ?_);exact aj9
namespace TKSet3
theorem Oj:TI Tryz.prog 131 (.slice none 0 0) 1 24:=by unfold TI;kernel_rfl
theorem Fb:TI Tryz.prog 190 (.int .u64 0) 1 8:=by unfold TI;kernel_rfl
theorem ag8:Enters Tryz.prog 155:=enters Tryz.func155 rfl q0
theorem apW:Enters Tryz.prog 213:=enters Tryz.func213 rfl q0
end TKSet3
open TKSet3
set_option maxRecDepth 10000
theorem B7 {M:aJ} {w0:World} {n:Nat} {ws:List Nat} {bs bw:Nat} (h:kH 133 190 n ws M w0 bs bw) {i:Int} (hi: -1<=i/\i<=1099511627776) (hb:∀j,bit ws j=true->j<n) (Ol:∃e fr,w0.heap[1]? =some (.cells (OS.map fun(k:Nat)=>Value.int .u8 (k:Int)).toArray e fr)):
  Spec Tryz.prog 155 #[.pointer (some ⟨bs,0,none⟩),.int .i64 i] w0 (λv' w'=>(∃r,v'= .int .i64 r/\Xo ws i.toNat r/\ -1<=r/\r<=1099511627776)/\w0=w'):=by
 have hS:=h.s;have hW:=h.w;have hlen:=h.len;have hok:=h.ok;have Zd:=h.nn;refine bF (args:=[_,_]) (fn:=Tryz.f155) Tryz.func155 G (n:=36) Tryz.ntmps155 (T.aQ (Rg.bA G G (T.aQ (ab G G (Rg.max2 G G G (bc (v':= .int .i64 (i.toNat:Int)) (congrArg _ k3) (Rg.bA G G ?_)))))));refine aI (aS ?_);refine dg (σ:=Nat) (λs=>[(0,.pointer (some ⟨bs,0,none⟩)),(1,.int .i64 s)]) (λs w=>w0=w/\i.toNat<=s/\(∀t,i.toNat<=t->t<s->bit ws t=false)/\s<=1099511627840) (λs=>n+64-s) i.toNat a38 ?_ ?_
 ·exact⟨G,aN _,λt h1 h2=>by omega,by omega⟩
 ·rintro p w1 ⟨rfl,hp,kx,l4⟩;refine aI (T.aQ (ab G G (ab G G (cu G ⟨_,G⟩ G (bR vW G G I3 q0 G G (aV aq G G G W4 G (ch G G G (ad ?_))))))));refine bM G (λc2=>?_) (λc2=>?_)
  ·refine aR (aS (aI (T.aQ (ab G G (cu G ⟨_,G⟩ G (bR vW G G Oj q0 G G (aV oh G G G W4 G (ab G G (Rg.zT G G G k3 (Rg.CM oh Fb G G G k3 ?_))))))))));refine aV vT rfl rfl rfl hW (v:= .int .u64 ((ws.getD (p/64) 0:Nat):Int)) (by rw[show(((p:Int)/64)).toNat=p/64 from by omega];exact rj k3) (ab G G (Rg.zU G G G k3 (Rg.shr G G G k3 (bc (v':= .int .u64 ((ws.getD (p/64) 0/2^(p%64):Nat):Int)) (congrArg _ (by rw[show((p:Int)%64)=((p%64:Nat):Int)from by omega];exact ZB _ _ k3)) (Rg.bA G G (T.aQ (ab G G (fH G G G (ad ?_)))))))));refine bM G (λc4=>?_) (λc4=>?_)
   ·refine T.aQ (ab G G (ab G G ?_));obtain⟨k,m,I0⟩:=PN (ws.getD (p/64) 0/2^(p%64)) (Nat.pos_of_ne_zero λh=>c4 (by rw[h];rfl));have CI:=Gk (hok.get _) (show p%64<64 by omega) I0;have apX:ws.getD (p/64) 0/2^(p%64)<2^64:=Nat.lt_of_le_of_lt (Nat.div_le_self _ _) (hok.get _);refine a8 G G apW (C7 (k:=k) (m:=m) Ol I0 apX) (λr wc h=>?_);obtain⟨rfl,rfl⟩:=h;refine bG G G G k3 (Rg.bA G G (aT ?_));have OZ:=λt ht=>(Eu (k:=k) (m:=m)).2 t ht
    have Yt:bit ws (p+k)=true:=by rw[A0 CI,I0];exact Eu.1
    have:=hb _ Yt
    exact aX G G ⟨⟨_,G,.inl ⟨p+k,by omega,by omega,Yt,λt h1 h2=>by
     rcases cQ t p with h|h
     ·exact kx t h1 h
     ·have h3:=A0 (ws:=ws) (i:=p) (t:=t-p) k3;rw[show p+(t-p)=t from by omega]at h3;rw[h3,I0];exact OZ _ k3⟩,by omega,by omega⟩,rfl⟩
   ·have hz0:ws.getD (p/64) 0/2^(p%64)=0:=by
     have:=dj.1 c4;exact Int.ofNat.inj this
    refine aR (aH (ab G G (ab G G (Rg.zU G G G k3 (fQ G G G k3 (bG G G G k3 (Rg.bA G G ?_)))))));refine⟨rfl,p+(64-p%64),(.cons rfl (.cons (by rw[show((p+(64-p%64):Nat):Int)=(p:Int)+(64-(p:Int)%64)from by omega];rfl) .nil)),?_,?_⟩
    ·refine⟨G,by omega,λt h1 h2=>?_,by omega⟩;rcases cQ t p with h|h
     ·exact kx t h1 h
     ·have h3:=A0 (ws:=ws) (i:=p) (t:=t-p) k3;rw[show p+(t-p)=t from by omega]at h3;rw[h3,hz0];simp
    ·show n+64-(p+(64-p%64))<n+64-p;omega
  ·refine cO (T.aQ (Rg.bA G G (aT ?_)))
   exact aX G G ⟨⟨_,G,.inr ⟨G,λt h1=>by
    rcases cQ t p with h|h
    ·exact kx t h1 h
    ·cases VW:bit ws t with
     |false=>rfl
     |true=>have:=hb t VW;omega⟩,by omega,by omega⟩,rfl⟩
theorem Oo {M:aJ} {w0:World} {bs:Nat} (hM:Lt M w0):
  Spec Tryz.prog 103 #[.pointer (some ⟨bs,0,none⟩)] w0 (λv' w'=>∃bl,v'= .func (.func 154) #[] #[.pointer (some ⟨bl,0,none⟩)]/\w'.heap[bl]? =some (.cells #[.pointer (some ⟨bs,0,none⟩)] 47 (0,0))/\w0.heap.size<=bl/\Step M w0 M w' aA):=by
 refine bF (args:=[_]) (fn:=Tryz.f103) Tryz.func103 G (n:=4) Tryz.ntmps103 (T.aQ ?_);refine zO M G G (λbl w1 h1 UR hS s1=>?_);change w1.heap[bl]? =some (.cells #[.pointer (some ⟨bs,0,none⟩)] _ _)at hS;refine Rg.bA G G (T.aQ (l2 (xs:=[]) (ys:=[.tmp 1]) G G G (Rg.bA G G (aT ?_))));exact aX G G ⟨bl,G,hS,h1,s1.back⟩
theorem Kz {w0:World} {n:Nat} {ws:List Nat} {bs bw bl yl:Nat} {J:Nat->aJ->World->Prop} {M:aJ} {Jx:World->Prop} (hb:∀j,bit ws j=true->j<n) (L9:∀p M w,J p M w->w.heap[bl]? =some (.cells #[.pointer (some ⟨bs,0,none⟩)] 47 (0,0))/\kH 133 190 n ws M w bs bw/\(∃e fr,w.heap[1]? =some (.cells (OS.map fun(k:Nat)=>Value.int .u8 (k:Int)).toArray e fr))) (hy:∀(p j:Nat) (M:aJ) (w:World),J p M w->p<=j->bit ws j=true->(∀t,p<=t->t<j->bit ws t=false)->zn Tryz.prog yl [.int .i64 j].toArray w (λr w'=>∃c,r= .bool c/\(c=true->∃M',J (j+1) M' w')/\(c=false->Jx w'))) (h0:J 0 M w0):
  Spec Tryz.prog 154 #[.func (.yield yl) #[] #[],.pointer (some ⟨bl,0,none⟩)] w0 (λ_ w'=>(∃p M',J p M' w'∧∀t,p<=t->bit ws t=false)\/Jx w'):=by
 obtain⟨hl0,Z3,apY⟩:=L9 _ _ _ h0;refine bF (args:=[_,_]) (fn:=Tryz.f154) Tryz.func154 G (n:=17) Tryz.ntmps154 (T.aQ (aV qa G G G W4 G ?_));refine a8 G G ag8 (B7 Z3 (i:=0) k3 hb apY) (λr wc h=>?_);obtain⟨⟨r,rfl,hr,hr1,lr⟩,rfl⟩:=h;refine Rg.bA G G (aS ?_);refine dg (σ:=Nat×Int) (λs=>[(0,.func (.yield yl) #[] #[]),(1,.pointer (some ⟨bl,0,none⟩)),(3,.int .i64 s.2)]) (λs w=>(∃M1,J s.1 M1 w)/\Xo ws s.1 s.2/\ -1<=s.2/\s.2<=1099511627776/\s.1<=n) (λs=>n+1-s.1) (0,r) a06 ?_ ?_
 ·exact⟨⟨M,h0⟩,hr,hr1,lr,bC _⟩
 ·clear hr hr1 lr;rintro⟨p,r⟩ w1 ⟨⟨M1,hJ⟩,hr,hr1,lr,Oc⟩;dsimp only at hJ hr hr1 lr Oc ⊢;refine aI (T.aQ (ab G G (eP G G G (ab G G ?_))));refine aW (g:=8) G (λjM=>?_) (λjM=>?_)
  ·refine ak G G (ab G G (ak G G (ab G G (ak G G ?_))))
   have hrj:∃j:Nat,r=j/\p<=j/\bit ws j=true/\∀t,p<=t->t<j->bit ws t=false:=by
    rcases hr with h|h
    ·exact h
    ·omega
   obtain⟨j,rfl,Zj,hbj,kx⟩:=hrj;have OR:=hb j hbj;refine Rg.yield G (vs:=[.int .i64 j]) G G (hy p j M1 _ hJ Zj hbj kx) (λr4 w5 h5=>?_);obtain⟨c,rfl,hc5,hc6⟩:=h5;refine bc (v':= .bool (decide (c=true))) (by simp) (bm G G G (ad ?_));refine bM G (λc1=>?_) (λc1=>?_)
   ·obtain⟨M2,hJ2⟩:=hc5 c1;obtain⟨Uo,IT,apZ⟩:=L9 _ _ _ hJ2;refine aR (aI (aS (aR (aH (aV qa G G G W4 G (ab G G (bG G G G k3 ?_)))))));refine a8 G G ag8 (B7 IT (i:=(j:Int)+1) (by have:=IT.nn;omega) hb apZ) (λr wc h=>?_);obtain⟨⟨r2,rfl,aha,hr3,hr4⟩,rfl⟩:=h;refine Rg.bA G G ?_;refine⟨G,(j+1,r2),a06,?_,?_⟩
    ·refine⟨⟨M2,hJ2⟩,?_,hr3,hr4,by simp only;omega⟩;rw[show((j:Int)+1).toNat=j+1 from by omega]at aha;exact aha
    ·simp only;omega
   ·refine cO ?_;change yj Tryz.prog Tryz.f154 (λ_ w'=>(∃p M',J p M' w'∧∀t,p<=t->bit ws t=false)\/Jx w') .normal _ [] _
    first
    |exact iw G (.inr (hc6 (by simpa using c1)))
    |(have tu:∀t,p<=t->bit ws t=false:=by
       rcases hr with⟨j,h,_⟩|h
       ·omega
       ·exact h.2
      exact iw G (.inl ⟨p,M1,hJ,tu⟩))
  ·refine ao G G G G (ao G G G G (ao G G G G (aM G G G (ad (jD G (cO ?_))))));change yj Tryz.prog Tryz.f154 (λ_ w'=>(∃p M',J p M' w'∧∀t,p<=t->bit ws t=false)\/Jx w') .normal _ [] _
   first
   |exact iw G (.inr (hc6 (by simpa using c1)))
   |(have tu:∀t,p<=t->bit ws t=false:=by
      rcases hr with⟨j,h,_⟩|h
      ·omega
      ·exact h.2
     exact iw G (.inl ⟨p,M1,hJ,tu⟩))
end Go.K
namespace Go.K
open Go.Proofs
namespace TKSet2
theorem Oj:TI Tryz.prog 131 (.slice none 0 0) 1 24:=by unfold TI;kernel_rfl
theorem Fb:TI Tryz.prog 190 (.int .u64 0) 1 8:=by unfold TI;kernel_rfl
theorem E24:Enters Tryz.prog 24:=enters Tryz.func24 rfl q0
end TKSet2
open TKSet2
set_option maxRecDepth 10000
end Go.K
namespace Go.K
open Go.Proofs
namespace TKSet5
theorem ap2:Enters Tryz.prog 103:=enters Tryz.func103 rfl q0
theorem ap3:Enters Tryz.prog 154:=enters Tryz.func154 rfl q0
end TKSet5
open TKSet5
set_option maxRecDepth 10000
def low (ws:List Nat):Nat->List Int
 |0=>[]
 |p+1=>if bit ws p then low ws p++[(p:Int)]else low ws p
theorem Mw (ws:List Nat):∀p,(low ws p).length<=p
 |0=>aN _
 |p+1=>by
  have:=Mw ws p;unfold low;split
  ·simp;omega
  ·omega
theorem xR {ws:List Nat} {p:Nat}:∀{j:Nat},p<=j->(∀t,p<=t->t<j->bit ws t=false)->low ws j=low ws p
 |0,h,_=>by rw[show p=0 by omega]
 |j+1,h,kx=>by
  rcases gH h with e|h1
  ·rw[e]
  ·rw[low,kx j k3 k3];simp only[Bool.false_eq_true,if_false];exact xR k3 (λt h1 h2=>kx t h1 k3)
theorem Fc (ws:List Nat):∀p x,x∈low ws p↔∃t:Nat,x=(t:Int)/\t<p/\bit ws t=true
 |0,x=>by simp[low]
 |p+1,x=>by
  have ih:=Fc ws p x;unfold low;constructor
  ·intro h
   split at h
   ·rename_i hb
    rcases cP.1 h with h|h
    ·obtain⟨t,h1,h2,h3⟩:=ih.1 h;exact⟨t,h1,by omega,h3⟩
    ·rw[b9.1 h];exact⟨p,G,by omega,hb⟩
   ·obtain⟨t,h1,h2,h3⟩:=ih.1 h;exact⟨t,h1,by omega,h3⟩
  ·rintro⟨t,h1,h2,h3⟩;rcases cQ t p with h|h
   ·have:=ih.2 ⟨t,h1,h,h3⟩
    split
    ·exact cP.2 (.inl this)
    ·exact this
   ·have:t=p:=by omega
    subst this;rw[if_pos h3];exact cP.2 (.inr (by rw[h1];exact b9.2 G))
theorem My:C5 (RT.int .i64):=λ_ _ _ _ _ _ h=>h
structure O3 (n:Nat) (ws:List Nat) (bs bw bl:Nat) (M:aJ) (w:World):Prop where
 f: ¬M bl/\¬M bs/\¬M bw/\¬M 1
 l:w.heap[bl]? =some (.cells #[.pointer (some ⟨bs,0,none⟩)] 47 (0,0))
 s:kH 133 190 n ws (λ_=>True) w bs bw
 t:∃e fr,w.heap[1]? =some (.cells (OS.map fun(k:Nat)=>Value.int .u8 (k:Int)).toArray e fr)
theorem O3.keeps {n:Nat} {ws:List Nat} {bs bw bl:Nat} {M M':aJ} {w w':World} (h:O3 n ws bs bw bl M w) (l:Le M w M' w'):O3 n ws bs bw bl M' w':=by
 obtain⟨⟨f1,f2,f3,f4⟩,hl,hs,e,fr,ht⟩:=h;have a1:=l bl (ae hl) f1;have a2:=l bs (ae hs.s) f2;have a3:=l bw (ae hs.w) f3;have a4:=l 1 (ae ht) f4;exact⟨⟨a1.1,a2.1,a3.1,a4.1⟩,a1.2.trans hl,⟨trivial,trivial,hs.ne,a2.2.trans hs.s,a3.2.trans hs.w,hs.len,hs.ok,hs.nn⟩,e,fr,a4.2.trans ht⟩
theorem KA {M:aJ} {w0:World} {n:Nat} {ws:List Nat} {bs bw:Nat} (hM:Lt M w0) (h:kH 133 190 n ws (λ_=>True) w0 bs bw) (hb:∀j,bit ws j=true->j<n) (hf: ¬M bs/\¬M bw/\¬M 1) (Ol:∃e fr,w0.heap[1]? =some (.cells (OS.map fun(k:Nat)=>Value.int .u8 (k:Int)).toArray e fr)):
  Spec Tryz.prog 57 #[.pointer (some ⟨bs,0,none⟩)] w0 (λv w=>∃M',Own (RT.int .i64) 3 M' w w0.heap.size v (low ws n)/\Step M w0 M' w aA):=by
 have ir:=hM;refine qf (args:=[_]) (fn:=Tryz.f57) Tryz.func57 G (n:=13) Tryz.ntmps57 ?_;have S:Step M w0 M w0 aA:=bz;refine T.aQ (Rg.bA G G (T.aQ ?_));refine eA M iJ G (λeW zZ Qk Ql kn lz=>?_);obtain⟨lR,kJ⟩:∃M',M'=ins M eW:=⟨_,rfl⟩;rw[<-kJ]at lz;have iP:lR eW:=by rw[kJ];exact .inl G
 change zZ.heap[eW]? =some (.cells #[.slice none 0 0] _ _)at kn;replace hM:=lz.lt hM;have:=S.size;replace S:=S.aw lz;refine ad (aI (T.aQ (ab G G ?_)));refine a8 G G ap2 (Oo (bs:=bs) hM) (λr2 w2 hc=>?_);obtain⟨bl,rfl,gl,mn,s2⟩:=hc;have fl: ¬lR bl:=λh=>by have:=hM _ h;omega
 have hk:O3 n ws bs bw bl lR w2:=by
  obtain⟨e,fr,ht⟩:=Ol;have q:=S.aw s2;exact⟨⟨fl,λhn=>hf.1 ((q.mem _ (ae h.s)).1 hn),λhn=>hf.2.1 ((q.mem _ (ae h.w)).1 hn),λhn=>hf.2.2 ((q.mem _ (ae ht)).1 hn)⟩,gl,⟨trivial,trivial,h.ne,q.aP h.s,q.aP h.w,h.len,h.ok,h.nn⟩,e,fr,q.aP ht⟩
 have:=ae kn;replace iP:=(s2.mem _ this).2 iP;replace kn:=s2.aP kn;replace hM:=s2.lt hM;have:=S.size;replace S:=S.aw s2;refine ad (aS ?_);refine T.range (gf:=154) (lb:=[.pointer (some ⟨bl,0,none⟩)].toArray) G ap3 (λrec pI=>?_);obtain⟨D,hD⟩:∃D,D=w2.heap.size:=⟨_,rfl⟩;obtain⟨Mr,h0⟩:=apy (A:=RT.int .i64) (e:=3) (T:=37) (C:=284) (K:=O3 n ws bs bw bl) (st:=rec .ready none) O3.keeps hM S kn iP hk k3;rw[<-hD]at pI h0 ⊢;refine Spec.mono (Kz (M:=λ_=>True) (J:=λp Ma w=>Ma=(λ_=>True)/\∃M' vo,Sm (RT.int .i64) 3 37 284 (O3 n ws bs bw bl) M w0 eW D (rec .ready none) vo (low ws p) M' w) (Jx:=λ_=>False) hb (λp Ma w ⟨e,M',vo,h⟩=>by subst e;exact⟨h.k.l,h.k.s,h.k.t⟩) (λp j Ma wr hJ Zj hbj kx=>?_) ⟨G,Mr,_,h0⟩) (λ_ w3 h3=>?_)
 ·obtain⟨_,M',vo,h⟩:=hJ;have OR:=hb j hbj;have Zd:=h.k.s.nn;have F3:=Mw ws p;refine nW (ps:=[7]) (vs:=[.int .i64 (j:Int)]) pI h.r G q0 (aH (Rg.bA G G (⟨G,h.r,?_⟩)));have h4:=h.oP O3.keeps (st':=rec .busy none);have s4:Step M' wr M' (wr.putObj (D+1) (.loop (rec .busy none))) (λk=>k=D+1):=eO h.mr;generalize wr.putObj (D+1) _=w4 at h4 s4 ⊢;refine aS (aH (aV ah G G G h4.o G (bc (v':=vo) G (ab G G ?_))));refine dP (A:=RT.int .i64) (hn:=by decide) (M:=M') ah I3 q0 G G h4.lt (ze.2 ⟨G,by show-9223372036854775808<=(j:Int)/\(j:Int)<=9223372036854775807;omega⟩) (.inr ⟨rfl,rfl⟩) (λu5 w5 Gv s5=>?_);have h6:=h4.aE O3.keeps s5;refine cN (M:=M') (base:=w0.heap.size) ah I3 rfl rfl rfl rfl h6.own Gv bY a03 a03 h6.S.size (λv6 M6 w6 th s6=>?_);obtain⟨⟨go6,mo6⟩,IX⟩:=h6.grow O3.keeps q0 s6 th;refine cF (M:=M6) iJ rfl rfl go6 rfl ak2 mo6 (λw7 g7 s7=>?_);refine ad ?_;have h8:=(IX s7 g7).oP O3.keeps (st':=rec .ready none);exact⟨(IX s7 g7).r,true,rfl,λ_=>⟨_,rfl,M6,v6,by rw[low,if_pos hbj,xR Zj kx];exact h8⟩,λh=>by cases h⟩
 ·obtain⟨p,_,⟨_,M',vo,h⟩,tu⟩:=h3.resolve_right id;left;refine ⟨h.r,?_⟩;have h5:=h.oP O3.keeps (st':=rec .exhausted none);generalize w3.putObj (D+1) _=wE at h5 ⊢;refine T.aQ (aV ah G G G h5.o G (bc (v':=vo) G (Rg.bA G G (aT ?_))));have sE:Step M' wE M' (wE.putObj D (.deferred none)) (λk=>k=D):=eO h5.md;have hz:=h5.z;have hS:=h5.S.cL sE (λk (hk:k=D)=>by omega)
  have ho:=h5.own.step sE (λb hb (hn:b=D)=>by
   obtain⟨cs,hc⟩:=h5.own.isCells hb;rw[hn,h5.d]at hc;cases hc)
  have e:low ws n=low ws p:=by
   rcases Nat.le_total p n with h1|h1
   ·exact xR h1 (λt h2 _=>tu t h2)
   ·exact(xR h1 (λt h2 _=>by
     cases VW:bit ws t with
     |false=>rfl
     |true=>have:=hb t VW;omega)).symm
  exact Er rfl rfl h5.d ⟨M',by rw[e];exact ho,hS⟩
end Go.K
namespace Go.K
open Go.Proofs
namespace TKMay11
theorem O4:TI Tryz.prog 25 (.pointer none) 1 8:=by unfold TI;kernel_rfl
theorem Wi:TI Tryz.prog 47 (.pointer none) 1 8:=by unfold TI;kernel_rfl
theorem E34:Enters Tryz.prog 34:=enters Tryz.func34 rfl q0
theorem ap4:Enters Tryz.prog 102:=enters Tryz.func102 rfl q0
end TKMay11
open TKMay11
set_option maxRecDepth 10000
def KB (M:aJ) (w:World) (n:Nat) (ws:List Nat) (bs:Nat):Prop:=∃bw,kH 133 190 n ws (λ_=>True) w bs bw/\¬M bs/\¬M bw
theorem KB.le {M M':aJ} {w w':World} {n:Nat} {ws:List Nat} {bs:Nat} (hl:Le M w M' w') (h:KB M w n ws bs):KB M' w' n ws bs:=by
 obtain⟨bw,h1,h2,h3⟩:=h;obtain⟨a1,a2⟩:=hl bs (ae h1.s) h2;obtain⟨b1,b2⟩:=hl bw (ae h1.w) h3;exact⟨bw,⟨trivial,trivial,h1.ne,a2.trans h1.s,b2.trans h1.w,h1.len,h1.ok,h1.nn⟩,a1,b1⟩
theorem KB.all {M:aJ} {w:World} {n:Nat} {ws:List Nat} {bs:Nat} (h:KB M w n ws bs):∃bw,kH 133 190 n ws (λ_=>True) w bs bw:=by
 obtain⟨bw,h1,_⟩:=h;exact⟨bw,h1⟩
def C8 (M:aJ) (w:World) (a:List Bool) (bs:Nat):Prop:=∃ws,KB M w a.length ws bs/\∀j,bit ws j=true↔a[j]? =some true
theorem C8.le {M M':aJ} {w w':World} {a:List Bool} {bs:Nat} (hl:Le M w M' w') (h:C8 M w a bs):C8 M' w' a bs:=by
 obtain⟨ws,h1,h2⟩:=h;exact⟨ws,h1.le hl,h2⟩
theorem AA (ws:List Nat):∀p,(low ws p).Pairwise (· < ·)
 |0=>List.Pairwise.nil
 |p+1=>by
  unfold low
  split
  ·refine lZ.2 ⟨AA ws p,by simp,λa ha b hb=> ?_⟩;obtain⟨t,rfl,ht,_⟩:=(Fc ws p a).1 ha;rw[b9.1 hb];omega
  ·exact AA ws p
theorem KC {ws:List Nat} {a:List Bool} (h:∀j,bit ws j=true↔a[j]? =some true):low ws a.length=gx a:=by
 refine xB (R:=λa b=>a<b) (λa b h1 h2=>by omega) (AA _ _) (xN _) ((AA _ _).imp λh e=>by omega) ((xN _).imp λh e=>by omega) λx=> ?_
 rw[Fc,mM];constructor
 ·rintro⟨t,rfl,_,h2⟩;exact⟨t,G,(h t).1 h2⟩
 ·rintro⟨t,rfl,h2⟩;exact⟨t,G,(aj.1 h2).1,(h t).2 h2⟩
theorem HS {M:aJ} {w0:World} {a:List Bool} {bs:Nat} (hM:Lt M w0) (h:C8 M w0 a bs) (h0: ¬M 1) (Ol:∃e fr,w0.heap[1]? =some (.cells (OS.map fun(k:Nat)=>Value.int .u8 (k:Int)).toArray e fr)):Spec Tryz.prog 57 #[.pointer (some ⟨bs,0,none⟩)] w0 (λv w=>((RT.int .i64).sl).V M w (gx a) v/\Step M w0 M w aA):=by
 obtain⟨ws,⟨bw,h1,h2,h3⟩,h4⟩:=h;refine(KA hM h1 (λj hj=>(aj.1 ((h4 j).1 hj)).1) ⟨h2,h3,h0⟩ Ol).mono λv w ⟨M',ho,s⟩=>?_
 rw[KC h4]at ho;exact ho.Ko My s (aN _) hM (by have:=od a;have:=h1.nn;omega)
theorem KD {M:aJ} {ss:List Se} {bs ns:List Nat} {v0 v1:Value} (w0:World) (hs:(((RT.se).ptr).sl).V M w0 ss v0) (hb:(RT.Ur.sl).V M w0 bs v1) (hl:bs.length=ss.length) (hn:ns.length=ss.length) (dy:∀(i b n:Nat),bs[i]? =some b->ns[i]? =some n->∃ws,KB M w0 n ws b):
  Spec Tryz.prog 56 #[v0,v1] w0 (λv w=>v= .bool (decide (ss.map (λs=>s.1.length)=ns))/\w=w0):=by
 have hlen:=dZ hs;refine bF (args:=[_,_]) (fn:=Tryz.f56) Tryz.func56 G (n:=39) Tryz.ntmps56 (T.aQ (Rg.bA G G (aI (T.aQ (ab G G (bK fS G hs G (ab G G (bK Tryz.underlying49 G hb G ?_))))))));refine fH G G G (ad (T.zQ G ((λh=>h (by rw[hl]))) (aR (aI (T.aQ (ab G G (bK fS G hs G (ab G G (ad (aS ?_))))))))));refine dg (σ:=Nat) (λi=>[(1,v1),(12,v0),(13,.int .i64 (ss.length:Int)),(14,.int .i64 (i:Int))]) (λi w=>i<=ss.length/\(∀(j:Nat),j<i->∀(s:Se) (n:Nat),ss[j]? =some s->ns[j]? =some n->s.1.length=n)/\w=w0) (λi=>ss.length-i) 0 Y7 ?_ ?_
 ·exact⟨bC _,(λj h=>by omega),G⟩
 ·rintro i w ⟨hi,jr,rfl⟩;refine T.aQ (ch G G G (ad (aI ?_)));refine bM G (λc4=>?_) (λc4=>?_)
  ·refine aR (aI (aS (T.aQ (ab G G ?_))));obtain⟨s,NO⟩:∃s,ss[i]? =some s:=⟨_,al k3⟩;refine bX fS O4 G G G hs bY k3 (λu5 x_ eo Gv=>?_);rw[an]at eo;obtain rfl:=ar (NO.symm.trans eo);refine bE kC G G G G G Gv bY (λv5 tg=>?_);have hp5:=oQ.1 tg;obtain⟨a5,rfl⟩:=hp5.iZ;refine aB G G (Rg.bA G G (T.aQ (ab G G (Rg.Gf kC G ⟨_,G⟩ G G (ab G G (ak G G (ab G G (ak G G (ab G G ?_)))))))));refine ak G G ?_;obtain⟨b,P0⟩:∃b,bs[i]? =some b:=⟨_,al k3⟩;refine bX Tryz.underlying49 Wi G G G hb bY k3 (λu6 x_ eo GA=>?_);rw[an]at eo;obtain rfl:=ar (P0.symm.trans eo);refine ak G G ?_;refine bE qa G G G G G GA bY (λvb DR=>?_);obtain rfl:=LF.1 DR;refine ak G G (Rg.Gf qa G ⟨_,G⟩ G G (aM G G G (ab G G (ak G G (ab G G (ak G G (ab G G (ak G G ?_))))))));refine bX Tryz.underlying49 Wi G G G hb bY k3 (λaBD x_ eo ahd=>?_);rw[an]at eo;obtain rfl:=ar (P0.symm.trans eo);refine ak G G ?_;refine bE qa G G G G G ahd bY (λvb2 ap5=>?_);obtain rfl:=LF.1 ap5;refine ak G G ?_;obtain⟨nn,Xg⟩:∃n,ns[i]? =some n:=⟨_,al k3⟩;obtain⟨ws,Xc⟩:=dy i b nn P0 Xg;obtain⟨bw,hsa⟩:=Xc.all;refine a8 G G ap4 (On hsa) (λr6 w6 hc=>?_);obtain⟨rfl,rfl⟩:=hc;refine ak G G (ab G G (ak G G ?_));refine a8 G G E34 (DY _ hp5) (λr7 w7 hc=>?_);obtain⟨rfl,rfl⟩:=hc;refine ak G G (fH G G G (aM G G G (ad ?_)))
   refine bM G (λc6=>?_) (λc6=>?_)
   ·refine T.aQ (Rg.bA G G (aT ?_))
    exact aX G G ⟨congrArg Value.bool (dw (decide_eq_false λh=>c6 (by
     have h1:=congrArg (·[i]?) h;rw[bj,NO,Xg]at h1;have h9:s.1.length=nn:=ar h1;omega))),rfl⟩
   ·refine aR (aH (bG G G G k3 (ab G G (ad ?_))));refine⟨G,i+1,Y7,?_,?_⟩
    ·refine⟨by omega,λj hj s' n' h1 h2=>?_,rfl⟩;rcases cQ j i with h|h
     ·exact jr j h s' n' h1 h2
     ·obtain rfl:j=i:=by omega
      rw[NO]at h1;rw[Xg]at h2;cases h1;cases h2;omega
    ·omega
  ·refine cO (T.aQ (Rg.bA G G (aT ?_)))
   exact aX G G ⟨congrArg Value.bool (dw (decide_eq_true (by
    apply eS;intro j;rw[bj];rcases cQ j ss.length with h|h
    ·obtain⟨s,hs⟩:∃s,ss[j]? =some s:=⟨_,al h⟩;obtain⟨n,JG⟩:∃n,ns[j]? =some n:=⟨_,al k3⟩;rw[hs,JG,dA,jr j k3 s n hs JG]
    ·rw[cE h,cE k3];rfl))),rfl⟩
end Go.K
namespace Go.K
open Go.Proofs
set_option maxRecDepth 10000
theorem Wj {M:aJ} {w:World} {x:Po} {v:Value} (h:RT.po.V M w x v):∃u,v= .agg #[.int .i64 x.1,u]/\((RT.int .i64).sl).V M w x.2 u/\(-9223372036854775808<=x.1/\x.1<=9223372036854775807):=by
 obtain⟨vs,⟨va,vb,rfl,⟨rfl,hk⟩,hb⟩,rfl⟩:=h;obtain⟨a,cap,rfl,h2⟩:=hb;exact⟨.slice a x.2.length cap,G,⟨_,⟨a,cap,G,h2⟩,G⟩,hk⟩
theorem Yu {M:aJ} {w:World} {x:Int} {ps:List Int} {u:Value} (hx: -9223372036854775808<=x/\x<=9223372036854775807) (hu:((RT.int .i64).sl).V M w ps u):RT.po.V M w (x,ps) (.agg #[.int .i64 x,u]):=fE (gw hx) hu rfl rfl rfl rfl
theorem KE {M:aJ} {l:List Po} {to:List Int} {v0 v1:Value} (w0:World) (hM:Lt M w0) (hv:(RT.po.sl).V M w0 l v0) (ht:((RT.int .i64).sl).V M w0 to v1) (hl:l.length<=1000000) (k4:∀p∈l,0<=p.1/\p.1<to.length):
  Spec Tryz.prog 63 #[v0,v1] w0 (λv w=>∃M',Own RT.po 83 M' w w0.heap.size v (mN to l)/\Lt M' w/\Step M w0 M' w aA):=by
 have ir:=hM;refine bF (args:=[_,_]) (fn:=Tryz.f63) Tryz.func63 G (n:=33) Tryz.ntmps63 ?_;have S:Step M w0 M w0 aA:=bz;refine T.aQ (Rg.bA G G (T.aQ (Rg.bA G G (aI (T.aQ (ab G G ?_))))));refine bK bu G hv G (ab G G (ad (aS ?_)));refine dg (σ:=Nat×Value) (λq=>[(1,v1),(5,q.2),(8,v0),(9,.int .i64 (l.length:Int)),(10,.int .i64 (q.1:Int))]) (λq w=>q.1<=l.length/\∃M1,Lt M1 w/\(RT.po.sl).V M1 w l v0/\((RT.int .i64).sl).V M1 w to v1/\Own RT.po 83 M1 w w0.heap.size q.2 (mN to (l.take q.1))/\Step M w0 M1 w aA) (λq=>l.length-q.1) (0,.slice none 0 0) a19 ?_ ?_
 ·exact⟨bC _,_,hM,hv,ht,dh _ _ _ _ _,S⟩
 ·clear hM hv ht S;rintro⟨i,u⟩ w ⟨hi,M1,hM,hv,ht,ho,S⟩;dsimp only at hi ho ⊢;have kD:=λb hb=>(ho.base b hb).2
  refine T.aQ (ch G G G (ad (aI ?_)));refine bM G (λc3=>?_) (λc3=>?_)
  ·refine aR (aI (aS (T.aQ ?_)));obtain⟨p,hk⟩:∃p,l[i]? =some p:=⟨_,al k3⟩;obtain⟨hp0,uQ⟩:=k4 p (au hk);have NM:l.take (i+1)=l.take i++[p]:=by rw[bB,hk];rfl
   have tq:=wR to (l.take i);have aBF:(l.take i).length=i:=by rw[aU];omega
   refine bX bu ng G G G hv bY k3 (λu40 y ahe Su=>?_);rw[an]at ahe;obtain rfl:=ar (hk.symm.trans ahe);refine cW (A:=RT.po) bW G ng q0 G G G Su bY (λv41 pO=>?_);obtain⟨ux,rfl,IL,hpr⟩:=Wj pO;obtain⟨ua,uc,rfl,_,_,_⟩:=jg.1 IL;refine eA M1 ng G (λWk U6 aBG aBH kM oH=>?_);obtain⟨HT,SH⟩:∃M',M'=ins M1 Wk:=⟨_,rfl⟩;rw[<-SH]at oH;have pP:HT Wk:=by rw[SH];exact .inl G
   change U6.heap[Wk]? =some (.cells #[.int .i64 0,.slice none 0 0] _ _)at kM;replace hv:=hv.le oH.le;replace ht:=ht.le oH.le;replace pO:=pO.le oH.le;replace IL:=IL.le oH.le;replace ho:=ho.aE oH;replace hM:=oH.lt hM;have:=S.size;replace S:=S.aw oH;refine ej (M:=HT) (vs:=[.int .i64 p.1,.slice ua p.2.length uc]) ng G G (ET G pO) G G kM pP (λw43 g43 Wl=>?_);have:=ae kM;replace pP:=(Wl.mem _ this).2 pP;replace hv:=hv.le Wl.le;replace ht:=ht.le Wl.le;replace pO:=pO.le Wl.le;replace IL:=IL.le Wl.le;replace ho:=ho.step Wl (λb hb hk=>by have hk:b=Wk:=hk;have:=kD b hb;omega);replace hM:=Wl.lt hM;have:=S.size;replace S:=S.trans Wl (λk hk h=>by have h:_=_:=h;subst h;first|(exfalso;omega)|(show _<=_;omega)|exact⟨by first|omega|assumption,(S.mem _ hk).1 ((Wl.mem _ (ae kM)).1 pP)⟩|exact .inl rfl|exact .inr rfl|exact .inr (.inl rfl)|exact .inr (.inr rfl)|exact .inr (.inr (.inl rfl))|exact rfl);have Yv:=g43;clear kM;have kM:=Yv;clear Yv;refine ad (T.aQ (ab G G (bR (o':=0) bW G G I3 q0 G G (aV aq G G G kM G (bc (v':= .int .i64 p.1) G ?_)))));refine bX ah I3 G G G ht bY k3 (λu53 x53 ap6 xL=>?_);refine bE aq G G G G G xL bY (λv53 ap7=>?_);obtain⟨rfl,aBK⟩:=ze.1 ap7;obtain rfl:to.getD p.1.toNat 0=x53:=by rw[ax,ap6];rfl
   refine eP G G G (ad ?_);refine bM G (λc5=>?_) (λc5=>?_)
   ·apply nq 9 [0] 1 aA mixed rfl rfl rfl rfl;intro X5 V9;have o6:=V9 HT;have:=ae kM;replace pP:=(o6.mem _ this).2 pP;replace kM:=o6.aP kM;replace hv:=hv.le o6.le;replace ht:=ht.le o6.le;replace pO:=pO.le o6.le;replace IL:=IL.le o6.le;replace ho:=ho.aE o6;replace hM:=o6.lt hM;have:=S.size;replace S:=S.aw o6;refine ab G G (Rg.bL (ab G G (Rg.bL (bR (o':=0) bW G G I3 q0 G G (Rg.bL (aV aq G G G kM G (bc (v':= .int .i64 p.1) G (Rg.bL ?_))))))));refine bX ah I3 G G G ht bY k3 (λu64 x64 ap8 Sx=>?_);refine Rg.bL ?_;refine bE aq G G G G G Sx bY (λv64 abG=>?_);obtain⟨rfl,ap9⟩:=ze.1 abG;obtain rfl:to.getD p.1.toNat 0=x64:=by rw[ax,ap8];rfl
    refine Rg.bL (bR (o':=1) bW G G iJ q0 rfl rfl (Rg.bL (aV ah rfl rfl rfl kM rfl (bc (v':= .slice ua p.2.length uc) rfl (Rg.bL (ie (places:=[(0,1),(1,1)]) bW ng ZE rfl ⟨_,_,rfl,rfl,_,_,rfl,rfl,rfl⟩ (out:=[_,_]) ⟨0,[_],rfl,rfl,by simp[Value.cells],1,[_],rfl,rfl,by simp[Value.cells],rfl⟩ (Rg.bL (dD (⟨eQ ⟨ey,trivial⟩,?_⟩)))))))));have kp:=fq aA X5;refine dP (A:=RT.po) (hn:=by decide) (M:=HT) bu ng q0 G G hM (Yu (ps:=p.2) ap9 IL) (.inl G) (λaBM aBN SI Fe=>?_);have:=ae kM;replace pP:=(Fe.mem _ this).2 pP;replace kM:=Fe.aP kM;replace hv:=hv.le Fe.le;replace ht:=ht.le Fe.le;replace pO:=pO.le Fe.le;replace IL:=IL.le Fe.le;replace ho:=ho.aE Fe;replace hM:=Fe.lt hM;have:=S.size;replace S:=S.aw Fe;refine(fun(kp:eB _ _ _)=>ad ⟨G,G,λ_=>kp,?_⟩) a00;refine cN (M:=HT) (base:=w0.heap.size) bu ng G G G G ho SI bY (by show _+1<=_;omega) (by show(_+1)*_<=_;omega) (S.size) (λahf av7 Yw abH nk=>?_);have:=ae kM;replace pP:=(nk.mem _ this).2 pP;replace kM:=nk.keep kM (λh=>by have:=kD _ h;omega);replace hv:=hv.le nk.le;replace ht:=ht.le nk.le;replace pO:=pO.le nk.le;replace IL:=IL.le nk.le;replace SI:=SI.le nk.le;replace hM:=nk.lt hM;have:=S.size;replace S:=S.cC nk ho (aN _);replace ho:=abH;refine ad ⟨G,G,λh=>absurd G h,aB G G (ad ⟨G,G,λh=>absurd G h,iu (aH (bG G G G k3 (ab G G (ad ?_))))⟩)⟩;refine⟨G,(i+1,ahf),a19,?_,?_⟩
    ·exact⟨by dsimp only;omega,_,hM,hv,ht,by dsimp only;rw[NM,B3,if_pos c5];exact ho,S⟩
    ·dsimp only;omega
   ·refine aR (aH (bG G G G k3 (ab G G (ad ?_))));refine⟨G,(i+1,u),a19,?_,?_⟩
    ·exact⟨by dsimp only;omega,_,hM,hv,ht,by dsimp only;rw[NM,B3,if_neg c5];exact ho,S⟩
    ·dsimp only;omega
  ·refine cO (T.aQ (ab G G (Rg.bA G G (aT ?_))));rw[aL k3]at ho;exact aX G G ⟨_,ho,hM,S⟩
end Go.K
namespace Go.Proofs
open Go.Shelf
def Tryz.KF:Go.Shelf.Ren:=⟨fun|6=>64|15=>115|14=>114|28=>172|29=>173|20=>164|21=>165|22=>166|23=>167|24=>168|25=>169|26=>170|27=>171|46=>217|47=>218|48=>219|49=>220|50=>221|57=>262|n=>n,fun|22=>80|24=>83|25=>129|3=>3|39=>189|0=>0|53=>257|55=>190|4=>4|46=>251|45=>250|50=>202|5=>5|9=>9|66=>296|70=>300|76=>327|77=>328|n=>n,fun|n=>n⟩
theorem Tryz.abI:Go.Proofs.SlLaysF0.n6 Tryz.prog Tryz.KF:={
 mixed:=by kernel_rfl
 f6:=⟨Tryz.f64.name,by decide,Tryz.func64.trans a02⟩
 f14:=⟨Tryz.f114.name,by decide,Tryz.func114.trans a02⟩
 f15:=Tryz.func115.trans a02
 f20:=⟨Tryz.f164.name,by decide,Tryz.func164.trans a02⟩
 f21:=⟨Tryz.f165.name,by decide,Tryz.func165.trans a02⟩
 f22:=⟨Tryz.f166.name,by decide,Tryz.func166.trans a02⟩
 f23:=⟨Tryz.f167.name,by decide,Tryz.func167.trans a02⟩
 f24:=⟨Tryz.f168.name,by decide,Tryz.func168.trans a02⟩
 f25:=⟨Tryz.f169.name,by decide,Tryz.func169.trans a02⟩
 f26:=⟨Tryz.f170.name,by decide,Tryz.func170.trans a02⟩
 f27:=⟨Tryz.f171.name,by decide,Tryz.func171.trans a02⟩
 f28:=Tryz.func172.trans a02
 f29:=Tryz.func173.trans a02
 f46:=⟨Tryz.f217.name,by decide,Tryz.func217.trans a02⟩
 f47:=Tryz.func218.trans a02
 f48:=Tryz.func219.trans a02
 f49:=⟨Tryz.f220.name,by decide,Tryz.func220.trans a02⟩
 f50:=⟨Tryz.f221.name,by decide,Tryz.func221.trans a02⟩
 f57:=⟨Tryz.f262.name,by decide,Tryz.func262.trans a02⟩
 t0:=ic
 a0:=nB
 z0:=lW
 v0:=iT
 t3:=aq
 a3:=nC
 z3:=lX
 v3:=iU
 t4:=fm
 a4:=vg
 z4:=p8
 v4:=kZ
 t5:=dq
 a5:=Tryz.isAgg5
 z5:=Tryz.sizeOf5
 v5:=wY
 t9:=aG
 a9:=nD
 z9:=lY
 v9:=iV
 t22:=bu
 a22:=Tryz.isAgg80
 z22:=Tryz.sizeOf80
 v22:=Tryz.zeroValue80
 t25:=Tryz.underlying129
 a25:=Tryz.isAgg129
 z25:=Tryz.sizeOf129
 v25:=Tryz.zeroValue129
 t39:=lF
 a39:=Tryz.isAgg189
 z39:=Tryz.sizeOf189
 v39:=Tryz.zeroValue189
 t45:=Tryz.underlying250
 a45:=Tryz.isAgg250
 z45:=Tryz.sizeOf250
 v45:=Tryz.zeroValue250
 t46:=Tryz.underlying251
 a46:=Tryz.isAgg251
 z46:=Tryz.sizeOf251
 v46:=Tryz.zeroValue251
 t50:=Tryz.underlying202
 a50:=Tryz.isAgg202
 z50:=Tryz.sizeOf202
 v50:=Tryz.zeroValue202
 t53:=Tryz.underlying257
 a53:=Tryz.isAgg257
 z53:=Tryz.sizeOf257
 v53:=Tryz.zeroValue257
 t55:=vT
 a55:=Tryz.isAgg190
 z55:=Tryz.sizeOf190
 v55:=Tryz.zeroValue190
 t66:=Tryz.underlying296
 a66:=Tryz.isAgg296
 z66:=Tryz.sizeOf296
 v66:=Tryz.zeroValue296
 t70:=Tryz.underlying300
 a70:=Tryz.isAgg300
 z70:=Tryz.sizeOf300
 v70:=Tryz.zeroValue300
 t76:=Tryz.underlying327
 a76:=Tryz.isAgg327
 z76:=Tryz.sizeOf327
 v76:=Tryz.zeroValue327
 t77:=Tryz.underlying328
 a77:=Tryz.isAgg328
 z77:=Tryz.sizeOf328
 v77:=Tryz.zeroValue328}
end Go.Proofs
namespace Go.K
open Go.Proofs
namespace TKSmall11
theorem E66:Enters Tryz.prog 66:=enters Tryz.func66 rfl q0
theorem abm:Enters Tryz.prog 116:=enters Tryz.func116 rfl q0
end TKSmall11
open TKSmall11
set_option maxRecDepth 10000
theorem B8 {w0:World} {x:Int}:
  Spec Tryz.prog 116 #[.int .i64 x] w0 (λv' w'=>v'= .bool (decide False)/\w0=w'):=by
 refine bF (args:=[_]) (fn:=Tryz.f116) Tryz.func116 G (n:=6) Tryz.ntmps116 (T.aQ (Rg.bA G G (T.aQ (ab G G (ab G G (fH G G G (Rg.bA G G ?_)))))));refine aT ?_;exact aX G G ⟨congrArg Value.bool (by simp),G⟩
theorem xS {w0:World} {x y:Int}:
  Spec Tryz.prog 66 #[.int .i64 x,.int .i64 y] w0 (λv' w'=>v'= .int .i64 (if x<y then-1 else if x>y then 1 else 0)/\w0=w'):=by
 refine bF (args:=[_,_]) (fn:=Tryz.f66) Tryz.func66 G (n:=20) Tryz.ntmps66 (T.aQ (Rg.bA G G (T.aQ (ab G G ?_))));refine a8 G G abm (B8) (λr wc h=>?_);obtain⟨rfl,rfl⟩:=h;refine Rg.bA G G (T.aQ (ab G G ?_));refine a8 G G abm (B8) (λr wc h=>?_);obtain⟨rfl,rfl⟩:=h;refine Rg.bA G G (aI (T.aQ (ab G G (ad (T.zQ G ((λh=>h)) (aR (aI (T.aQ ?_))))))));refine ab G G (ad (T.zQ G ((λh=>h)) (aR (aI (T.aQ (ab G G (ab G G (ch G G G (ad ?_)))))))));refine bM G (λc9=>?_) (λc9=>?_)
 ·refine T.aQ (Rg.bA G G (aT ?_));exact aX rfl rfl ⟨by rw[if_pos c9],rfl⟩
 ·refine aR (aI (T.aQ (ab G G (ab G G (iX G G G (ad ?_))))));refine bM G (λGt=>?_) (λGt=>?_)
  ·refine T.aQ (Rg.bA G G (aT ?_));exact aX rfl rfl ⟨by rw[if_neg c9,if_pos Gt],rfl⟩
  ·refine aR (T.aQ (Rg.bA G G (aT ?_)));exact aX rfl rfl ⟨by rw[if_neg c9,if_neg Gt],rfl⟩
noncomputable instance {xs:List Int}:Decidable (∀i,i+1<xs.length->xs.getD i 0<=xs.getD (i+1) 0):=Classical.propDecidable _
theorem jJ {l:List Int} {i:Nat} {x:Int} (h:l[i]? =some x):l.getD i 0=x:=by rw[ax,h];rfl
theorem C9 {M:aJ} {w0:World} {v:Value} {xs:List Int} (hv:((RT.int .i64).sl).V M w0 xs v) (wZ:0<xs.length):
  Spec Tryz.prog 157 #[v,.func (.func 66) #[] #[]] w0 (λv' w'=>v'= .bool (decide (∀i,i+1<xs.length->xs.getD i 0<=xs.getD (i+1) 0))/\Step M w0 M w' aA):=by
 have hlen:=dZ hv;refine bF (args:=[_,_]) (fn:=Tryz.f157) Tryz.func157 G (n:=25) Tryz.ntmps157 (T.aQ (Rg.bA G G (aI (T.aQ (ab G G (bK ah G hv G (fQ G G G k3 (bc (v':= .int .i64 ((xs.length-1:Nat):Int)) (congrArg _ k3) ?_))))))));refine Rg.bA G G (aS ?_);refine dg (σ:=Nat) (λs=>[(0,v),(1,.func (.func 66) #[] #[]),(5,.int .i64 s)]) (λs w=>s<xs.length/\(∀t,s<=t->t+1<xs.length->xs.getD t 0<=xs.getD (t+1) 0)/\Step M w0 M w aA) (λs=>s) (xs.length-1) a06 ?_ ?_
 ·exact⟨by omega,λt h1 h2=>by omega,bz⟩
 ·rintro k w1 ⟨hk,hs,S⟩;refine aI (T.aQ (ab G G (iX G G G (ad ?_))));refine bM G (λc2=>?_) (λc2=>?_)
  ·refine aR (aI (aS (aI ?_)));obtain⟨x,hx⟩:∃x,(xs)[k]? =some x:=⟨_,al k3⟩;obtain⟨y,hy⟩:∃x,(xs)[k-1]? =some x:=⟨_,al k3⟩;apply T.AO 10 mixed rfl rfl rfl rfl rfl;intro XY VH;have sN:=VH M;refine ab G G (Rg.bL (ab G G (Rg.bL (ab G G (Rg.bL ?_)))));refine bX ah I3 G G G ((hv.le S.le).le sN.le) bY a48 (λZJ abJ SJ ahg=>?_);obtain rfl:x=abJ:=dw (ar (SJ.symm.trans (by rw[an];exact hx)));refine Rg.bL ?_;refine bV (M:=M) aq G G W4 (by repeat (first|exact bH _ _|refine aZ (bI W4) ?_)) (λYx=>?_);refine bc (v':= .int .i64 (x)) G ?_;replace Yx: -9223372036854775808<=(x:Int)/\x<=9223372036854775807:=Yx;refine Rg.bL (ab G G (Rg.bL (ab G G (Rg.bL (fQ G G G k3 (Rg.bL ?_))))));refine bX ah I3 G G G ((hv.le S.le).le sN.le) bY a48 (λaBO aqb ahh av8=>?_);obtain rfl:y=aqb:=dw (ar (ahh.symm.trans (by rw[show((k:Int)-1).toNat=k-1 from by omega];exact hy)));refine Rg.bL ?_;refine bV (M:=M) aq G G W4 (by repeat (first|exact bH _ _|refine aZ (bI W4) ?_)) (λYy=>?_);refine bc (v':= .int .i64 (y)) G ?_;replace Yy: -9223372036854775808<=(y:Int)/\y<=9223372036854775807:=Yy;refine Rg.bL (dD ?_);refine CB (first:=[]) (captured:=[]) G G G E66 xS (λr w1 h=>?_);obtain⟨rfl,rfl⟩:=h;refine ch G G G (ad ?_);refine bM G (λc4=>?_) (λc4=>?_)
   ·have SK: ¬(y<=x):=λh=>by
     first
     |omega
     |(split at c4<;>first|omega|(split at c4<;>omega))
    refine T.aQ (Rg.bA G G (aT ?_))
    exact aX G G ⟨congrArg Value.bool (dw (decide_eq_false λh=>by
     have:=h (k-1) k3;rw[show k-1+1=k from by omega,jJ hx,jJ hy]at this;exact SK this)),S.aw sN⟩
   ·have hle:y<=x:=by
     first
     |omega
     |(split at c4<;>first|omega|(split at c4<;>omega))
    refine aR (aH (ab G G (fQ G G G k3 (Rg.bA G G ?_))));refine⟨G,k-1,(.cons G (.cons G (.cons (congrArg (λz=>some (Value.int .i64 z)) k3) .nil))),?_,?_⟩
    ·refine⟨by omega,λt h1 h2=>?_,S.aw sN⟩;by_cases e:t=k-1
     ·subst e;rw[show k-1+1=k from by omega,jJ hx,jJ hy];exact hle
     ·exact hs t k3 h2
    ·show k-1<k;omega
  ·refine cO (T.aQ (Rg.bA G G (aT ?_)));exact aX G G ⟨congrArg Value.bool (dw (decide_eq_true λi hi=>hs i k3 hi)),S⟩
theorem HU {M:aJ} {w0:World} {v:Value} {xs:List Int} (hM:Lt M w0) (hv:((RT.int .i64).sl).V M w0 xs v) (hl:xs.length<=1099511627776):
  Spec Tryz.prog 51 #[v] w0 (λv' w'=>∃M',Own (RT.int .i64) 3 M' w' w0.heap.size v' xs/\Lt M' w'∧Step M w0 M' w' aA):=by
 obtain⟨a,cap,ny,hc,hlen,hs⟩:=jg.1 hv;refine bF (args:=[_]) (fn:=Tryz.f51) Tryz.func51 G (n:=8) Tryz.ntmps51 (T.aQ (Rg.bA G G (aI (T.aQ (ab G G (bc (v':= .slice a xs.length cap) ny (Rg.xk ah G G G (ad ?_))))))));refine bM G (λc1=>?_) (λc1=>?_)
 ·refine T.aQ (Rg.bA G G (aT ?_))
  obtain rfl:xs=[]:=by
   rcases hs with h|⟨b,o,h,_⟩
   ·exact h
   ·rw[c1]at h;cases h
  exact aX G G ⟨M,dh _ _ _ _ _,hM,bz⟩
 ·refine aR (T.aQ ?_);refine Rg.aeu ah I3 M G (λg w1 z1 z1' g1 s1=>?_);have mV:=s1.lt hM;refine ab G G ?_;refine cN (M:=ins M g) (base:=w0.heap.size) ah I3 rfl rfl rfl rfl (Own.empty g1 z1 (.inl rfl)) (hv.le s1.le) bY a03 a03 (by have:=s1.size;omega) (λv2 M2 w2 wO s2=>?_);refine Rg.bA G G (aT ?_);exact aX rfl rfl ⟨M2,by rw[ew]at wO;exact wO,s2.lt mV,s1.cL s2 (λb hb=>by have hb:b=g:=(ar hb).symm;rw[hb];exact z1)⟩
theorem Ff {M:aJ} {w0:World} {base:Nat} {v:Value} {xs:List Int} (ho:Own (RT.int .i64) 3 M w0 base v xs) (hl:xs.length<=1099511627776):
  Spec Tryz.prog 158 #[v] w0 (λv' w'=>∃a k cap,v'= .slice a k cap/\(k=xs.length↔(∀i,i+1<xs.length->xs.getD i 0≠xs.getD (i+1) 0))/\Step M w0 M w' (gy v)):=by
 refine bF (args:=[_]) (fn:=Tryz.f158) Tryz.func158 G (n:=61) Tryz.ntmps158 (T.aQ (Rg.bA G G (aI (T.aQ (ab G G (fW ah G ho G (ch G G G (ad ?_))))))));refine bM G (λc1=>?_) (λc1=>?_)
 ·refine T.aQ (ab G G (Rg.bA G G (aT ?_)));obtain⟨a,cap,rfl,hc⟩:=ho.isSlice;exact aX rfl rfl ⟨a,xs.length,cap,rfl,⟨λ_ i hi=>by omega,λ_=>rfl⟩,(bz).eL a42 (λb hb=>ho.mut_ b hb)⟩
 ·obtain⟨g,cap,cur,rfl,W8,O2,ue⟩:=ho.tC (ho.yQ k3);obtain⟨_,zV,PW,PX⟩:=ho.isSlice;simp only[gG]at PW;have nr:xs.length<=cap:=by omega
  have hN:∀b,b=g->gy (.slice (some ⟨g,0,none⟩) xs.length cap) b:=λb hb=>by rw[hb];rfl
  refine aR (aI (T.aQ (Rg.bA G G (aS ?_))));refine dg (σ:=Nat) (λs=>[(0,.slice (some ⟨g,0,none⟩) xs.length cap),(3,.int .i64 s)]) (λs w=>1<=s/\s<=xs.length/\(∀i,i+1<s->xs.getD i 0≠xs.getD (i+1) 0)/\Step M w0 M w aA) (λs=>xs.length-s) 1 a38 ?_ ?_
  ·exact⟨aN _,by omega,λi hi=>by omega,bz⟩
  ·rintro k w1 ⟨xg,hk,kx,S⟩;refine aI (T.aQ (ab G G (ab G G (Rg.rq ah G G (ch G G G (ad ?_))))));refine bM G (λc4=>?_) (λc4=>?_)
   ·refine aR (aI (aS (aI ?_)));obtain⟨a,hx⟩:∃x,(xs)[k]? =some x:=⟨_,al k3⟩;obtain⟨b,hy⟩:∃x,(xs)[k-1]? =some x:=⟨_,al k3⟩;apply jU mixed rfl rfl;intro X5 V9;have o6:=V9 M;refine ab G G (Rg.bL (ab G G (Rg.bL (jG (size:=1) ah I3 G G G k3 (q:=k) (by rw[an];omega) (Rg.bL ?_)))));refine bV aq G G (((ho.aE S).aE o6).AZ hx) bY (λk4=>?_);refine Rg.bL (ab G G (Rg.bL (ab G G (Rg.bL (fQ G G G k3 (Rg.bL (jG (size:=1) ah I3 G G G k3 (q:=k-1) k3 (Rg.bL ?_))))))));refine bV aq G G (((ho.aE S).aE o6).AZ hy) bY (λk4=>?_);refine Rg.bL (sJ G G G (Rg.bL (dD ?_)));refine bM G (λc6=>?_) (λc6=>?_)
    ·refine T.aQ (ab G G (ab G G (Rg.PJ ah I3 G G G k3 (bc (v':= .slice (some ⟨g,k,none⟩) (xs.length-k) (cap-k)) (by rw[an,fN]) (Rg.bA G G (aI (T.aQ (aB G G ?_))))))));refine ad (aS ?_);refine dg (σ:=Nat×Nat) (λs=>[(0,.slice (some ⟨g,0,none⟩) xs.length cap),(3,.int .i64 s.2),(4,.slice (some ⟨g,k,none⟩) (xs.length-k) (cap-k)),(5,.int .i64 s.1)]) (λs w=>1<=s.1/\s.1<=xs.length-k/\k<=s.2/\s.2+1<=k+s.1/\∃ys,Own (RT.int .i64) 3 M w base (.slice (some ⟨g,0,none⟩) xs.length cap) ys/\ys.length=xs.length/\Step M w0 M w (gy (.slice (some ⟨g,0,none⟩) xs.length cap))) (λs=>xs.length-k-s.1) (1,k) Y7 ?_ ?_
     ·exact⟨aN _,by simp only;omega,aN _,aN _,xs,(ho.aE S).aE o6,rfl,(S.aw o6).eL a42 (λb hb=>ho.mut_ b hb)⟩
     ·rintro⟨k2,kk⟩ w2 ⟨h21,h22,aqc,aqd,ys,wO,Ja,S2⟩;dsimp only at h21 h22 aqc aqd wO ⊢;refine aI (T.aQ (ab G G (ab G G (Rg.rq ah G G (ch G G G (ad ?_))))));refine bM G (λc9=>?_) (λc9=>?_)
      ·refine aR (aI (aS (aI ?_)));obtain⟨a2,hx⟩:∃x,(ys)[k+k2]? =some x:=⟨_,al k3⟩;obtain⟨b2,hy⟩:∃x,(ys)[k+k2-1]? =some x:=⟨_,al k3⟩;apply jU mixed rfl rfl;intro EX EY;have gO:=EY M;refine ab G G (Rg.bL (ab G G (Rg.bL (jG (size:=1) ah I3 G G G k3 (q:=k+k2) (by rw[an];omega) (Rg.bL ?_)))));refine bV aq G G ((wO.aE gO).AZ hx) bY (λk4=>?_);refine Rg.bL (ab G G (Rg.bL (ab G G (Rg.bL (fQ G G G k3 (Rg.bL (jG (size:=1) ah I3 G G G k3 (q:=k+k2-1) k3 (Rg.bL ?_))))))));refine bV aq G G ((wO.aE gO).AZ hy) bY (λk4=>?_);refine Rg.bL (fH G G G (Rg.bL (dD ?_)));refine bM G (λGt=>?_) (λGt=>?_)
       ·refine T.aQ (ab G G (ab G G (ab G G (ab G G (jG (size:=1) ah I3 G G G k3 (q:=k+k2) (by rw[an];omega) ?_)))));refine bV aq G G ((wO.aE gO).AZ hx) bY (λk4=>?_);refine jG (size:=1) ah I3 G G G k3 (q:=kk) (by rw[an];omega) ?_;refine Rg.Je (M:=M) I3 G G (wO.aE gO) k3 k4 (λw5 ho5 s5=>?_);refine ad (aH (ab G G (bG G G G k3 (Rg.bA G G (aH (ab G G (bG G G G k3 (Rg.bA G G ?_))))))));refine⟨G,(k2+1,_),Y7,?_,?_⟩
        ·first
         |exact⟨by simp only;omega,by simp only;omega,by simp only;omega,by simp only;omega,_,ho5,by rw[fX];exact Ja,(S2.aw gO).trans s5 (λb _ hb=>hN b hb)⟩
         |exact⟨by simp only;omega,by simp only;omega,by simp only;omega,by simp only;omega,ys,wO.aE gO,Ja,S2.aw gO⟩
        ·simp only;omega
       ·refine aR (aH (ab G G (bG G G G k3 (Rg.bA G G ?_))));refine⟨G,(k2+1,_),Y7,?_,?_⟩
        ·first
         |exact⟨by simp only;omega,by simp only;omega,by simp only;omega,by simp only;omega,_,ho5,by rw[fX];exact Ja,(S2.aw gO).trans s5 (λb _ hb=>hN b hb)⟩
         |exact⟨by simp only;omega,by simp only;omega,by simp only;omega,by simp only;omega,ys,wO.aE gO,Ja,S2.aw gO⟩
        ·simp only;omega
      ·refine cO (T.aQ (ab G G (ab G G (Rg.PJ ah I3 G G G k3 (bc (v':= .slice (some ⟨g,kk,none⟩) (xs.length-kk) (cap-kk)) (by rw[an,fN]) ?_)))));refine Rg.ZC (M:=M) ah I3 G wO k3 k3 q0 (λw6 th s6=>?_);refine ad (T.aQ (ab G G (ab G G (Rg.Zy ah I3 G G G k3 (bc (v':= .slice (some ⟨g,0,none⟩) kk cap) (by rw[an]) (Rg.bA G G (aT ?_)))))));exact aX G G ⟨_,kk,cap,G,⟨λh=>by omega,λh=>absurd (h (k-1) k3) (by rw[show k-1+1=k from by omega,jJ hy,jJ hx];exact λh=>h c6.symm)⟩,S2.trans s6 (λb _ hb=>hN b hb)⟩
    ·refine aR (aH (ab G G (bG G G G k3 (Rg.bA G G ?_))));refine⟨G,k+1,a38,?_,?_⟩
     ·refine⟨by omega,by omega,λi hi=>?_,S.aw o6⟩;by_cases e:i+1=k
      ·rw[e,jJ hx,show i=k-1 from by omega,jJ hy];exact λh=>c6 h.symm
      ·exact kx i k3
     ·show xs.length-(k+1)<xs.length-k;omega
   ·refine cO (T.aQ (ab G G (Rg.bA G G (aT ?_))));exact aX G G ⟨_,xs.length,cap,G,⟨λ_ i hi=>kx i k3,λ_=>G⟩,S.eL a42 (λb hb=>ho.mut_ b hb)⟩
end Go.K
namespace Go.K
open Go.Proofs
namespace TKSortP
theorem E65:Enters Tryz.prog 65:=enters Tryz.func65 rfl q0
theorem E66:Enters Tryz.prog 66:=enters Tryz.func66 rfl q0
end TKSortP
open TKSortP
set_option maxRecDepth 10000
open Go.Proofs Go.Sort
abbrev O5 (a:Int) (u:Value):Obj:= .cells #[.int .i64 a,u] 83 (0,0)
theorem Wm {a b:Int} {u v:Value} (w0:World) (hu:u.oneCell'=true) (hv:v.oneCell'=true):
  Spec Tryz.prog 65 #[.agg #[.int .i64 a,u],.agg #[.int .i64 b,v]] w0 (λr w=>r= .int .i64 (if a<b then-1 else if a>b then 1 else 0)/\w=(w0.alloc (O5 a u)).alloc (O5 b v)):=by
 refine bF (args:=[_,_]) (fn:=Tryz.f65) Tryz.func65 G (n:=10) Tryz.ntmps65 (T.aQ (Rg.QZ G G ?_));change Rg _ _ _ _ _ _ _ (w0.alloc (O5 a u)) _;refine Rg.QZ G G ?_;change Rg _ _ _ _ _ _ _ ((w0.alloc (O5 a u)).alloc (O5 b v)) _;have ga:((w0.alloc (O5 a u)).alloc (O5 b v)).heap[w0.heap.size]? =some (O5 a u):=(dK aA _ _).aP (de w0 _);have gb:=de (w0.alloc (O5 a u)) (O5 b v);refine Rg.bA G G (T.aQ (bR (o':=0) bW G G I3 q0 G G (aV aq G G G ga G (bc (v':= .int .i64 a) G (bR (o':=0) bW G G I3 q0 G G (aV aq G G G gb G (bc (v':= .int .i64 b) G ?_)))))));refine a8 G G E66 xS (λr7 w7 hc=>?_);obtain⟨rfl,rfl⟩:=hc;refine Rg.bA G G (aT ?_);exact aj9
abbrev TP (ps:List (Po×Value)):Type:={q:Po×Value // q∈ps}
def Ae {ps:List (Po×Value)} (x:TP ps):List Value:=[.int .i64 x.1.1.1,x.1.2]
def Wn {ps:List (Po×Value)} (x y:TP ps):Int:=if x.1.1.1<y.1.1.1 then-1 else if x.1.1.1>y.1.1.1 then 1 else 0
theorem rN {ps:List (Po×Value)} (x y:TP ps):Wn x y<0↔x.1.1.1<y.1.1.1:=by
 unfold Wn;by_cases h:x.1.1.1<y.1.1.1
 ·rw[if_pos h];exact⟨λ_=>h,λ_=>by omega⟩
 ·rw[if_neg h];by_cases h2:x.1.1.1>y.1.1.1
  ·rw[if_pos h2];exact⟨λh3=>by omega,λh3=>absurd h3 h⟩
  ·rw[if_neg h2];exact⟨λh3=>by omega,λh3=>absurd h3 h⟩
theorem Wo {ps:List (Po×Value)}:SWO (Go.Proofs.ltOf (Wn (ps:=ps))) where
 irrefl x:=by simp only[Go.Proofs.ltOf,decide_eq_false_iff_not,rN];omega
 trans x y z h1 h2:=by simp only[Go.Proofs.ltOf,decide_eq_true_eq,rN]at*;omega
 ntrans x y z h1 h2:=by simp only[Go.Proofs.ltOf,decide_eq_false_iff_not,rN]at*;omega
theorem aqe (w:World):(isAgg 83).run Tryz.prog w= .ok true w:=by simp[isAgg,cA,run_underlying bW]
theorem ahj (w:World):(Go.sizeOf 83).run Tryz.prog w= .ok 2 w:=by
 obtain⟨i,h1,_,h2,_⟩:=ng.get;simp[Go.sizeOf,typeInfo,cA,program,Sem.run,h1,h2]
theorem SL {ps:List (Po×Value)} [Inhabited (TP ps)] (h1:∀q∈ps,q.2.oneCell'=true) (gy off size:Nat) (w:World):CmpLays Tryz.prog 65 #[] (Ae (ps:=ps)) 2 Wn gy off size w:=λm os dk hs x y=>
 (show Calls Tryz.prog 65 #[.agg #[.int .i64 x.1.1.1,x.1.2],.agg #[.int .i64 y.1.1.1,y.1.2]] (sortWorldK Ae 2 w gy off m dk os) (λe w'=>∃v,e= .returned v/\_/\_)from Wm (a:=x.1.1.1) (b:=y.1.1.1) _ (h1 _ x.2) (h1 _ y.2)).mono λe w' ⟨v,h1,h2,h3⟩=>⟨by rw[h1,h2];rfl,0,#[O5 x.1.1.1 x.1.2,O5 y.1.1.1 y.1.2],by rw[h3];simp only[Bx,Go.Sort.grow_grow];rfl⟩
theorem ahk {ps:List (Po×Value)} [Inhabited (TP ps)] (h1:∀q∈ps,q.2.oneCell'=true) (abK:∀a∈ps,∀b∈ps,a.1.1=b.1.1->a=b) (gy off cap:Nat) (d:Array (TP ps)) (w:World) (hH:HoldsK Ae 2 w gy off d) (hblk:gy<w.heap.size) (lu:d.size<4611686018427387904):
  Spec Tryz.prog 64 #[.slice (some ⟨gy,off,none⟩) d.size cap,.func (.func 65) #[] #[]] w (λv w'=>v= .tuple #[]/\∃n os,w'=sortWorldK Ae 2 w gy off n (d.toList.mergeSort λx y=> !(Go.Proofs.ltOf Wn) y x).toArray os):=by
 exact(Go.Proofs.AnyQ.slices_SortFunc_total Tryz.abI 2 aqe ahj Ae (λ_=>rfl) (λx v hv=>by simp[Ae]at hv;rcases hv with rfl|rfl<;>first|rfl|exact h1 _ x.2) Wn Wo 65 #[] gy off cap d w E65 (SL h1 gy off d.size w) hH hblk lu (λx y h1 h2=>by
  simp only[Go.Proofs.ltOf,decide_eq_false_iff_not,rN]at h1 h2;exact Subtype.ext (abK _ x.2 _ y.2 k3))).mono λe w' ⟨h1,h2⟩=>⟨_,h1,G,h2⟩
theorem MB {M:aJ} {w:World}:∀{l:List Po} {C:List Value},eX RT.po M w l C->∃ps:List (Po×Value),ps.map (·.1)=l/\C=ps.flatMap (λq=>[.int .i64 q.1.1,q.2])/\∀q∈ps,RT.po.R M w q.1 [.int .i64 q.1.1,q.2]
 |[],C,h=>⟨[],rfl,h,λq h=>by cases h⟩
 |x::l,C,⟨vs,r,h1,h2,h3⟩=>by
  obtain⟨ps,h4,h5,h6⟩:=MB h3;obtain⟨va,vb,rfl,⟨rfl,hk⟩,hb⟩:=h2;have Lv:=hb;obtain⟨a,cap,rfl,_⟩:=hb;refine ⟨(x,.slice a x.2.length cap)::ps,by simp[h4],by rw[h1,h5];rfl,λq hq=> ?_⟩;rcases cR.1 hq with rfl|hq
  ·exact⟨_,_,G,⟨G,hk⟩,Lv⟩
  ·exact h6 q hq
theorem HV {M:aJ} {w:World}:∀{ps:List (Po×Value)},(∀q∈ps,RT.po.R M w q.1 [.int .i64 q.1.1,q.2])->eX RT.po M w (ps.map (·.1)) (ps.flatMap λq=>[.int .i64 q.1.1,q.2])
 |[],_=>rfl
 |q::ps,h=>⟨_,_,rfl,h q (bZ ..),HV λq hq=>h q (cI _ hq)⟩
theorem HW {M:aJ} {base:Nat} {v:Value} {l:List Po} (w0:World) (ho:Own RT.po 83 M w0 base v l) (fG:l.Pairwise λa b=>a.1≠b.1) (h0:0<l.length) (hl:l.length<=100000000):
  Spec Tryz.prog 64 #[v,.func (.func 65) #[] #[]] w0 (λr w=>r= .tuple #[]/\∃s:List Po,s.Perm l/\(s.Pairwise λa b=>a.1<=b.1)/\Own RT.po 83 M w base v s/\Step M w0 M w (gy v)):=by
 have aBS:=ho.mut_;obtain⟨⟨C,⟨hC,hr⟩,hA⟩,hm⟩:=ho;rcases hr with⟨rfl,h0'⟩|⟨g,cap,cur,rfl,hb,hg,hle,XQ,OW,uP⟩
 ·omega
 ·obtain⟨ps,rfl,rfl,l4⟩:=MB hA;have vY:∀q∈ps,q.2.oneCell'=true:=λq hq=>RT.po.one (l4 q hq) _ (by simp)
  have UD:=dr.1 fG
  have abK:∀a∈ps,∀b∈ps,a.1.1=b.1.1->a=b:=λa ha b hb e=>by
   obtain⟨i,hi,rfl⟩:=l0.1 ha;obtain⟨j,hj,rfl⟩:=l0.1 hb;rcases fJ i j with h|h|h
   ·exact absurd e ((cJ.1 UD) i j hi hj h)
   ·subst h;rfl
   ·exact absurd e.symm ((cJ.1 UD) j i hj hi h)
  rw[ay]at h0 hl hle uP hC
  haveI:Inhabited (TP ps):=⟨⟨ps[0],yg _⟩⟩
  obtain⟨d,hd⟩:∃d:Array (TP ps),d.toList.map (·.1)=ps:=⟨ps.attach.toArray,by rw[List.toList_toArray];exact List.attach_map_subtype_val ps⟩;have lu:d.size=ps.length:=by have:=congrArg List.length hd;simpa using this
  have hk:∀x:TP ps,(Ae x).length=2:=λ_=>rfl
  have JO:∀t:List (TP ps),(t.map (·.1)).flatMap (λq:Po×Value=>[Value.int .i64 q.1.1,q.2])=t.flatMap Ae:=λt=>by rw[List.flatMap_map];rfl
  have e2:RT.po.n=2:=rfl;rw[e2]at uP OW hC;have hH:HoldsK Ae 2 w0 g 0 d:=DH hk k3 hg (by rw[lu,uP,<-JO,hd]);have hs:=ahk vY abK g 0 cap d w0 hH (ae hg) k3;rw[lu]at hs;rw[ay];refine hs.mono λr w' ⟨h1,n,os,h2⟩=> ?_
  have hp:=kr d.toList λx y=> !(ltOf Wn) y x
  have Wp:(d.toList.mergeSort λx y=> !(ltOf Wn) y x).Pairwise λa b=>a.1.1.1<=b.1.1.1:=by
   refine(List.pairwise_mergeSort (λa b c h1 h2=>?_) (λa b=>?_) _).imp λh=>?_
   ·simp only[ltOf,kb,decide_eq_false_iff_not,rN]at*;omega
   ·simp only[ltOf,lL,kb,decide_eq_false_iff_not,rN];omega
   ·simp only[ltOf,kb,decide_eq_false_iff_not,rN]at h;omega
  generalize (d.toList.mergeSort λx y=> !(ltOf Wn) y x)=us at hp Wp h2;have OX:(us.map (·.1)).length=ps.length:=by rw[ay,hp.length_eq,Ct,lu]
  have CG:us.toArray.size*2=ps.length*2:=by rw[<-OX];simp
  have mi:Step M w0 M w' (gy (.slice (some ⟨g,0,none⟩) ps.length cap)):=by
   have hgm:M g:=hm g (by rw[ay];rfl);have s:=sk (enc:=Ae (ps:=ps)) (k:=2) (w:=w0) (g:=g) (n:=n) (d:=us.toArray) (os:=os);rw[<-h2]at s;exact⟨λh b hb=>k9 (h b hb) s.size,s.os,s.tape,s.output,s.size,λ_ _=>Iff.rfl,λb hb hn=>s.same b hb (λe=>hn (by have e:b=g:=e;subst e;rfl)),λb hb=>by have hb:some g=some b:=hb;cases hb;exact hgm⟩
  refine⟨h1,(us.map (·.1)).map (·.1),?_,?_,⟨⟨(us.map (·.1)).flatMap (λq:Po×Value=>[Value.int .i64 q.1.1,q.2]),⟨?_,.inr ⟨g,cap,putCells id 0 (flatK Ae 2 us.toArray) cur,by rw[ay,OX],hb,by rw[h2];exact vC hg,by rw[ay,OX];exact hle,XQ,by rw[e2,<-OW];simp[putCells],?_⟩⟩,?_⟩,λb hb=>hm b (by rw[ay];exact hb)⟩,mi⟩
  ·have:=(hp.map (·.1)).map (·.1);rw[hd]at this;exact this
  ·exact dr.2 (dr.2 Wp)
  ·rw[JO,pA hk,ay,ay,e2]
  ·rw[JO,ay,OX,e2,<-CG,<-size_flatK Ae,vD (by rw[size_flatK,CG,OW];omega),xz hk k3]
  ·refine HV λq hq=> ?_
   obtain⟨x,hx,rfl⟩:=ck.1 hq;exact RT.po.le (λb hb yd=>⟨yd,mi.same b hb λe=>yd (mi.sub b e)⟩) (l4 x.1 x.2)
end Go.K
namespace Go.Proofs
open Go.Shelf
def Tryz.Fg:Go.Shelf.Ren:=⟨fun|44=>163|n=>n,fun|25=>57|26=>9|3=>3|4=>4|0=>0|n=>n,fun|n=>n⟩
theorem Tryz.HX:Go.Proofs.SlLaysN.n44 Tryz.prog Tryz.Fg:={
 mixed:=by kernel_rfl
 f44:=⟨Tryz.f163.name,by decide,Tryz.func163.trans a02⟩
 t0:=ic
 a0:=nB
 z0:=lW
 v0:=iT
 t3:=aq
 a3:=nC
 z3:=lX
 v3:=iU
 t4:=fm
 a4:=vg
 z4:=p8
 v4:=kZ
 t25:=az
 a25:=Tryz.isAgg57
 z25:=Tryz.sizeOf57
 v25:=Tryz.zeroValue57
 t26:=aG
 a26:=nD
 z26:=lY
 v26:=iV
 i26:=by kernel_rfl}
def Tryz.yT:Go.Shelf.Ren:=⟨fun|4=>216|n=>n,fun|22=>57|25=>9|3=>3|4=>4|9=>9|20=>20|0=>0|n=>n,fun|n=>n⟩
theorem Tryz.Yz:Go.Proofs.Lays8.n4 Tryz.prog Tryz.yT:={
 mixed:=by kernel_rfl
 f4:=⟨Tryz.f216.name,by decide,Tryz.func216.trans a02⟩
 t0:=ic
 a0:=nB
 z0:=lW
 v0:=iT
 t3:=aq
 a3:=nC
 z3:=lX
 v3:=iU
 t4:=fm
 a4:=vg
 z4:=p8
 v4:=kZ
 t9:=aG
 a9:=nD
 z9:=lY
 v9:=iV
 t20:=Tryz.underlying20
 a20:=Tryz.isAgg20
 z20:=Tryz.sizeOf20
 v20:=Tryz.zeroValue20
 t22:=az
 a22:=Tryz.isAgg57
 z22:=Tryz.sizeOf57
 v22:=Tryz.zeroValue57}
end Go.Proofs
namespace Go.K
open Go.Sort Go.Proofs
section
variable {α:Type} [Inhabited α] {enc:α->Value}
theorem D7 {w:World} {g n:Nat} {cur:Array Value} {e:TypeId} {d:Array α} {os:Array Obj} (hg:w.heap[g]? =some (.cells cur e (0,0))):(grow (putRow enc (Go.Sort.ahead w n) g 0 d) os).heap[g]? =some (.cells (putCells enc 0 d cur) e (0,0)):=by
 have eK:g<w.heap.size:=ae hg
 have h1:(w.heap.modify g (onCells (putCells enc 0 d)))[g]? =some (.cells (putCells enc 0 d cur) e (0,0)):=by
  rw[lp,if_pos rfl,hg];rfl
 show((w.heap.modify g (onCells (putCells enc 0 d)))++os)[g]? =_;rw[Array.getElem?_append_left (by simpa using eK)];exact h1
theorem zG {w:World} {g n:Nat} {d:Array α} {os:Array Obj}:Step allM w allM (grow (putRow enc (Go.Sort.ahead w n) g 0 d) os) (λb=>b=g):=
 ⟨λh=>absurd (h w.heap.size trivial) (kQ _),rfl,rfl,rfl,by show _<=((w.heap.modify g _)++os).size;simp,λ_ _=>Iff.rfl,λb hb hn=>by
  have hn: ¬b=g:=hn;show((w.heap.modify g (onCells (putCells enc 0 d)))++os)[b]? =_;rw[Array.getElem?_append_left ak8,lp,if_neg (λh=>hn h.symm)],λ_ _=>trivial⟩
theorem ug {d:Array α} {cur:Array Value} {m:Nat} (h:d.size<=cur.size) (hm:m<=d.size):(putCells enc 0 d cur).toList.take m=(d.toList.map enc).take m:=by
 apply eS;intro j;rw[cY,cY];by_cases hj:j<m
 ·have h1:j<d.size:=by omega
  have h2:j<cur.size:=by omega
  rw[if_pos hj,if_pos hj];simp[putCells,h1,h2]
 ·rw[if_neg hj,if_neg hj]
theorem holds_of {w:World} {g:Nat} {cur:Array Value} {e:TypeId} {d:Array α} (hg:w.heap[g]? =some (.cells cur e (0,0))) (hC:cur.toList.take d.size=d.toList.map enc):Holds enc w g 0 d:=λj hj=>by
 have h1:(cur.toList.take d.size)[j]? =(d.toList.map enc)[j]? :=by rw[hC]
 rw[cY,if_pos hj,bj,Array.getElem?_toList,Array.getElem?_toList,Array.getElem?_eq_getElem hj,dA]at h1;constructor
 ·simp[World.cell?,hg,h1,hj]
 ·simp[World.frozen?,hg]
end
theorem B9:∀{xs:List (List UInt8)} {C:List Value} {M:aJ} {w:World},eX RT.str M w xs C->C=xs.map encStr/\∀x∈xs,x.length<=140737488355328
 |[],C,_,_,h=>⟨h,λx hx=>by cases hx⟩
 |x::xs,C,_,_,⟨vs,r,h1,h2,h3⟩=>by
  obtain⟨h4,h5⟩:=B9 h3;obtain⟨h6,h7⟩:=h2;refine ⟨by rw[h1,h4,h6];rfl,λy hy=> ?_⟩;rcases cR.1 hy with rfl|hy
  ·exact h7
  ·exact h5 y hy
theorem yU {M:aJ} {w:World}:∀{xs:List (List UInt8)},(∀x∈xs,x.length<=140737488355328)->eX RT.str M w xs (xs.map encStr)
 |[],_=>rfl
 |x::xs,h=>⟨[encStr x],_,rfl,⟨rfl,h x (bZ ..)⟩,yU λy hy=>h y (cI _ hy)⟩
theorem Ca {d:Array (List UInt8)} (hs:∀i j,i<=j->j<d.size->¬d[j]! <d[i]!):∀m,m<=d.size->(Go.Lib.compactUpTo d m).Pairwise (λa b=>a<b)/\(∀x∈Go.Lib.compactUpTo d m,∃j,j<m/\x=d[j]!)/\∀j,j<m->d[j]! ∈Go.Lib.compactUpTo d m
 |0,_=>⟨List.Pairwise.nil,(λx h=>by cases h),λj h=>by omega⟩
 |m+1,hm=>by
  obtain⟨h1,h2,h3⟩:=Ca hs m k3;rw[Go.Lib.compactUpTo_succ]
  cases hk:Go.Lib.keeps d m with
  |true=>
   rw[if_pos rfl];have fG:m=0\/d[m]! ≠d[m-1]! :=by simpa[Go.Lib.keeps]using hk
   refine⟨lZ.2 ⟨h1,by simp,λa ha b hb=>?_⟩,λx hx=>?_,λj hj=>?_⟩
   ·rw[b9]at hb;subst hb;obtain⟨j,hj,rfl⟩:=h2 a ha;have h4:=hs j m k3 k3;rcases kX d[j]! d[m]! with h|h|h
    ·exact h
    ·exfalso;have h5:=hs j (m-1) k3 k3;have h6:=hs (m-1) m k3 k3;rcases fG with h0|h0
     ·omega
     ·rcases kX d[m-1]! d[m]! with h7|h7|h7
      ·rw[<-h]at h7;exact h5 h7
      ·exact h0 h7.symm
      ·exact h6 h7
    ·exact absurd h h4
   ·rcases cP.1 hx with hx|hx
    ·obtain⟨j,hj,e⟩:=h2 x hx;exact⟨j,by omega,e⟩
    ·exact⟨m,by omega,b9.1 hx⟩
   ·rcases cQ j m with h|h
    ·exact iH _ (h3 j h)
    ·obtain rfl:j=m:=by omega
     exact List.mem_append_right _ (b9.2 G)
  |false=>
   rw[if_neg (by simp),eJ];have he:m≠0/\d[m]! =d[m-1]! :=by simpa[Go.Lib.keeps]using hk
   refine⟨h1,λx hx=>?_,λj hj=>?_⟩
   ·obtain⟨j,hj,e⟩:=h2 x hx;exact⟨j,by omega,e⟩
   ·rcases cQ j m with h|h
    ·exact h3 j h
    ·obtain rfl:j=m:=by omega
     rw[he.2];exact h3 _ k3
def gC (ks:List (List (List UInt8))):List (List UInt8):=Go.Lib.compact (ks.flatten.mergeSort λx y=>decide (x<=y))
theorem qz (ks:List (List (List UInt8))):(gC ks).Pairwise (λa b=>a<b)/\∀x,x∈gC ks↔∃l∈ks,x∈l:=by
 have YA:(ks.flatten.mergeSort λx y=>decide (x<=y)).Pairwise λa b=>¬b<a:=by
  refine(List.pairwise_mergeSort (λa b c h1 h2=>?_) (λa b=>?_) _).imp λh=>?_
  ·simp only[decide_eq_true_eq]at*
   intro h3;rcases kX b c with h|h|h
   ·exact h1 (lS h h3)
   ·subst h;exact h1 h3
   ·exact h2 h
  ·simp only[lL,decide_eq_true_eq];rcases kX a b with h|h|h
   ·exact .inl λh'=>absurd h' (jx h)
   ·subst h;exact .inl (jw _)
   ·exact .inr λh'=>absurd h' (jx h)
  ·simp only[decide_eq_true_eq]at h;exact h
 generalize hz:(ks.flatten.mergeSort λx y=>decide (x<=y))=zs at YA
 have fO:∀x,x∈zs↔∃l∈ks,x∈l:=λx=>by
  rw[<-hz,(kr _ _).mem_iff,List.mem_flatten]
 obtain⟨h1,h2,h3⟩:=Ca (d:=zs.toArray) (λi j kS hj=>by
  have Xk:j<zs.length:=by simpa using hj
  have jC:i<zs.length:=by omega
  rw[getElem!_pos _ i (by simpa using jC),getElem!_pos _ j hj];rcases cQ i j with h|h
  ·simpa using(cJ.1 YA) i j jC Xk h
  ·obtain rfl:i=j:=by omega
   exact jw _) zs.length (by simp)
 have e:gC ks=Go.Lib.compactUpTo zs.toArray zs.length:=by unfold gC Go.Lib.compact;rw[hz]
 rw[e];refine ⟨h1,λx=> ?_⟩;rw[<-fO];constructor
 ·intro hx;obtain⟨j,hj,rfl⟩:=h2 x hx;rw[getElem!_pos _ j a68];simp
 ·intro hx;obtain⟨j,hj,rfl⟩:=l0.1 hx;have:=h3 j hj
  rwa [getElem!_pos _ j a68,List.getElem_toArray]at this
theorem D8 (ks:List (List (List UInt8))):(gC ks).length<=ks.flatten.length:=by
 have h:=(qz ks).1.imp (S:=λa b=>a≠b) λh e=>by subst e;exact jw _ h
 exact List.Nodup.length_le_of_subset h λx hx=>by
  obtain⟨l,hl,hx⟩:=((qz ks).2 x).1 hx;exact List.mem_flatten.2 ⟨l,hl,hx⟩
end Go.K
namespace Go.K
open Go.Proofs
set_option maxRecDepth 10000
open Go.Proofs Go.Sort
theorem pC:C5 RT.str:=λ_ _ _ _ _ _ h=>h
theorem Oq {base:Nat} {v:Value} {ts:List (List UInt8)} (w0:World) (ho:Own RT.str 9 allM w0 base v ts) (hl:ts.length<=100000000):
  Spec Tryz.prog 141 #[v] w0 (λr w=>r= .tuple #[]/\Own RT.str 9 allM w base v (ts.mergeSort λx y=>decide (x<=y))/\Step allM w0 allM w (o9 v)):=by
 obtain⟨⟨C,⟨hC,hr⟩,hA⟩,hm⟩:=ho;rcases hr with⟨rfl,h0⟩|⟨g,cap,cur,rfl,hb,hg,hle,XQ,OW,uP⟩
 ·have I1:ts=[]:=dL.1 h0;subst I1;exact(AnyM.slices_Sort_string_none Tryz.L5 none 0 w0).mono λe w' ⟨h1,h2⟩=>⟨_,h1,rfl,by rw[List.mergeSort_nil];exact dh _ _ _ _ _,by rw[h2];exact(Step.refl allM w0).eL a42 (λ_ _=>trivial)⟩
 ·obtain⟨rfl,lu⟩:=B9 hA;have e1:RT.str.n=1:=rfl;rw[e1,fN]at uP OW;have hH:Holds encStr w0 g 0 ts.toArray:=holds_of hg (by simpa using uP);refine(AnyM.slices_Sort_string Tryz.L5 g 0 cap ts w0 hH (ae hg) k3).mono λe w' ⟨h1,n,os,h2⟩=>⟨_,h1,G,?_,?_⟩
  ·rw[h2];have hp:=kr ts λx y=>decide (x<=y)
   generalize (ts.mergeSort λx y=>decide (x<=y))=us at hp;have OX:us.length=ts.length:=hp.length_eq;refine⟨⟨us.map encStr,⟨by simp[e1],.inr ⟨g,cap,_,by rw[OX],hb,D7 hg,by omega,XQ,by rw[e1,fN,<-OW];simp[putCells],?_⟩⟩,yU λx hx=>lu x (hp.mem_iff.1 hx)⟩,λ_ _=>trivial⟩;rw[e1,fN,ug a03 (by simp),aL (by simp)]
  ·rw[h2];exact zG.eL (λb hb=>by have hb:b=g:=hb;subst hb;rfl) (λ_ _=>trivial)
theorem Ot {base:Nat} {v:Value} {ts:List (List UInt8)} (w0:World) (ho:Own RT.str 9 allM w0 base v ts) (hl:ts.length<=100000000):
  Spec Tryz.prog 163 #[v] w0 (λr w=>Own RT.str 9 allM w base r (Go.Lib.compact ts)/\Step allM w0 allM w (o9 v)):=by
 obtain⟨⟨C,⟨hC,hr⟩,hA⟩,hm⟩:=ho;rcases hr with⟨rfl,h0⟩|⟨g,cap,cur,rfl,hb,hg,hle,XQ,OW,uP⟩
 ·have I1:ts=[]:=dL.1 h0;subst I1;exact(AnyG.slices_Compact_string_empty Tryz.HX none 0 w0).mono λe w' ⟨h1,h2⟩=>⟨_,h1,dh _ _ _ _ _,by rw[h2];exact(Step.refl allM w0).eL a42 (λ_ _=>trivial)⟩
 ·obtain⟨rfl,lu⟩:=B9 hA;have e1:RT.str.n=1:=rfl;rw[e1,fN]at uP OW;have hH:Holds encStr w0 g 0 ts.toArray:=holds_of hg (by simpa using uP);have nr:=Go.Lib.compact_length_le ts;refine(AnyG.slices_Compact_string Tryz.HX g 0 cap ts w0 hH k3 hle).mono λe w' ⟨h1,n,h2⟩=>⟨_,h1,?_,?_⟩
  ·have An:w'=grow (putRow encStr (Go.Sort.ahead w0 n) g 0 (Go.Lib.compact ts++List.replicate (ts.length-(Go.Lib.compact ts).length) []).toArray) #[]:=by rw[grow_empty];exact h2
   rw[An];refine⟨⟨(Go.Lib.compact ts).map encStr,⟨by simp[e1],.inr ⟨g,cap,_,rfl,hb,D7 hg,by omega,XQ,by rw[e1,fN,<-OW];simp[putCells],?_⟩⟩,yU λx hx=>lu x ?_⟩,λ_ _=>trivial⟩
   ·rw[e1,fN,ug a03 (by simp)];simp
   ·unfold Go.Lib.compact Go.Lib.compactUpTo at hx;obtain⟨j,hj,rfl⟩:=ck.1 hx;have hj:=List.mem_range.1 (kg.1 hj).1;rw[getElem!_pos _ j a68];simp
  ·have An:w'=grow (putRow encStr (Go.Sort.ahead w0 n) g 0 (Go.Lib.compact ts++List.replicate (ts.length-(Go.Lib.compact ts).length) []).toArray) #[]:=by rw[grow_empty];exact h2
   rw[An];exact zG.eL (λb hb=>by have hb:b=g:=hb;subst hb;rfl) (λ_ _=>trivial)
theorem Ou {n:Nat} (w0:World) (hn:n<=1000000000):Spec Tryz.prog 216 #[.slice none 0 0,.int .i64 n] w0 (λr w=>Own RT.str 9 allM w w0.heap.size r []/\Step allM w0 allM w aA):=by
 rcases Nat.eq_zero_or_pos n with rfl|h
 ·exact(Any8.slices_Grow_room Tryz.Yz none 0 0 0 w0 (aN _) k3 k3 (aN _)).mono λe w' ⟨h1,h2⟩=>⟨_,h1,dh _ _ _ _ _,by rw[h2];exact bz⟩
 ·obtain⟨i0,hi,hz,hs,hb⟩:=I9.get;refine(Any8.slices_Grow_grow Tryz.Yz i0 _ hi hz k3 none 0 0 n [] w0 (aN _) k3 (by rw[hb];omega) k3 (by simp) (λ_=>rfl) (λa h=>by cases h)).mono λe w' ⟨h1,h2⟩=>⟨_,h1,?_,?_⟩
  ·have hG:n<=grownCap w0 n 0 (Tryz.yT.t 25):=grownCap_ge w0 _ _ _;have hm:=grownCap_le_maxLen w0 (0+n) 0 9 (by unfold maxLen;omega);rw[h2];refine⟨⟨[],⟨rfl,.inr ⟨w0.heap.size,_,_,rfl,aN _,by exact de w0.drew _,bC _,hm,?_,by simp⟩⟩,rfl⟩,λ_ _=>trivial⟩;show _=grownCap w0 (0+n) 0 (Tryz.yT.t 25)*1;simp[Builtin.zeroCells,Value.cells];omega
  ·rw[h2];exact(nU allM w0).aw (dK allM w0.drew _)
end Go.K
namespace Go.K
open Go.Proofs
namespace TKJoinB
theorem aqf:Enters Tryz.prog 113:=enters Tryz.func113 rfl q0
theorem aqg:Enters Tryz.prog 141:=enters Tryz.func141 rfl q0
theorem aqh:Enters Tryz.prog 162:=enters Tryz.func162 rfl q0
theorem aqi:Enters Tryz.prog 163:=enters Tryz.func163 rfl q0
theorem aqj:Enters Tryz.prog 216:=enters Tryz.func216 rfl q0
end TKJoinB
open TKJoinB
set_option maxRecDepth 10000
theorem HY {ks:List (List (List UInt8))} {i:Nat} {l:List (List UInt8)} (h:ks[i]? =some l):((ks.take (i+1)).flatten).length=(ks.take i).flatten.length+l.length/\(ks.take (i+1)).flatten=(ks.take i).flatten++l:=by
 rw[bB,h,bU,List.flatten_append,aY];simp
theorem Fh (ks:List (List (List UInt8))) (i:Nat):(ks.take i).flatten.length<=ks.flatten.length:=by
 conv=>rhs;rw[<-lj i ks,List.flatten_append,aY]
 omega
theorem Fi {M:aJ} {ks:List (List (List UInt8))} {v0:Value} (w0:World) (hM:Lt M w0) (hv:((RT.str.sl).sl).V M w0 ks v0) (hl:ks.flatten.length<=100000000):
  Spec Tryz.prog 162 #[v0] w0 (λv w=>∃M',Own RT.str 9 M' w w0.heap.size v ks.flatten/\Lt M' w/\Step M w0 M' w aA):=by
 have hlen:=dZ hv;have ir:=hM;refine bF (args:=[_]) (fn:=Tryz.f162) Tryz.func162 G (n:=36) Tryz.ntmps162 ?_;have S:Step M w0 M w0 aA:=bz;refine T.aQ (Rg.bA G G (T.aQ (Rg.bA G G (aI (T.aQ (ab G G ?_))))));refine bK iM G hv G (ab G G (ad (aS ?_)));refine dg (σ:=Nat) (λi=>[(0,v0),(3,.int .i64 ((ks.take i).flatten.length:Int)),(9,v0),(10,.int .i64 (ks.length:Int)),(11,.int .i64 (i:Int))]) (λi w=>i<=ks.length/\Lt M w/\((RT.str.sl).sl).V M w ks v0/\Step M w0 M w aA) (λi=>ks.length-i) 0 a19 ?_ ?_
 ·exact⟨bC _,hM,hv,S⟩
 ·clear hM hv S;rintro i w ⟨hi,hM,hv,S⟩;have pH:=Fh ks i;refine T.aQ (ch G G G (ad (aI ?_)));refine bM G (λc3=>?_) (λc3=>?_)
  ·refine aR (aI (aS (T.aQ ?_)));obtain⟨l,hk⟩:∃l,ks[i]? =some l:=⟨_,al k3⟩;obtain⟨xg,CK⟩:=HY hk;have hk3:=Fh ks (i+1);refine bX iM qM G G G hv bY k3 (λu4 x zu IH=>?_);rw[an]at zu;obtain rfl:=ar (hk.symm.trans zu);refine bE az G G G G G IH bY (λv4 qm=>?_);refine Rg.bA G G (T.aQ (ab G G (ab G G (bK az G qm G (bG G G G k3 (bc (v':= .int .i64 (((ks.take (i+1)).flatten.length:Nat):Int)) (congrArg _ (by rw[xg];omega)) (Rg.bA rfl rfl (aI ?_))))))));refine aH (ab G G (ch G G G (ad (T.zQ G (k3) (aR (aH (bG G G G k3 (ab G G (ad ?_)))))))));refine⟨G,i+1,a19,?_,?_⟩
   ·exact⟨by omega,hM,hv,S⟩
   ·omega
  ·refine cO (T.aQ (ab G G ?_));have hie:i=ks.length:=by omega
   refine bc (v':= .int .i64 ((ks.flatten.length:Nat):Int)) (by rw[hie,aL (aN _)]) ?_;refine a8 G G aqj (Ou w (n:=ks.flatten.length) k3) (λr9 w9 hc=>?_);obtain⟨VP,s9⟩:=hc;obtain⟨ho,s9'⟩:=VP.Sy (M:=allM) pC s9 (aN _) M;replace ho:=ho.kj S.size;have X4:=s9'.lt hM;have Au:=hv.le s9'.le;have S9:=S.aw s9';refine Rg.bA G G (aI (T.aQ (ab G G (bK iM G Au G (ab G G (ad (aS ?_)))))));refine dg (σ:=Nat×Value) (λq=>[(6,q.2),(25,v0),(26,.int .i64 (ks.length:Int)),(27,.int .i64 (q.1:Int))]) (λq w=>q.1<=ks.length/\∃M1,Lt M1 w/\((RT.str.sl).sl).V M1 w ks v0/\Own RT.str 9 M1 w w0.heap.size q.2 (ks.take q.1).flatten/\Step M w0 M1 w aA) (λq=>ks.length-q.1) (0,r9) Y7 ?_ ?_
   ·exact⟨bC _,_,X4,Au,aj6,S9⟩
   ·clear hM hv S X4 Au ho S9;rintro⟨i,u⟩ w ⟨hi,M1,hM,hv,ho,S⟩;dsimp only at hi ho ⊢;have pH:=Fh ks i;refine T.aQ (ch G G G (ad (aI ?_)));refine bM G (λGt=>?_) (λGt=>?_)
    ·refine aR (aI (aS (T.aQ ?_)));obtain⟨l,hk⟩:∃l,ks[i]? =some l:=⟨_,al k3⟩;obtain⟨xg,CK⟩:=HY hk;have hk3:=Fh ks (i+1);refine bX iM qM G G G hv bY k3 (λu4 x zu IH=>?_);rw[an]at zu;obtain rfl:=ar (hk.symm.trans zu);refine bE az G G G G G IH bY (λav9 abL=>?_);refine Rg.bA G G (aH (ab G G (ab G G ?_)));refine cN (M:=M1) (base:=w0.heap.size) az I9 G G G G ho abL bY k3 k3 (S.size) (λahl awa awb abM SM=>?_);replace hv:=hv.le SM.le;replace hM:=SM.lt hM;have:=S.size;replace S:=S.cC SM ho (aN _);replace ho:=abM;refine Rg.bA G G (aH (bG G G G k3 (ab G G (ad ?_))));refine⟨G,(i+1,ahl),Y7,?_,?_⟩
     ·exact⟨by dsimp only;omega,_,hM,hv,by dsimp only;rw[CK];exact ho,S⟩
     ·dsimp only;omega
    ·refine cO (T.aQ (ab G G (Rg.bA G G (aT ?_))));rw[aL k3]at ho;exact aX G G ⟨_,ho,hM,S⟩
theorem Fj {M:aJ} {ks:List (List (List UInt8))} {v0:Value} (w0:World) (hM:Lt M w0) (hv:((RT.str.sl).sl).V M w0 ks v0) (hl:ks.flatten.length<=100000000):
  Spec Tryz.prog 113 #[v0] w0 (λv w=>∃M',Own RT.str 9 M' w w0.heap.size v (gC ks)/\Lt M' w/\Step M w0 M' w aA):=by
 refine bF (args:=[_]) (fn:=Tryz.f113) Tryz.func113 G (n:=10) Tryz.ntmps113 (T.aQ (Rg.bA G G (T.aQ (ab G G ?_))));refine a8 G G aqh (Fi w0 hM hv hl) (λr1 w1 hc=>?_);obtain⟨M1,ho1,mV,s1⟩:=hc;refine Rg.bA G G (T.aQ (ab G G ?_));refine a8 G G aqg (Oq w1 (ho1.Wh pC (M':=allM) λ_ _=>trivial) hl) (λr2 w2 hc=>?_);obtain⟨rfl,wO,s2⟩:=hc;refine ad (T.aQ (ab G G ?_));refine a8 rfl rfl aqi (Ot w2 wO (by rw[(kr _ _).length_eq];exact hl)) (λr3 w3 hc=>?_);obtain⟨BH,s3⟩:=hc;have Yt:∀b,r1.ownBlock=some b->w0.heap.size<=b:=λb hb=>(ho1.base b hb).1
 have FQ:Step allM w0 allM w3 aA:=(s1.all.trans s2 (λb hb h=>by have:=Yt b h;omega)).trans s3 (λb hb h=>by have:=Yt b h;omega);obtain⟨tf,s4⟩:=BH.Sy pC FQ (aN _) M;refine Rg.bA G G (aT ?_);exact aX G G ⟨_,tf,s4.lt hM,s4⟩
theorem Ov {M:aJ} {ks:List (List (List UInt8))} {v0:Value} (w0:World) (hM:Lt M w0) (hv:((RT.str.sl).sl).V M w0 ks v0) (hl:ks.flatten.length<=100000000):
  Spec Tryz.prog 62 #[v0] w0 (λv w=>∃M',Own RT.str 9 M' w w0.heap.size v (gC ks)/\Lt M' w/\Step M w0 M' w aA):=by
 refine bF (args:=[_]) (fn:=Tryz.f62) Tryz.func62 G (n:=5) Tryz.ntmps62 (T.aQ (Rg.bA G G (T.aQ (ab G G ?_))));refine a8 G G aqf (Fj w0 hM hv hl) (λr1 w1 hc=>?_);refine Rg.bA G G (aT ?_);exact aX G G hc
end Go.K
namespace Go.K
open Go.Proofs
namespace TKHeads
theorem ahm:TI Tryz.prog 180 (.slice none 0 0) 1 24:=by unfold TI;kernel_rfl
theorem nS:TI Tryz.prog 183 (.agg #[(.int .i64 0),(.int .i64 0),(.int .i64 0)]) 3 24:=by unfold TI;kernel_rfl
end TKHeads
open TKHeads
set_option maxRecDepth 10000
theorem ahn:tB Tryz.prog 178 "Len" 110 false:=by unfold tB;kernel_rfl
theorem HZ:tB Tryz.prog 178 "Less" 328 false:=by unfold tB;kernel_rfl
theorem H0:tB Tryz.prog 178 "Swap" 331 false:=by unfold tB;kernel_rfl
theorem aho:tB Tryz.prog 178 "Push" 330 true:=by unfold tB;kernel_rfl
theorem aql:tB Tryz.prog 178 "Pop" 329 true:=by unfold tB;kernel_rfl
theorem yV {M:aJ} {w0:World} {base:Nat} {v:Value} {hs:List Hd} (ho:Own RT.hd 183 M w0 base v hs):
  Spec Tryz.prog 110 #[v] w0 (λv' w'=>v'= .int .i64 hs.length/\w0=w'):=by
 refine bF (args:=[_]) (fn:=Tryz.f110) Tryz.func110 G (n:=5) Tryz.ntmps110 (T.aQ (Rg.bA G G (T.aQ (ab G G (fW cx G ho G (Rg.bA G G (aT ?_)))))));exact aj9
theorem qA {M:aJ} {w0:World} {v:Value} {hs:List Hd} {i j:Nat} (hv:((RT.hd).sl).V M w0 hs v) (hi:i<hs.length) (hj:j<hs.length):
  Spec Tryz.prog 328 #[v,.int .i64 i,.int .i64 j] w0 (λv' w'=>v'= .bool (decide (hn hs i<hn hs j))/\Step M w0 M w' aA):=by
 have hlen:=dZ hv;obtain⟨⟨a1,a2,a3⟩,hx⟩:∃x,hs[i]? =some x:=⟨_,al hi⟩;obtain⟨⟨b1,b2,b3⟩,hy⟩:∃x,hs[j]? =some x:=⟨_,al hj⟩;refine bF (args:=[_,_,_]) (fn:=Tryz.f328) Tryz.func328 G (n:=18) Tryz.ntmps328 (T.aQ (Rg.bA G G (aI ?_)));apply jU mixed rfl rfl;intro II Qe;have nZ:=Qe M;refine ab G G (Rg.bL (ab G G (Rg.bL ?_)));refine bX cx nS G G G (hv.le nZ.le) bY a48 (λJW aqm ahp qu=>?_);obtain rfl:(a1,a2,a3)=aqm:=dw (ar (ahp.symm.trans (by rw[an];exact hx)));refine Rg.bL ?_;refine aD (M:=M) (A:=RT.hd) (B:=RT.int .i64) ez G G I3 q0 (Yl) G G q0 W4 (by repeat (first|exact bH _ _|refine aZ (bI W4) ?_)) (λQf lQ=>?_);refine Rg.bL ?_;refine bV (M:=M) aq G G W4 (by repeat (first|exact bH _ _|refine aZ (bI W4) ?_)) (λYB=>?_);refine bc (v':= .int .i64 (a1)) G ?_;replace YB: -9223372036854775808<=(a1:Int)/\a1<=9223372036854775807:=YB;refine Rg.bL (ab G G (Rg.bL (ab G G (Rg.bL ?_))));refine bX cx nS G G G (hv.le nZ.le) bY a48 (λaBV aqn ahq awc=>?_);obtain rfl:(b1,b2,b3)=aqn:=dw (ar (ahq.symm.trans (by rw[an];exact hy)));refine Rg.bL ?_;refine aD (M:=M) (A:=RT.hd) (B:=RT.int .i64) ez G G I3 q0 (Yl) G G q0 W4 (by repeat (first|exact bH _ _|refine aZ (bI W4) ?_)) (λaBW awd=>?_);refine Rg.bL ?_;refine bV (M:=M) aq G G W4 (by repeat (first|exact bH _ _|refine aZ (bI W4) ?_)) (λYC=>?_);refine bc (v':= .int .i64 (b1)) G ?_;replace YC: -9223372036854775808<=(b1:Int)/\b1<=9223372036854775807:=YC
 refine Rg.bL (ch G G G (Rg.bL (aB G G (Rg.bL (dD (aT ?_))))));exact aX rfl rfl ⟨by rw[Yn hx,Yn hy],nZ⟩
set_option maxHeartbeats 4000000 in
theorem qB {M:aJ} {w0:World} {base:Nat} {v:Value} {hs:List Hd} {i j:Nat} (h:Own RT.hd 183 M w0 base v hs) (hv:v≠ .slice none 0 0) (hi:i<hs.length) (hj:j<hs.length):
  Spec Tryz.prog 331 #[v,.int .i64 i,.int .i64 j] w0 (λv' w'=>Own RT.hd 183 M w' base v (swp hs i j)/\Step M w0 M w' (gy v)):=by
 obtain⟨g,cap,cur,rfl,W8,O2,ue⟩:=h.tC hv;obtain⟨⟨x1,x2,x3⟩,hx⟩:∃x,hs[i]? =some x:=⟨_,al hi⟩;obtain⟨⟨y1,y2,y3⟩,hy⟩:∃x,hs[j]? =some x:=⟨_,al hj⟩;obtain⟨vx,uV⟩:∃vx,RT.hd.V M w0 (x1,x2,x3) vx:=h.val hx;obtain⟨vy,Xx⟩:∃vy,RT.hd.V M w0 (y1,y2,y3) vy:=h.val hy;obtain⟨rfl,rx1,rx2,rx3⟩:=wN uV;obtain⟨rfl,ry1,ry2,ry3⟩:=wN Xx;refine bF (args:=[_,_,_]) (fn:=Tryz.f331) Tryz.func331 G (n:=20) Tryz.ntmps331 ?_;apply T.Xe (M:=M) mixed [(13,λk=>k=g),(15,λk=>k=g)] [cM.eq _,cM.eq _,cM.eq _,cM.eq _,cM.eq _,cM.eq _,cM.eq (.pointer (some ⟨g,j*3,none⟩)),cM.eq (.agg #[.int .i64 y1,.int .i64 y2,.int .i64 y3]),cM.eq _,cM.eq _,cM.eq (.pointer (some ⟨g,i*3,none⟩)),cM.eq (.agg #[.int .i64 x1,.int .i64 x2,.int .i64 x3]),cM.eq (.pointer (some ⟨g,i*3,none⟩)),(cM.mk' (λ_ w=>Own RT.hd 183 M w base (.slice (some ⟨g,0,none⟩) hs.length cap) (hs.set i (y1,y2,y3))\/Own RT.hd 183 M w base (.slice (some ⟨g,0,none⟩) hs.length cap) (swp hs i j)) (λh s=>h.imp (λh=>h.aE s) (λh=>h.aE s))),cM.eq (.pointer (some ⟨g,j*3,none⟩)),(cM.mk' (λ_ w=>Own RT.hd 183 M w base (.slice (some ⟨g,0,none⟩) hs.length cap) (swp hs i j)) (λh s=>h.aE s))]
 ·rfl
 ·intro p hp b hb;simp only[cR,fC,or_false]at hp;rcases hp with rfl|rfl<;>(have hb:b=g:=hb;subst hb;exact O2)
 ·refine AK.of [(13,15)] ?_ ?_
  ·exact⟨λ_ _ _ _=>trivial,⟨λ_ _ _ _=>trivial,⟨λ_ _ _ _=>trivial,⟨λ_ _ _ _=>trivial,⟨λ_ _ _ _=>trivial,⟨λ_ _ _ _=>trivial,⟨λ_ _ _ _=>trivial,⟨λ_ _ _ _=>trivial,⟨λ_ _ _ _=>trivial,⟨λ_ _ _ _=>trivial,⟨λ_ _ _ _=>trivial,⟨λ_ _ _ _=>trivial,⟨λ_ _ _ _=>trivial,⟨λp hp=>(fC (show p∈([]:List (Nat×aJ))from hp)).elim,⟨λ_ _ _ _=>trivial,⟨λp hp=>(fC (show p∈([]:List (Nat×aJ))from hp)).elim,trivial⟩⟩⟩⟩⟩⟩⟩⟩⟩⟩⟩⟩⟩⟩⟩⟩
  ·intro x hx s sj h1 h2 v vj w w' hp st hq;obtain rfl:=b9.1 hx;obtain rfl:=ar h1;obtain rfl:=ar h2;exact Or.inr hq
 ·refine aF ?_ ?_
  ·intro wD E sD;replace sD:Step M _ M wD aA:=sD;refine ab G G ?_;exact a01
  refine aF ?_ ?_
  ·intro wD E sD;replace sD:Step M _ M wD aA:=sD;refine ab G G ?_;exact a01
  refine aF ?_ ?_
  ·intro wD E sD;replace sD:Step M _ M wD (λk=>k=g):=sD;refine ab G G ?_;exact a01
  refine aF ?_ ?_
  ·intro wD E sD;replace sD:Step M _ M wD (λk=>k=g):=sD;refine ab G G ?_;exact a01
  refine aF ?_ ?_
  ·intro wD E sD;replace sD:Step M _ M wD aA:=sD;refine ab G G ?_;exact a01
  refine aF ?_ ?_
  ·intro wD E sD;replace sD:Step M _ M wD aA:=sD;refine ab G G ?_;exact a01
  refine aF ?_ ?_
  ·intro wD E sD;replace sD:Step M _ M wD aA:=sD;refine aC (aC (jG (size:=3) cx nS G G G k3 (q:=j*3) (by rw[an,fh]) ?_));exact a01
  refine aF ?_ ?_
  ·intro wD E sD;replace sD:Step M _ M wD aA:=sD;refine aC ?_;refine cW (A:=RT.hd) ez G nS q0 G G G ((h.aE sD).ptr hy) bY (λva ny=>?_);obtain⟨rfl,_,_,_⟩:=wN ny;exact a01
  refine aF ?_ ?_
  ·intro wD E sD;replace sD:Step M _ M wD (λk=>k=g):=sD;refine ab G G ?_;exact a01
  refine aF ?_ ?_
  ·intro wD E sD;replace sD:Step M _ M wD (λk=>k=g):=sD;refine ab G G ?_;exact a01
  refine aF ?_ ?_
  ·intro wD E sD;replace sD:Step M _ M wD (λk=>k=g):=sD;refine aC (aC (jG (size:=3) cx nS G G G k3 (q:=i*3) (by rw[an,fh]) ?_));exact a01
  refine aF ?_ ?_
  ·intro wD E sD;replace sD:Step M _ M wD aA:=sD;refine aC ?_;refine cW (A:=RT.hd) ez G nS q0 G G G ((h.aE sD).ptr hx) bY (λva ny=>?_);obtain⟨rfl,_,_,_⟩:=wN ny;exact a01
  refine aF ?_ ?_
  ·intro wD E sD;replace sD:Step M _ M wD aA:=sD;refine aC (aC (aC (aC (aC (aC (aC (aC (aC (jG (size:=3) cx nS G G G k3 (q:=i*3) (by rw[an,fh]) ?_)))))))));exact a01
  refine aF ?_ ?_
  ·intro wD E sD;replace sD:Step M _ M wD aA:=sD;refine aC (aC (aC (aC (aC (aC (aC (aC (aC ?_))))))));refine Rg.Jd (A:=RT.hd) (M:=M) nS G G G (h.aE sD) hi (Sz ry1 ry2 ry3) (λw' ig s'=>?_);exact ad ⟨G,G,undef,G,.inl ig,s'⟩
  refine aF ?_ ?_
  ·intro wD E sD;replace sD:Step M _ M wD (λk=>k=g):=sD;refine aC (aC (aC (aC (aC (aC (aC (aC (aC (aC (aC (aC ?_)))))))))));refine aC (aC (aC ?_));intro N2 yW;refine jG (size:=3) cx nS G G G k3 (q:=j*3) (by rw[an,fh]) ?_;exact a01
  refine aF ?_ ?_
  ·intro wD E sD;replace sD:Step M _ M wD (λk=>k=g):=sD;refine aC (aC ?_);intro N2 yW;refine aC (aC (aC (aC (aC (aC (aC (aC (aC (aC (aC (aC ?_)))))))))));refine aC ?_;intro N2 yW;rcases yW with ho|ho
   ·refine Rg.Jd (A:=RT.hd) (M:=M) nS rfl rfl rfl ho (by rw[fX];exact hj) (Sz rx1 rx2 rx3) (λw' ig s'=>?_);exact ad ⟨rfl,rfl,undef,rfl,by rw[Mo hx hy];exact ig,s'⟩
   ·refine Rg.Jd (A:=RT.hd) (M:=M) nS rfl rfl rfl ho (by rw[nR];exact hj) (Sz rx1 rx2 rx3) (λw' ig s'=>?_);exact ad ⟨rfl,rfl,undef,rfl,by rw[Og hx hy]at ig;exact ig,s'⟩
  exact yh
 ·intro wD0 sD0;replace sD0:Step M _ M wD0 (λb=>(λk=>k=g) b\/(λk=>k=g) b):=sD0;refine aC (aC (aC (aC (aC (aC (aC (aC (aC (aC (aC (aC ?_)))))))))));refine aC ?_;intro awh aqp;refine aC ?_;intro awi abO
  first|refine uN ?_|simp+decide only[tn,lf,if_true,if_false]|skip
  exact iw rfl ⟨abO,sD0.eL (λb hb=>by rcases hb with hb|hb<;>(have hb:b=g:=hb;subst hb;rfl)) (λb hb=>by have hb:b=g:=(ar hb).symm;subst hb;exact O2)⟩
theorem KG {M:aJ} {w0:World} {bh base:Nat} {v:Value} {hs:List Hd} {a b c:Int} (hM:Lt M w0) (h:uX 180 183 M w0 bh base v hs) (ra:nj a) (rb:nj b) (rc:nj c) (hl:hs.length<=1099511627776):
  Spec Tryz.prog 330 #[.pointer (some ⟨bh,0,none⟩),.iface 183 (.agg #[.int .i64 a,.int .i64 b,.int .i64 c])] w0 (λv' w'=>∃M' v2,uX 180 183 M' w' bh base v2 (hs++[(a,b,c)])/\Lt M' w'∧Step M w0 M' w' (NB 183 M w0 bh base)):=by
 have hbh:=h.h;obtain⟨g,cap,cur,hvg,W8,O2,ue⟩:=h.o.tC h.nn;have Ow:=ae ue;refine bF (args:=[_,_]) (fn:=Tryz.f330) Tryz.func330 G (n:=13) Tryz.ntmps330 ?_;apply T.Dt (M:=M) mixed [(7,gy v)] [cM.eq _,cM.eq _,cM.eq _,cM.eq _,cM.eq _,cM.eq _,cM.V ((RT.hd).sl) [(a,b,c)],(cM.mk' (λv w=>∃M2,(∀b,b<w0.heap.size->(M2 b↔M b))/\Lt M2 w/\Own RT.hd 183 M2 w base v (hs++[(a,b,c)])) (fun⟨M2,h1,h2,h3⟩ s=>⟨M2,h1,(s.any M2).lt h2,h3.aE (s.any M2)⟩))] 8
 ·rfl
 ·rfl
 ·rfl
 ·rfl
 ·rfl
 ·intro p hp b hb;obtain rfl:=b9.1 hp;exact h.o.mut_ b hb
 ·exact⟨λ_ _ _ _=>trivial,⟨λ_ _ _ _=>trivial,⟨λ_ _ _ _=>trivial,⟨λ_ _ _ _=>trivial,⟨λ_ _ _ _=>trivial,⟨λ_ _ _ _=>trivial,⟨λ_ _ _ _=>trivial,⟨λp hp=>(fC (show p∈([]:List (Nat×aJ))from hp)).elim,trivial⟩⟩⟩⟩⟩⟩⟩⟩
 ·refine aO ?_ ?_
  ·intro wD E sD;replace sD:Step M _ M wD (gy v):=sD;refine ab G G ?_;exact a01
  refine aO ?_ ?_
  ·intro wD E sD;replace sD:Step M _ M wD (gy v):=sD;refine ab G G ?_;exact a01
  refine aO ?_ ?_
  ·intro wD E sD;replace sD:Step M _ M wD (gy v):=sD;refine aC (cu G ⟨_,G⟩ G ?_);exact a01
  refine aO ?_ ?_
  ·intro wD E sD;replace sD:Step M _ M wD aA:=sD;refine aC (aV cx G G G (dE sD W4) G ?_);exact a01
  refine aO ?_ ?_
  ·intro wD E sD;replace sD:Step M _ M wD (gy v):=sD;refine ab G G ?_;exact a01
  refine aO ?_ ?_
  ·intro wD E sD;replace sD:Step M _ M wD (gy v):=sD;refine aC (Rg.LB ez G G G ?_);exact a01
  refine aO ?_ ?_
  ·intro wD E sD;replace sD:Step M _ M wD aA:=sD;refine aC ?_;refine dP (A:=RT.hd) (hn:=by decide) (M:=M) cx nS q0 G G (sD.lt hM) (Sz ra rb rc) (.inl G) (λu6 w6 GA s6=>?_);exact ad ⟨G,G,_,G,GA,s6⟩
  refine aO ?_ ?_
  ·intro wD E sD;replace sD:Step M _ M wD aA:=sD;refine aC ?_;intro v6 wz;refine cN (M:=M) (base:=base) cx nS rfl rfl rfl rfl (h.o.aE sD) wz bY a03 a03 (by have:=sD.size;omega) (λv7 M7 w7 oK s7=>?_);exact ad ⟨G,G,_,G,⟨M7,λb hb=>(s7.mem b (k9 hb sD.size)),s7.lt (sD.lt hM),oK⟩,s7.back⟩
  exact vV
 ·intro wD0 sD0;replace sD0:Step M _ M wD0 (gy v):=sD0;refine aC (aC (aC (aC (aC (aC ?_)))));intro aB0 awj;intro aqq ahr;obtain⟨M7,hm7,hl7,oK⟩:=ahr;have s7:=sD0.ag2 hm7 hl7;have hb7:=s7.keep h.h (λhk=>h.apart bh hk rfl);have mb7:M7 bh:=(hm7 bh (ae h.h)).2 h.mh;refine cu G ⟨_,G⟩ G ?_;refine cF (M:=M7) (u:=v) ahm rfl rfl hb7 rfl (by obtain⟨_,_,he,_⟩:=oK.isSlice;rw[he];rfl) mb7 (λw9 h9 s9=>?_);refine ad ?_
  first|refine uN ?_|simp+decide only[tn,lf,if_true,if_false]|skip
  refine iw G ⟨M7,aqq,⟨h9,mb7,oK.step s9 (λk hk=>oK.apart hb7 h.ne k hk),oK.yQ (by simp),h.ne⟩,s9.lt hl7,?_⟩;exact(s7.Ym h).trans s9 (λb hb he=>⟨he▸h.mh,.inl he⟩)
theorem Ox {M:aJ} {w0:World} {bh base:Nat} {v:Value} {hs:List Hd} {a b c:Int} (hM:Lt M w0) (h:uX 180 183 M w0 bh base v hs) (hx:hs[hs.length-1]? =some (a,b,c)):
  Spec Tryz.prog 329 #[.pointer (some ⟨bh,0,none⟩)] w0 (λv' w'=>v'= .iface 183 (.agg #[.int .i64 a,.int .i64 b,.int .i64 c])/\∃M' v2,uX 180 183 M' w' bh base v2 (hs.take (hs.length-1))/\Lt M' w'∧Step M w0 M' w' (NB 183 M w0 bh base)):=by
 obtain⟨g,cap,cur,rfl,W8,O2,ue⟩:=h.o.tC h.nn;have hbh:=h.h;have hlen:=h.o.ltM;have wZ:=(aj.1 hx).1;obtain⟨vx,uV⟩:=h.o.val hx;obtain⟨rfl,ra,rb,rc⟩:=wN uV;obtain⟨_,ad7,ahs,awn⟩:=h.o.isSlice;simp only[gG]at ahs;have nr:hs.length<=cap:=by omega
 refine bF (args:=[_]) (fn:=Tryz.f329) Tryz.func329 G (n:=27) Tryz.ntmps329 (T.aQ (Rg.bA G G (aI ?_)));apply T.Dt (M:=M) mixed [] [cM.eq _,cM.eq _,cM.eq _,cM.eq _,cM.eq _,cM.eq _,cM.eq _,cM.eq _,cM.eq (.pointer (some ⟨g,(hs.length-1)*3,none⟩)),cM.eq (.agg #[.int .i64 a,.int .i64 b,.int .i64 c]),(cM.mk' (λv w=>∃b:Nat,v= .pointer (some ⟨b,0,none⟩)/\w0.heap.size<=b/\b<w.heap.size/\w.heap[b]? =some (.cells #[.int .i64 0,.int .i64 0,.int .i64 0] 183 (0,0))) (fun⟨b,h1,h2,h3,h4⟩ s=>⟨b,h1,h2,k9 h3 s.size,s.aP h4⟩))] 11
 ·rfl
 ·rfl
 ·rfl
 ·rfl
 ·rfl
 ·exact aj3
 ·exact yn.none
 ·refine aO ?_ ?_
  ·intro wD E sD;refine ab G G ?_;exact a01
  refine aO ?_ ?_
  ·intro wD E sD;refine aC (cu G ⟨_,G⟩ G ?_);exact a01
  refine aO ?_ ?_
  ·intro wD E sD;refine aC (aV cx G G G (dE sD W4) G ?_);exact a01
  refine aO ?_ ?_
  ·intro wD E sD;refine ab G G ?_;exact a01
  refine aO ?_ ?_
  ·intro wD E sD;refine aC (cu G ⟨_,G⟩ G ?_);exact a01
  refine aO ?_ ?_
  ·intro wD E sD;refine aC (aV cx G G G (dE sD W4) G ?_);exact a01
  refine aO ?_ ?_
  ·intro wD E sD;refine aC (Rg.rq cx G G ?_);exact a01
  refine aO ?_ ?_
  ·intro wD E sD;refine aC (fQ G G G k3 ?_);exact a01
  refine aO ?_ ?_
  ·intro wD E sD;refine aC (aC (jG (size:=3) cx nS G G G k3 (q:=(hs.length-1)*3) (by rw[show((hs.length:Int)-1).toNat=hs.length-1 from by omega,fh]) ?_));exact a01
  refine aO ?_ ?_
  ·intro wD E sD;refine aC ?_;refine cW (A:=RT.hd) ez G nS q0 G G G ((h.o.aE sD).ptr hx) bY (λva ny=>?_);obtain⟨rfl,_,_,_⟩:=wN ny;exact a01
  refine aO ?_ ?_
  ·intro wD E sD;refine eA M nS G (λb7 w7 z7 z7' g7 s7=>?_);exact ad ⟨G,G,_,G,⟨b7,G,eG sD.size z7,z7',g7⟩,s7.any M⟩
  exact vV
 ·intro II nZ;refine aC (aC (aC (aC (aC (aC (aC (aC (aC (aC ?_)))))))));intro awo abP;obtain⟨b7,rfl,z7,z7',g7⟩:=abP;have s7:=nZ.own z7 z7';refine ej (M:=ins M b7) (vs:=[.int .i64 a,.int .i64 b,.int .i64 c]) nS G G (by intro u hu;simp only[cR,fC,or_false]at hu;rcases hu with rfl|rfl|rfl<;>rfl) rfl rfl g7 (.inl rfl) (λw8 g8 s8=>?_);have S8:=s7.cL s8 (λb hb=>by have hb:b=b7:=hb;rw[hb];exact z7);have Q9:=ae hbh;have aqs:=S8.aP hbh;clear hbh;refine ad (aI ?_);apply T.Dt (M:=ins M b7) mixed [] [cM.eq _,cM.eq _,cM.eq _,cM.eq _,cM.eq _,cM.eq _,cM.eq _,cM.eq _,cM.eq _,cM.eq (.slice (some ⟨g,0,none⟩) (hs.length-1) cap)] 10
  ·rfl
  ·rfl
  ·rfl
  ·rfl
  ·rfl
  ·exact aj3
  ·exact yn.none
  ·refine aO ?_ ?_
   ·intro wD E sD;refine ab G G ?_;exact a01
   refine aO ?_ ?_
   ·intro wD E sD;refine ab G G ?_;exact a01
   refine aO ?_ ?_
   ·intro wD E sD;refine aC (cu G ⟨_,G⟩ G ?_);exact a01
   refine aO ?_ ?_
   ·intro wD E sD;refine aC (aV cx G G G (dE sD W4) G ?_);exact a01
   refine aO ?_ ?_
   ·intro wD E sD;refine ab G G ?_;exact a01
   refine aO ?_ ?_
   ·intro wD E sD;refine aC (cu G ⟨_,G⟩ G ?_);exact a01
   refine aO ?_ ?_
   ·intro wD E sD;refine aC (aV cx G G G (dE sD W4) G ?_);exact a01
   refine aO ?_ ?_
   ·intro wD E sD;refine aC (Rg.rq cx G G ?_);exact a01
   refine aO ?_ ?_
   ·intro wD E sD;refine aC (fQ G G G k3 ?_);exact a01
   refine aO ?_ ?_
   ·intro wD E sD;refine aC (aC (Rg.Zy cx nS G G G k3 (bc (v':= .slice (some ⟨g,0,none⟩) (hs.length-1) cap) (by rw[show((hs.length:Int)-1).toNat=hs.length-1 from by omega]) ?_)));exact a01
   exact vV
  ·intro wD2 FT;refine aC (aC (aC (aC (aC (aC (aC (aC (aC (aC (cu G ⟨_,G⟩ G ?_))))))))));refine cF (M:=ins M b7) (u:= .slice (some ⟨g,0,none⟩) hs.length cap) ahm G G (FT.aP aqs) G G (.inr h.mh) (λw9 h9 s9=>?_);have g9:=s9.keep (FT.aP g8) (λe=>by have e:b7=bh:=e;omega);refine ad (T.aQ (gJ (vs:=[.int .i64 a,.int .i64 b,.int .i64 c]) ez G nS G G G g9 (Rg.Ap ez G G G (Rg.bA G G (aT ?_)))));have VP:Own RT.hd 183 (ins M b7) w9 base (.slice (some ⟨g,0,none⟩) hs.length cap) hs:=((h.o.aE S8).aE FT).step s9 (λk hk e=>h.apart k hk e);have S9:=(S8.aw FT).eL (N':=NB 183 M w0 bh base) a42 (λ_ h=>h.1);exact aX G G ⟨G,ins M b7,_,⟨h9,.inr h.mh,VP.cut k3,by simp,h.ne⟩,s9.lt (FT.lt (S8.lt hM)),S9.trans s9 (λb hb he=>⟨he▸h.mh,.inl he⟩)⟩
end Go.K
namespace Go.K
open Go.Proofs
namespace TKHeap11
theorem Wq:Enters Tryz.prog 110:=enters Tryz.func110 rfl q0
theorem aqt:Enters Tryz.prog 159:=enters Tryz.func159 rfl q0
theorem aqu:Enters Tryz.prog 160:=enters Tryz.func160 rfl q0
theorem SN:Enters Tryz.prog 328:=enters Tryz.func328 rfl q0
theorem aqv:Enters Tryz.prog 329:=enters Tryz.func329 rfl q0
theorem aqw:Enters Tryz.prog 330:=enters Tryz.func330 rfl q0
theorem SO:Enters Tryz.prog 331:=enters Tryz.func331 rfl q0
end TKHeap11
open TKHeap11
set_option maxRecDepth 10000
theorem Wr {M:aJ} {w0:World} {bh base:Nat} {v:Value} {hs:List Hd} {j:Nat} (h0:uX 180 183 M w0 bh base v hs) (dT:Ux hs j) (hj0:j<hs.length) (hl:hs.length<=140737488355328):
  Spec Tryz.prog 159 #[.iface 178 (.pointer (some ⟨bh,0,none⟩)),.int .i64 j] w0 (λv' w'=>∃sr,uX 180 183 M w' bh base v sr/\sV sr/\sr.Perm hs/\Step M w0 M w' (gy v)):=by
 refine bF (args:=[_,_]) (fn:=Tryz.f159) Tryz.func159 G (n:=23) Tryz.ntmps159 (aS ?_);refine dg (σ:=Nat×List Hd) (λs=>[(0,.iface 178 (.pointer (some ⟨bh,0,none⟩))),(1,.int .i64 s.1)]) (λs w=>uX 180 183 M w bh base v s.2/\Ux s.2 s.1/\s.1<s.2.length/\s.2.length=hs.length/\s.2.Perm hs/\Step M w0 M w (gy v)) (λs=>s.1) (j,hs) a38 ?_ ?_
 ·exact⟨h0,dT,hj0,G,List.Perm.refl _,(bz).eL a42 (λb hb=>h0.o.mut_ b hb)⟩
 ·rintro⟨k,xs⟩ w1 ⟨h,hu,hk,qb,hp,S⟩;dsimp only at h hu hk qb hp ⊢;refine aS (T.aQ (ab G G (fQ G G G k3 (Rg.par G G G k3 ?_))));obtain⟨i,hi⟩:∃i:Nat,i=(k-1)/2:=⟨_,rfl⟩;rw[<-hi];refine Rg.bA G G (aI (T.aQ (ab G G (ab G G (sJ G G G (ab G G ?_))))));refine aW (g:=11) G (λlA=>?_) (λlA=>?_)
  ·refine ao G G G G (ao G G G G (ao G G G G (ao G G G G (ao G G G G (bm G G G (ad (kT G (cO ?_))))))))
   first|refine uN ?_|simp+decide only[tn,lf,if_true,if_false]|skip
   first
   |exact iw G ⟨xs,h,hu.done (.inl k3),hp,S⟩
   |exact iw rfl ⟨xs,h,hu.done (.inr (by rw[<-hi];omega)),hp,S⟩
  ·refine ak G G (ab G G (ak G G (ab G G (ak G G (ab G G (ak G G ?_))))));refine o8 G G G (HZ.load dW cx G h.h G) SN (qA (i:=k) (j:=i) (h.view k3) k3 k3) (λr w2 hq=>?_);obtain⟨rfl,sq⟩:=hq;have h:=h.aE (sq.any M);replace S:=S.aw (sq.any M);refine ak G G (kU G G (bc (v':= .bool (decide (¬(hn xs k<hn xs i)))) (by rw[decide_not]) (aM G G G (ad ?_))));refine bM G (λc1=>?_) (λc1=>?_)
   ·refine cO ?_
    first|refine uN ?_|simp+decide only[tn,lf,if_true,if_false]|skip
    first
    |exact iw G ⟨xs,h,hu.done (.inl k3),hp,S⟩
    |exact iw rfl ⟨xs,h,hu.done (.inr (by rw[<-hi];omega)),hp,S⟩
   ·have eK:=dj.1 c1;refine aR (T.aQ (ab G G (ab G G (ab G G ?_))));refine o8 G G G (H0.load dW cx G h.h G) SO (qB (i:=i) (j:=k) h.o h.nn k3 k3) (λr w3 hq=>?_);obtain⟨ho,sq⟩:=hq;have h2:=h.wrote sq ho;have S2:=S.trans sq (λ_ _ h=>h);refine ad (aH (ab G G (Rg.bA G G ?_)));refine⟨G,(i,swp xs i k),a38,?_,?_⟩
    ·refine⟨h2,?_,by rw[nR];simp only;omega,by rw[nR];exact qb,(tZ k3 hk).trans hp,S2⟩;simp only;rw[hi];exact hu.swap hk k3 (by rw[<-hi];exact eK)
    ·simp only;omega
theorem Oy {M:aJ} {w0:World} {bh base:Nat} {v:Value} {hs:List Hd} {n:Nat} (h0:uX 180 183 M w0 bh base v hs) (Yl:O1 hs n 0) (hn0:n<=hs.length) (hl:hs.length<=140737488355328):
  Spec Tryz.prog 160 #[.iface 178 (.pointer (some ⟨bh,0,none⟩)),.int .i64 0,.int .i64 n] w0 (λv' w'=>∃sr,uX 180 183 M w' bh base v sr/\(∀k,0<k->k<n->hn sr ((k-1)/2)<=hn sr k)/\sr.Perm hs/\(∀k,n<=k->sr.getD k (0,0,0)=hs.getD k (0,0,0))/\Step M w0 M w' (gy v)):=by
 refine bF (args:=[_,_,_]) (fn:=Tryz.f160) Tryz.func160 G (n:=48) Tryz.ntmps160 (T.aQ (Rg.bA G G (T.aQ (ab G G (Rg.bA G G (aI (aS ?_)))))));refine dg (σ:=Nat×List Hd) (λs=>[(0,.iface 178 (.pointer (some ⟨bh,0,none⟩))),(1,.int .i64 0),(2,.int .i64 n),(7,.int .i64 s.1)]) (λs w=>uX 180 183 M w bh base v s.2/\O1 s.2 n s.1/\s.1<=n/\s.2.length=hs.length/\s.2.Perm hs/\(∀k,n<=k->s.2.getD k (0,0,0)=hs.getD k (0,0,0))/\Step M w0 M w (gy v)) (λs=>n-s.1) (0,hs) Y7 ?_ ?_
 ·exact⟨h0,Yl,bC _,G,List.Perm.refl _,λ_ _=>G,(bz).eL a42 (λb hb=>h0.o.mut_ b hb)⟩
 ·rintro⟨i,xs⟩ w1 ⟨h,hd,k4,qb,hp,hk,S⟩;dsimp only at h hd k4 qb hp hk ⊢;refine aS (T.aQ (ab G G (Rg.Pg G G G k3 (bG G G G k3 (bc (v':= .int .i64 ((2*i+1:Nat):Int)) (congrArg _ k3) (Rg.bA G G (aI (T.aQ ?_))))))));refine ab G G (ab G G (eP G G G (ab G G ?_)));refine aW (g:=18) G (λaqx=>?_) (λaqx=>?_)
  ·refine ao G G G G (ao G G G G (bm G G G (ad (kT G (cO (T.aQ (ab G G (ab G G (iX G G G (aB G G ?_))))))))));refine ad (aT ?_)
   first
   |exact ak4
   |exact aj0
  ·refine ak G G (ab G G (ak G G (ch G G G (aM G G G (ad (T.zQ G (k3) (aR (T.aQ (ab G G (aB G G ?_))))))))));refine ad (aI (T.aQ (ab G G (bG G G G k3 (bc (v':= .int .i64 ((2*i+2:Nat):Int)) (congrArg _ k3) (Rg.bA G G (T.aQ (ab G G ?_))))))));refine ab G G (ch G G G (ab G G ?_));refine aW (g:=28) G (λql=>?_) (λql=>?_)
   ·refine ak G G (ab G G (ak G G (ab G G (ak G G (ab G G (ak G G ?_))))));refine o8 G G G (HZ.load dW cx G h.h G) SN (qA (i:=2*i+2) (j:=2*i+1) (h.view k3) k3 k3) (λr w2 hq=>?_);obtain⟨rfl,sq⟩:=hq;have h:=h.aE (sq.any M);replace S:=S.aw (sq.any M);refine bm G G G (ad ?_);refine bM G (λc6=>?_) (λc6=>?_)
    ·obtain⟨j,hj⟩:∃j:Nat,j=2*i+2:=⟨_,rfl⟩;have Fk:j=2*i+1\/j=2*i+2:=by omega
     have OR:j<n:=by omega
     have PI:∀k,(k=2*i+1\/k=2*i+2)->k<n->hn xs j<=hn xs k:=λk hk FR=>by
      rcases hk with e|e
      ·rw[e,hj];omega
      ·rw[e,hj];exact zM _
     refine aH (ab G G (Rg.bA G G (aI (T.aQ (ab G G (ab G G (bc (v':= .int .i64 (j:Int)) (congrArg _ k3) (ab G G ?_))))))));refine o8 G G G (HZ.load dW cx G h.h G) SN (qA (i:=j) (j:=i) (h.view k3) k3 k3) (λr w3 hq=>?_);obtain⟨rfl,sq⟩:=hq;have h:=h.aE (sq.any M);replace S:=S.aw (sq.any M);refine kU G G (bc (v':= .bool (decide (¬(hn xs j<hn xs i)))) (by rw[decide_not]) (ad ?_));refine bM G (λc8=>?_) (λc8=>?_)
     ·refine cO (T.aQ (ab G G (ab G G (iX G G G (Rg.bA G G (aT ?_))))))
      first
      |exact ak4
      |exact aj0
     ·have eK:=dj.1 c8;refine aR (T.aQ (ab G G (ab G G (ab G G (bc (v':= .int .i64 (j:Int)) (congrArg _ k3) ?_)))));refine o8 G G G (H0.load dW cx G h.h G) SO (qB (i:=i) (j:=j) h.o h.nn k3 k3) (λr w4 hq=>?_);obtain⟨ho,sq⟩:=hq;have h2:=h.wrote sq ho;have S2:=S.trans sq (λ_ _ h=>h);refine ad (aH (ab G G (bc (v':= .int .i64 (j:Int)) (congrArg _ k3) (Rg.bA G G ?_))));refine⟨G,(j,swp xs i j),Y7,?_,?_⟩
      ·refine⟨h2,hd.swap k3 OR Fk PI eK,by simp only;omega,by simp only;rw[nR];exact qb,(tZ k3 k3).trans hp,λk FR=>?_,S2⟩;simp only;rw[tY k3 k3,if_neg k3,if_neg k3];exact hk k FR
      ·simp only;omega
    ·obtain⟨j,hj⟩:∃j:Nat,j=2*i+1:=⟨_,rfl⟩;have Fk:j=2*i+1\/j=2*i+2:=by omega
     have OR:j<n:=by omega
     have PI:∀k,(k=2*i+1\/k=2*i+2)->k<n->hn xs j<=hn xs k:=λk hk FR=>by
      rcases hk with e|e
      ·rw[e,hj];exact zM _
      ·rw[e,hj];exact Int.not_lt.1 c6
     refine aR (aI (T.aQ (ab G G (ab G G (bc (v':= .int .i64 (j:Int)) (congrArg _ k3) (ab G G ?_))))));refine o8 G G G (HZ.load dW cx G h.h G) SN (qA (i:=j) (j:=i) (h.view k3) k3 k3) (λr w3 hq=>?_);obtain⟨rfl,sq⟩:=hq;have h:=h.aE (sq.any M);replace S:=S.aw (sq.any M);refine kU G G (bc (v':= .bool (decide (¬(hn xs j<hn xs i)))) (by rw[decide_not]) (ad ?_));refine bM G (λc8=>?_) (λc8=>?_)
     ·refine cO (T.aQ (ab G G (ab G G (iX G G G (Rg.bA G G (aT ?_))))))
      first
      |exact ak4
      |exact aj0
     ·have eK:=dj.1 c8;refine aR (T.aQ (ab G G (ab G G (ab G G (bc (v':= .int .i64 (j:Int)) (congrArg _ k3) ?_)))));refine o8 G G G (H0.load dW cx G h.h G) SO (qB (i:=i) (j:=j) h.o h.nn k3 k3) (λr w4 hq=>?_);obtain⟨ho,sq⟩:=hq;have h2:=h.wrote sq ho;have S2:=S.trans sq (λ_ _ h=>h);refine ad (aH (ab G G (bc (v':= .int .i64 (j:Int)) (congrArg _ k3) (Rg.bA G G ?_))));refine⟨G,(j,swp xs i j),Y7,?_,?_⟩
      ·refine⟨h2,hd.swap k3 OR Fk PI eK,by simp only;omega,by simp only;rw[nR];exact qb,(tZ k3 k3).trans hp,λk FR=>?_,S2⟩;simp only;rw[tY k3 k3,if_neg k3,if_neg k3];exact hk k FR
      ·simp only;omega
   ·obtain⟨j,hj⟩:∃j:Nat,j=2*i+1:=⟨_,rfl⟩;have Fk:j=2*i+1\/j=2*i+2:=by omega
    have OR:j<n:=by omega
    have PI:∀k,(k=2*i+1\/k=2*i+2)->k<n->hn xs j<=hn xs k:=λk hk FR=>by
     rcases hk with e|e
     ·rw[e,hj];exact zM _
     ·omega
    refine ao G G G G (ao G G G G (ao G G G G (ao G G G G (aM G G G (ad (jD G (aR (aI (T.aQ (ab G G ?_))))))))));refine ab G G (bc (v':= .int .i64 (j:Int)) (congrArg _ k3) (ab G G ?_));refine o8 G G G (HZ.load dW cx G h.h G) SN (qA (i:=j) (j:=i) (h.view k3) k3 k3) (λr w3 hq=>?_);obtain⟨rfl,sq⟩:=hq;have h:=h.aE (sq.any M);replace S:=S.aw (sq.any M);refine kU G G (bc (v':= .bool (decide (¬(hn xs j<hn xs i)))) (by rw[decide_not]) (ad ?_));refine bM G (λc8=>?_) (λc8=>?_)
    ·refine cO (T.aQ (ab G G (ab G G (iX G G G (Rg.bA G G (aT ?_))))))
     first
     |exact ak4
     |exact aj0
    ·have eK:=dj.1 c8;refine aR (T.aQ (ab G G (ab G G (ab G G (bc (v':= .int .i64 (j:Int)) (congrArg _ k3) ?_)))));refine o8 G G G (H0.load dW cx G h.h G) SO (qB (i:=i) (j:=j) h.o h.nn k3 k3) (λr w4 hq=>?_);obtain⟨ho,sq⟩:=hq;have h2:=h.wrote sq ho;have S2:=S.trans sq (λ_ _ h=>h);refine ad (aH (ab G G (bc (v':= .int .i64 (j:Int)) (congrArg _ k3) (Rg.bA G G ?_))));refine⟨G,(j,swp xs i j),Y7,?_,?_⟩
     ·refine⟨h2,hd.swap k3 OR Fk PI eK,by simp only;omega,by simp only;rw[nR];exact qb,(tZ k3 k3).trans hp,λk FR=>?_,S2⟩;simp only;rw[tY k3 k3,if_neg k3,if_neg k3];exact hk k FR
     ·simp only;omega
theorem Oz {M:aJ} {w0:World} {bh base:Nat} {v:Value} {hs:List Hd} {a b c:Int} (hM:Lt M w0) (h:uX 180 183 M w0 bh base v hs) (hh:sV hs) (ra:nj a) (rb:nj b) (rc:nj c) (hl:hs.length<=1099511627776):
  Spec Tryz.prog 109 #[.iface 178 (.pointer (some ⟨bh,0,none⟩)),.iface 183 (.agg #[.int .i64 a,.int .i64 b,.int .i64 c])] w0 (λv' w'=>∃M' v2 sr,uX 180 183 M' w' bh base v2 sr/\sV sr/\sr.Perm (hs++[(a,b,c)])/\Lt M' w'∧Step M w0 M' w' (NB 183 M w0 bh base)):=by
 refine bF (args:=[_,_]) (fn:=Tryz.f109) Tryz.func109 G (n:=12) Tryz.ntmps109 (T.aQ (ab G G (ab G G ?_)));refine o8 G G G (aho.ptr dW _) aqw (KG hM h ra rb rc hl) (λr w1 hq=>?_);obtain⟨M1,v1,h1,mV,s1⟩:=hq;refine ad (aH (ab G G (ab G G ?_)));refine o8 G G G (ahn.load dW cx G h1.h G) Wq (yV h1.o) (λr w2 hq=>?_);obtain⟨rfl,rfl⟩:=hq;have F3:(hs++[(a,b,c)]).length=hs.length+1:=by simp
 refine fQ G G G k3 (bc (v':= .int .i64 (hs.length:Int)) (congrArg _ k3) ?_);refine a8 G G aqt (Wr h1 (Ux.push hh _) k3 k3) (λr2 w3 h=>?_);obtain⟨sr,h2,hh2,Nq,s2⟩:=h;refine ad ?_
 first|refine uN ?_|simp+decide only[tn,lf,if_true,if_false]|skip
 exact iw G ⟨M1,v1,sr,h2,hh2,Nq,s2.lt mV,s1.nb (s2.Ym h1)⟩
theorem SP {M:aJ} {w0:World} {bh base:Nat} {v:Value} {hs:List Hd} (hM:Lt M w0) (h:uX 180 183 M w0 bh base v hs) (hh:sV hs) (wZ:0<hs.length) (hl:hs.length<=1099511627776):
  Spec Tryz.prog 111 #[.iface 178 (.pointer (some ⟨bh,0,none⟩))] w0 (λv' w'=>∃a b c M' v2 sr,v'= .iface 183 (.agg #[.int .i64 a,.int .i64 b,.int .i64 c])/\(nj a/\nj b/\nj c)/\uX 180 183 M' w' bh base v2 sr/\sV sr/\((a,b,c)::sr).Perm hs/\(∀x∈hs,a<=x.1)/\Lt M' w'∧Step M w0 M' w' (NB 183 M w0 bh base)):=by
 refine bF (args:=[_]) (fn:=Tryz.f111) Tryz.func111 G (n:=15) Tryz.ntmps111 (T.aQ (Rg.bA G G (T.aQ (ab G G ?_))));refine o8 G G G (ahn.load dW cx G h.h G) Wq (yV h.o) (λr w1 hq=>?_);obtain⟨rfl,rfl⟩:=hq;refine fQ G G G k3 (bc (v':= .int .i64 ((hs.length-1:Nat):Int)) (congrArg _ k3) (Rg.bA G G (T.aQ (ab G G (ab G G ?_)))));refine o8 G G G (H0.load dW cx G h.h G) SO (qB (i:=0) (j:=hs.length-1) h.o h.nn k3 k3) (λr w2 hq=>?_);obtain⟨wO,s2⟩:=hq;have h2:=h.wrote s2 wO;have pH:=nR hs 0 (hs.length-1);refine ad (T.aQ (ab G G (ab G G ?_)));refine a8 G G aqu (Oy h2 (O1.pop hh wZ) k3 k3) (λr3 w3 h=>?_);obtain⟨ys,h3,Na,hp3,hk3,s3⟩:=h;have hpp:=hp3.trans (tZ (xs:=hs) (i:=0) (j:=hs.length-1) k3 k3);have Ja:=hpp.length_eq;have kF:ys.getD (hs.length-1) (0,0,0)=hs.getD 0 (0,0,0):=by rw[hk3 _ (aN _),tY k3 k3,if_pos rfl]
 obtain⟨⟨a,b,c⟩,N7⟩:∃x,ys[ys.length-1]? =some x:=⟨_,al k3⟩;obtain⟨x,hxe,hpx⟩:=Wb wZ hpp kF;have aqy:x=(a,b,c):=by rw[<-hxe,ax,<-Ja,N7];rfl
 subst aqy;obtain⟨vx,uV⟩:=h3.o.val N7;obtain⟨_,ra,rb,rc⟩:=wN uV;refine ad (T.aQ (ab G G ?_));refine o8 G G G (aql.ptr dW _) aqv (Ox (s3.lt (s2.lt hM)) h3 N7) (λr w4 hq=>?_);obtain⟨rfl,M4,v4,h4,hM4,s4⟩:=hq;refine Rg.bA G G (aT ?_);rw[Ja]at h4
 have C6:∀x∈hs,a<=x.1:=λx hx=>by
  obtain⟨k,hk,_,CK⟩:=abA hx;have:=hh.min k hk;have e0:hn hs 0=a:=by unfold hn;rw[<-kF,hxe]
  omega
 have sS:=((s2.trans s3 (λ_ _ h=>h)).Ym h).nb s4;exact aX G G ⟨a,b,c,M4,v4,_,G,⟨ra,rb,rc⟩,h4,sV.take k3 Na,hpx,C6,hM4,sS⟩
end Go.K
namespace Go.K
open Go.Proofs
namespace TKPut11
theorem nS:TI Tryz.prog 183 (.agg #[(.int .i64 0),(.int .i64 0),(.int .i64 0)]) 3 24:=by unfold TI;kernel_rfl
theorem aqz:placesOf Tryz.prog 183=[(0,1),(1,1),(2,1)].map some:=by kernel_rfl
theorem aqA:Enters Tryz.prog 109:=enters Tryz.func109 rfl q0
end TKPut11
open TKPut11
set_option maxRecDepth 10000
theorem H2 {M:aJ} {w0:World} {bl b4 bh base:Nat} {vl v:Value} {ls:List (List Int)} {hs:List Hd} {i k:Nat} (hM:Lt M w0) (mn:w0.heap[bl]? =some (.cells #[vl] 119 (0,0))) (uW:w0.heap[b4]? =some (.cells #[.pointer (some ⟨bh,0,none⟩)] 178 (0,0))) (hv:(((RT.int .i64).sl).sl).V M w0 ls vl) (h:uX 180 183 M w0 bh base v hs) (hh:sV hs) (hi:i<ls.length) (hk:k<=1099511627776) (hl:hs.length<=1099511627776):
  Spec Tryz.prog 108 #[.int .i64 i,.int .i64 k,.pointer (some ⟨bl,0,none⟩),.pointer (some ⟨b4,0,none⟩)] w0 (λv' w'=>∃M' v2 sr,uX 180 183 M' w' bh base v2 sr/\sV sr/\sr.Perm (hs++Of ls i k)/\Lt M' w'∧Step M w0 M' w' (NB 183 M w0 bh base)):=by
 have hlen:=dZ hv;obtain⟨li,IP⟩:∃x,ls[i]? =some x:=⟨_,al hi⟩;have px:ls.getD i []=li:=by rw[ax,IP];rfl
 refine bF (args:=[_,_,_,_]) (fn:=Tryz.f108) Tryz.func108 G (n:=27) Tryz.ntmps108 (T.aQ (ab G G (aV cn G G G mn G (ab G G ?_))));refine bX cn iJ G G G (hv) bY a48 (λaB1 aqB ahu awr=>?_);obtain rfl:li=aqB:=dw (ar (ahu.symm.trans (by rw[an];exact IP)));refine bE (M:=M) ah G G G G G W4 (by repeat (first|exact bH _ _|refine aZ (bI W4) ?_)) (λaqC SQ=>?_);replace SQ:(((RT.int .i64).sl)).V M _ li aqC:=SQ
 first|refine bK ah rfl W4 rfl ?_|refine fW ah rfl W4 rfl ?_
 refine ch G G G (ad ?_);refine bM G (λc0=>?_) (λc0=>?_)
 ·obtain⟨n,hn⟩:∃x,li[k]? =some x:=⟨_,al k3⟩;have rn:nj n:=Ei SQ hn;have Z1:Of ls i k=[(n,(i:Int),(k:Int))]:=by unfold Of;rw[px,hn]
  apply T.Dt (M:=M) mixed [] [cM.eq _,cM.eq (.iface 178 (.pointer (some ⟨bh,0,none⟩))),cM.eq _,cM.eq _,cM.ptr (((RT.int .i64).sl)) li,cM.V (((RT.int .i64).sl)) li,cM.eq _,cM.ptr (RT.int .i64) n,cM.eq (.int .i64 n),cM.eq _,cM.eq _,cM.eq (.agg #[.int .i64 n,.int .i64 i,.int .i64 k]),cM.eq (.iface 183 (.agg #[.int .i64 n,.int .i64 i,.int .i64 k]))] 13
  ·rfl
  ·rfl
  ·rfl
  ·rfl
  ·rfl
  ·exact aj3
  ·exact yn.none
  ·refine aO ?_ ?_
   ·intro wD E sD;refine aV dW G G G (sD.aP uW) G ?_;exact a01
   refine aO ?_ ?_
   ·intro wD E sD;refine aC (Rg.Ap dW G G G ?_);exact a01
   refine aO ?_ ?_
   ·intro wD E sD;refine aV cn G G G (sD.aP mn) G ?_;exact a01
   refine aO ?_ ?_
   ·intro wD E sD;refine ab G G ?_;exact a01
   refine aO ?_ ?_
   ·intro wD E sD;refine aC (aC ?_);refine bX cn iJ G G G (hv.le sD.le) bY k3 (λui ai ke KH=>?_);obtain rfl:li=ai:=dw (ar (ke.symm.trans (by rw[an];exact IP)));exact ag9
   refine aO ?_ ?_
   ·intro wD E sD;intro v4 qm;refine bE ah G G G G G (show dv (((RT.int .i64).sl)) M wD v4 li from qm) bY (λva ny=>?_);exact ad ⟨G,G,_,G,ny,bz⟩
   refine aO ?_ ?_
   ·intro wD E sD;refine ab G G ?_;exact a01
   refine aO ?_ ?_
   ·intro wD E sD;intro v5 tg;refine aC ?_;refine bX ah I3 G G G ((show((RT.int .i64).sl).V M wD li v5 from tg)) bY k3 (λui ai ke KH=>?_);obtain rfl:n=ai:=dw (ar (ke.symm.trans (by rw[an];exact hn)));exact ag9
   refine aO ?_ ?_
   ·intro wD E sD;intro v7 Cw;refine bV aq G G (show dv (RT.int .i64) M wD v7 n from Cw) bY (λk4=>?_);exact a01
   refine aO ?_ ?_
   ·intro wD E sD;refine ab G G ?_;exact a01
   refine aO ?_ ?_
   ·intro wD E sD;refine ab G G ?_;exact a01
   refine aO ?_ ?_
   ·intro wD E sD;refine aC (aC (aC (ie (places:=[(0,1),(1,1),(2,1)]) ez nS aqz rfl ⟨_,_,rfl,rfl,_,_,rfl,rfl,_,_,rfl,rfl,rfl⟩ (out:=[_,_,_]) ⟨0,[_],rfl,rfl,by simp[Value.cells],1,[_],rfl,rfl,by simp[Value.cells],2,[_],rfl,rfl,by simp[Value.cells],rfl⟩ ?_)));exact a01
   refine aO ?_ ?_
   ·intro wD E sD;refine aC (Rg.Ap ez G G G ?_);exact a01
   exact vV
  ·intro II nZ;refine aC (aC (aC (aC ?_)));intro aqD ahv;intro aB2 aws;refine aC ?_;intro agi X7;refine aC (aC (aC (aC (aC ?_))));refine a8 G G aqA (Oz (nZ.lt hM) (h.aE nZ) hh rn (by unfold nj;omega) (by unfold nj;omega) hl) (λr w1 hq=>?_);obtain⟨M1,v1,sr,h1,hh1,Uu,mV,s1⟩:=hq;refine ad ?_
   first|refine uN ?_|simp+decide only[tn,lf,if_true,if_false]|skip
   exact iw rfl ⟨M1,v1,sr,h1,hh1,by rw[Z1];exact Uu,mV,nZ.nb0.nb s1⟩
 ·have Z1:Of ls i k=[]:=by unfold Of;rw[px,cE k3]
  refine aR ?_
  first|refine uN ?_|simp+decide only[tn,lf,if_true,if_false]|skip
  exact iw rfl ⟨M,v,hs,h,hh,by rw[Z1,eJ],hM,(bz).nb0⟩
end Go.K
namespace Go.K
open Go.Proofs
namespace TKRises11
theorem VL:Enters Tryz.prog 51:=enters Tryz.func51 rfl q0
theorem aqE:Enters Tryz.prog 106:=enters Tryz.func106 rfl q0
theorem aqF:Enters Tryz.prog 107:=enters Tryz.func107 rfl q0
theorem aqG:Enters Tryz.prog 156:=enters Tryz.func156 rfl q0
theorem aqH:Enters Tryz.prog 157:=enters Tryz.func157 rfl q0
theorem aqI:Enters Tryz.prog 158:=enters Tryz.func158 rfl q0
end TKRises11
open TKRises11
set_option maxRecDepth 10000
theorem H3 {M:aJ} {w0:World} {v:Value} {l:List Int} (hM:Lt M w0) (hv:((RT.int .i64).sl).V M w0 l v) (hl:l.length<=1099511627776):
  Spec Tryz.prog 107 #[v] w0 (λv' w'=>v'= .bool (eT (-1) l)/\Step M w0 M w' aA):=by
 refine bF (args:=[_]) (fn:=Tryz.f107) Tryz.func107 G (n:=25) Tryz.ntmps107 (T.aQ (Rg.bA G G (T.aQ (ab G G (bK ah G hv G (sJ G G G (ab G G ?_)))))));refine aW (g:=6) G (λlA=>?_) (λlA=>?_)
 ·refine ao G G G G (ao G G G G (ao G G G G (ao G G G G (ao G G G G (cj G G G (cj G G G (ao G G G G (ao G G G G (cj G G G (cj G G G (cj G G G ?_)))))))))));refine cj G G G (cj G G G (cj G G G (cj G G G (ao G G G G (bm G G G (Rg.bA G G (aT ?_)))))))
  first
  |(obtain rfl:l=[]:=dL.1 k3
    exact aX G G ⟨G,bz⟩)
  |exact aX G G ⟨congrArg Value.bool (by
    rw[nI,jn k3,decide_eq_true_iff,jJ hx];exact⟨λh=>⟨Fl,xT,Uy.1 k3⟩,λh=>by have:=Uy.2 h.2.2;omega⟩),(s1.aw S3.back)⟩
  |exact aX G G ⟨congrArg Value.bool (dw (by
    rw[dO];intro h;exact xT ((jn k3).1 h).2.1)),s1⟩
  |exact aX G G ⟨congrArg Value.bool (dw (by
    rw[dO];intro h;have:=((jn k3).1 h).1;rw[jJ hx]at this;exact Fl this)),bz⟩
 ·refine ak G G (ab G G (ak G G ?_));obtain⟨x,hx⟩:∃x,(l)[0]? =some x:=⟨_,al k3⟩;refine bX ah I3 G G G (hv) bY a48 (λaB3 aqJ ahw awt=>?_);obtain rfl:x=aqJ:=dw (ar (ahw.symm.trans hx));refine ak G G ?_;refine bV (M:=M) aq G G W4 (by repeat (first|exact bH _ _|refine aZ (bI W4) ?_)) (λYD=>?_);refine bc (v':= .int .i64 (x)) G ?_;replace YD: -9223372036854775808<=(x:Int)/\x<=9223372036854775807:=YD;refine ak G G (eP G G G (ak G G (ab G G ?_)));refine aW (g:=11) G (λFl=>?_) (λFl=>?_)
  ·refine ak G G (ab G G (ak G G ?_));refine a8 G G aqH (C9 hv k3) (λr1 w1 h=>?_);obtain⟨rfl,s1⟩:=h;refine ak G G (bm G G G (ak G G (ab G G ?_)));refine aW (g:=15) G (λxT=>?_) (λxT=>?_)
   ·refine ak G G (ab G G (ak G G ?_));refine a8 G G VL (HU (s1.lt hM) (hv.le s1.le) hl) (λr2 w2 h=>?_);obtain⟨M2,wO,IK,s2⟩:=h;refine ak G G ?_;refine a8 G G aqI (Ff wO hl) (λr3 w3 h=>?_);obtain⟨ac,kc,cc,rfl,Uy,s3⟩:=h;have S3:=s2.cL s3 (λb hb=>(wO.base b hb).1);refine ak G G (Rg.rq ah G G (ak G G (ab G G (ak G G (bK ah G hv G (ak G G (sJ G G G (ak G G (bm G G G (aM G G G (aB G G ?_)))))))))));refine ad (aT ?_)
    first
    |(obtain rfl:l=[]:=dL.1 k3
      exact aX G G ⟨G,bz⟩)
    |exact aX G G ⟨congrArg Value.bool (by
      rw[nI,jn k3,decide_eq_true_iff,jJ hx];exact⟨λh=>⟨Fl,xT,Uy.1 k3⟩,λh=>by have:=Uy.2 h.2.2;omega⟩),(s1.aw S3.back)⟩
    |exact aX G G ⟨congrArg Value.bool (dw (by
      rw[dO];intro h;exact xT ((jn k3).1 h).2.1)),s1⟩
    |exact aX G G ⟨congrArg Value.bool (dw (by
      rw[dO];intro h;have:=((jn k3).1 h).1;rw[jJ hx]at this;exact Fl this)),bz⟩
   ·refine ao G G G G (ao G G G G (ao G G G G (ao G G G G (ao G G G G (ao G G G G (ao G G G G (ak G G (aM G G G (aM G G G (Rg.bA G G ?_))))))))));refine aT ?_
    first
    |(obtain rfl:l=[]:=dL.1 k3
      exact aX G G ⟨G,bz⟩)
    |exact aX G G ⟨congrArg Value.bool (by
      rw[nI,jn k3,decide_eq_true_iff,jJ hx];exact⟨λh=>⟨Fl,xT,Uy.1 k3⟩,λh=>by have:=Uy.2 h.2.2;omega⟩),(s1.aw S3.back)⟩
    |exact aX G G ⟨congrArg Value.bool (dw (by
      rw[dO];intro h;exact xT ((jn k3).1 h).2.1)),s1⟩
    |exact aX G G ⟨congrArg Value.bool (dw (by
      rw[dO];intro h;have:=((jn k3).1 h).1;rw[jJ hx]at this;exact Fl this)),bz⟩
  ·refine ao G G G G (ao G G G G (ak G G (aM G G G (ak G G (ab G G (ao G G G G (ao G G G G (ao G G G G (ao G G G G (ao G G G G (ao G G G G ?_)))))))))));refine ao G G G G (ak G G (aM G G G (aM G G G (Rg.bA G G (aT ?_)))))
   first
   |(obtain rfl:l=[]:=dL.1 k3
     exact aX G G ⟨G,bz⟩)
   |exact aX G G ⟨congrArg Value.bool (by
     rw[nI,jn k3,decide_eq_true_iff,jJ hx];exact⟨λh=>⟨Fl,xT,Uy.1 k3⟩,λh=>by have:=Uy.2 h.2.2;omega⟩),(s1.aw S3.back)⟩
   |exact aX G G ⟨congrArg Value.bool (dw (by
     rw[dO];intro h;exact xT ((jn k3).1 h).2.1)),s1⟩
   |exact aX G G ⟨congrArg Value.bool (dw (by
     rw[dO];intro h;have:=((jn k3).1 h).1;rw[jJ hx]at this;exact Fl this)),bz⟩
theorem H4 {M:aJ} {w0:World} {v:Value} {l:List Int} (hM:Lt M w0) (hv:((RT.int .i64).sl).V M w0 l v) (hl:l.length<=1099511627776):
  Spec Tryz.prog 106 #[v] w0 (λv' w'=>v'= .bool (decide (eT (-1) l=false))/\Step M w0 M w' aA):=by
 refine bF (args:=[_]) (fn:=Tryz.f106) Tryz.func106 G (n:=6) Tryz.ntmps106 (T.aQ (Rg.bA G G (T.aQ (ab G G ?_))));refine a8 G G aqF (H3 hM hv hl) (λr1 w1 h=>?_);obtain⟨rfl,s1⟩:=h;refine kU rfl rfl (bc (v':= .bool (decide (eT (-1) l=false))) (congrArg Value.bool (by cases eT (-1) l<;>rfl)) (Rg.bA rfl rfl (aT ?_)));exact aX G G ⟨G,s1⟩
theorem H5 {M:aJ} {w0:World} {v:Value} {ls:List (List Int)} (hM:Lt M w0) (hv:(((RT.int .i64).sl).sl).V M w0 ls v) (hl:∀l∈ls,l.length<=1099511627776):
  Spec Tryz.prog 156 #[v,.func (.func 106) #[] #[]] w0 (λv' w'=>(∃r:Int,v'= .int .i64 r/\(r>=0↔∃l∈ls,eT (-1) l=false))/\Step M w0 M w' aA):=by
 have hlen:=dZ hv;refine bF (args:=[_,_]) (fn:=Tryz.f156) Tryz.func156 G (n:=19) Tryz.ntmps156 (T.aQ (Rg.bA G G (aI (T.aQ (ab G G (bK cn G hv G (ab G G (ad ?_))))))));refine aS ?_;refine dg (σ:=Nat) (λs=>[(0,v),(1,.func (.func 106) #[] #[]),(7,.int .i64 ls.length),(8,.int .i64 s)]) (λs w=>s<=ls.length/\(∀t,t<s->∀l,ls[t]? =some l->eT (-1) l=true)/\Step M w0 M w aA) (λs=>ls.length-s) 0 Y7 ?_ ?_
 ·exact⟨bC _,λt h=>by omega,bz⟩
 ·rintro k w2 ⟨hk,kx,S⟩;refine T.aQ (ch G G G (ad (aI ?_)));refine bM G (λc2=>?_) (λc2=>?_)
  ·refine aR (aI (aS (T.aQ (ab G G (Rg.bA G G (T.aQ (ab G G (ab G G ?_))))))));refine ab G G ?_;obtain⟨l,hx⟩:∃x,(ls)[k]? =some x:=⟨_,al k3⟩;refine bX cn iJ G G G (hv.le S.le) bY a48 (λZJ abJ SJ ahg=>?_);obtain rfl:l=abJ:=dw (ar (SJ.symm.trans (by rw[an];exact hx)));refine bE (M:=M) ah G G G G G W4 (by repeat (first|exact bH _ _|refine aZ (bI W4) ?_)) (λaqK SR=>?_);replace SR:(((RT.int .i64).sl)).V M _ l aqK:=SR;refine CB (first:=[]) (captured:=[]) G G G aqE (H4 (S.lt hM) SR (hl _ (au hx))) (λr w1 h=>?_);obtain⟨rfl,s1⟩:=h;refine ad ?_;refine bM G (λc4=>?_) (λc4=>?_)
   ·refine T.aQ (ab G G (Rg.bA G G (aT ?_)));exact aX G G ⟨⟨k,G,⟨λ_=>⟨l,au hx,c4⟩,λ_=>by omega⟩⟩,S.aw s1⟩
   ·refine aR (aH (bG G G G k3 (ab G G (ad ?_))));refine⟨G,k+1,Y7,?_,?_⟩
    ·refine⟨by omega,λt ht l' hl'=>?_,S.aw s1⟩;rcases cQ t k with h|h
     ·exact kx t h l' hl'
     ·rw[show t=k from by omega,hx]at hl';cases hl';simpa using c4
    ·show _-(k+1)<_-k;omega
  ·refine cO (T.aQ (Rg.bA G G (aT ?_)));refine aX G G ⟨⟨-1,G,⟨λh=>by omega,fun⟨l,hm,hf⟩=>?_⟩⟩,S⟩;obtain⟨t,ht⟩:=bQ.1 hm;have:=kx t (by have:=(aj.1 ht).1;omega) l ht;rw[this]at hf;cases hf
theorem Cb {M:aJ} {w0:World} {v:Value} {ls:List (List Int)} (hM:Lt M w0) (hv:(((RT.int .i64).sl).sl).V M w0 ls v) (hl:∀l∈ls,l.length<=1099511627776):
  Spec Tryz.prog 105 #[v,.func (.func 106) #[] #[]] w0 (λv' w'=>v'= .bool (decide (¬Up ls))/\Step M w0 M w' aA):=by
 refine bF (args:=[_,_]) (fn:=Tryz.f105) Tryz.func105 G (n:=9) Tryz.ntmps105 (T.aQ (Rg.bA G G (T.aQ (ab G G (ab G G ?_)))));refine a8 G G aqG (H5 hM hv hl) (λr1 w1 h=>?_);obtain⟨⟨r0,rfl,hr⟩,s1⟩:=h;refine eP G G G (Rg.bA G G (aT ?_));refine aX G G ⟨congrArg Value.bool (decide_eq_decide.2 (hr.trans ?_)),s1⟩;unfold Up;constructor
 ·rintro⟨l,hm,hf⟩ h;rw[h l hm]at hf;cases hf
 ·intro h;refine Classical.byContradiction λhn=>h λl hm=> ?_
  cases lr:eT (-1) l with
  |true=>rfl
  |false=>exact absurd ⟨l,hm,lr⟩ hn
end Go.K
namespace Go.K
open Go.Proofs
namespace TKOrder11
theorem j6:TI Tryz.prog 124 (.agg #[(.int .i64 0),(.int .i64 0)]) 2 16:=by unfold TI;kernel_rfl
theorem ahx:TI Tryz.prog 178 (.pointer none) 1 8:=by unfold TI;kernel_rfl
theorem nS:TI Tryz.prog 183 (.agg #[(.int .i64 0),(.int .i64 0),(.int .i64 0)]) 3 24:=by unfold TI;kernel_rfl
theorem aqM:Enters Tryz.prog 105:=enters Tryz.func105 rfl q0
theorem ahy:Enters Tryz.prog 108:=enters Tryz.func108 rfl q0
theorem Wq:Enters Tryz.prog 110:=enters Tryz.func110 rfl q0
theorem aqN:Enters Tryz.prog 111:=enters Tryz.func111 rfl q0
end TKOrder11
open TKOrder11
set_option maxRecDepth 10000
theorem Cc {M:aJ} {w0:World} {v:Value} {ls:List (List Int)} (hM:Lt M w0) (hv:(((RT.int .i64).sl).sl).V M w0 ls v) (F3:ls.length<=1099511627776) (hl:∀l∈ls,l.length<=1099511627776) (VS:uT ls<=1099511627776):
  Spec Tryz.prog 59 #[v] w0 (λv' w'=>∃M',Lt M' w'∧Step M w0 M' w' aA/\∃vo:Value,∃e:Int,v'= .tuple #[vo,.int .i64 e]/\((¬Up ls/\e=1/\vo= .slice none 0 0)\/(Up ls/\∃r,ta ls r/\((r=none/\e=5/\vo= .slice none 0 0)\/∃out,r=some out/\e=0/\(du out).length<=1099511627776/\Own RT.fo 124 M' w' w0.heap.size vo (du out))))):=by
 have hlen:=dZ hv;refine bF (args:=[_]) (fn:=Tryz.f59) Tryz.func59 G (n:=55) Tryz.ntmps59 (T.aQ ?_);refine zO M G G (λbl wb zb zb' gb sb=>?_);have gb:wb.heap[bl]? =some (.cells #[v] 119 (0,0)):=by rw[gb];obtain⟨a,cap,rfl,_⟩:=jg.1 hv;rfl
 refine aB G G (Rg.bA G G (aI (T.aQ (aV cn G G G gb G ?_))));refine a8 G G aqM (Cb (M:=ins M bl) (sb.lt hM) (hv.le sb.le) hl) (λrc wc h=>?_);obtain⟨rfl,sc⟩:=h;have mn:=sc.aP gb;have Sc:=sb.aw sc;clear gb;refine ad ?_;refine bM G (λc1=>?_) (λc1=>?_)
 ·refine T.aQ (aB G G (Rg.bA G G (aT ?_)));exact fA G G G ⟨_,Sc.lt hM,Sc,_,1,G,.inl ⟨c1,G,G⟩⟩
 ·refine aR (T.aQ ?_);have oc:Up ls:=Classical.byContradiction c1;refine Rg.aeu cx nS (ins M bl) G (λg wg zg zg' gg sg=>?_);have Sg:=Sc.aw sg;have ahz:=sg.aP mn;clear mn;refine zO (ins (ins M bl) g) G G (λbh wh zh zh' gh sh=>?_);have gh:wh.heap[bh]? =some (.cells #[.slice (some ⟨g,0,none⟩) 0 0] 180 (0,0)):=gh;have Sh:=Sg.aw sh;have ahA:=sh.aP ahz;have ggh:=sh.aP gg;clear ahz gg;refine eA (ins (ins (ins M bl) g) bh) ahx G (λb4 w4 z4 z4' g4 s4=>?_);have S4:=Sh.aw s4;have OA:=s4.aP ahA;have gg4:=s4.aP ggh;have gh4:=s4.aP gh;clear ahA ggh gh;refine cF (M:=ins (ins (ins (ins M bl) g) bh) b4) (u:= .pointer none) ahx G G g4 G G (.inl G) (λw5 g5 s5=>?_);have uW:w5.heap[b4]? =some (.cells #[.pointer (some ⟨bh,0,none⟩)] 178 (0,0)):=g5;have hz:=Sc.size;have z2:=sg.size;have z3:=sh.size;have hz5:=ae OA;have mn:=s5.keep OA (λe=>by have e:bl=b4:=e;have:=ae OA;have:=Sh.size;rw[e]at OA;rw[g4]at OA;simp at OA);have gg5:=s5.keep gg4 (λe=>by have e:g=b4:=e;omega);have gh5:=s5.keep gh4 (λe=>by have e:bh=b4:=e;omega);have S5:=S4.cL s5 (λb hb=>by have hb:b=b4:=hb;omega);have hM5:=S5.lt hM;have hp5:uX 180 183 (ins (ins (ins (ins M bl) g) bh) b4) w5 bh w0.heap.size (.slice (some ⟨g,0,none⟩) 0 0) []:=⟨gh5,.inr (.inl rfl),Own.empty gg5 k3 (.inr (.inr (.inl rfl))),by simp,by decide⟩;refine ad (T.aQ (l2 (xs:=[]) (ys:=[.tmp 1,.tmp 4]) G G G (Rg.bA G G (aI (T.aQ (aV cn G G G mn G (bK cn G (hv.le S5.le) G (ab G G ?_))))))));refine ad (aS ?_);refine dg (σ:=Nat×List Hd) (λs=>[(1,.pointer (some ⟨bl,0,none⟩)),(2,.slice none 0 0),(3,.int .i64 0),(4,.pointer (some ⟨b4,0,none⟩)),(5,.func (.func 108) #[] #[.pointer (some ⟨bl,0,none⟩),.pointer (some ⟨b4,0,none⟩)]),(16,.int .i64 ls.length),(17,.int .i64 s.1)]) (λs w=>s.1<=ls.length/\qy ls (λ_=>0) s.1 s.2/\sV s.2/\(∃M1 v1,Lt M1 w/\uX 180 183 M1 w bh w0.heap.size v1 s.2/\Step M w0 M1 w aA/\w.heap[bl]? =some (.cells #[v] 119 (0,0))/\w.heap[b4]? =some (.cells #[.pointer (some ⟨bh,0,none⟩)] 178 (0,0)))) (λs=>ls.length-s.1) (0,[]) a89 ?_ ?_
  ·exact⟨bC _,qy.zero ls,λk h0 hk=>by simp at hk,_,_,hM5,hp5,S5,mn,uW⟩
  ·rintro⟨i,hs⟩ w1 ⟨hi,O6,hh,M1,v1,mV,h,S,mn,uW⟩;dsimp only at hi O6 hh h ⊢;clear hp5;refine T.aQ (ch G G G (ad (aI ?_)));refine bM G (λc6=>?_) (λc6=>?_)
   ·refine aR (aI (aS (T.aQ (ab G G (Rg.bA G G (aH (ab G G (ab G G ?_))))))));refine CB (first:=[]) (captured:=[.pointer (some ⟨bl,0,none⟩),.pointer (some ⟨b4,0,none⟩)]) G G G ahy (H2 (i:=i) (k:=0) mV mn uW (hv.le S.le) h hh k3 k3 (by have:=O6.len;omega)) (λrp w2 hq=>?_);obtain⟨M2,v2,IT,h2,hh2,Nq,IK,s2⟩:=hq;have mn:=s2.keep mn (NB.not ⟨_,_,mn⟩ q0 (λe=>by subst e;have:=mn.symm.trans h.h;simp at this));have uW:=s2.keep uW (NB.not ⟨_,_,uW⟩ q0 (λe=>by subst e;have:=uW.symm.trans h.h;simp at this));refine ad (aH (bG G G G k3 (ab G G (ad ?_))));refine⟨G,(i+1,IT),a89,?_,?_⟩
    ·exact⟨by simp only;omega,O6.fill k3 Nq,hh2,M2,v2,IK,h2,S.cL s2 (λb hb=>hb.2.elim (λe=>by have e:b=bh:=e;omega) (λh=>h.1)),mn,uW⟩
    ·show ls.length-(i+1)<ls.length-i;omega
   ·refine cO (T.aQ (Rg.bA G G (aI (T.aQ (Rg.bA G G (aS ?_))))));obtain rfl:i=ls.length:=by omega
    refine dg (σ:=(Nat->Nat)×List Hd×Int×Value×List Hd) (λs=>[(1,.pointer (some ⟨bl,0,none⟩)),(4,.pointer (some ⟨b4,0,none⟩)),(5,.func (.func 108) #[] #[.pointer (some ⟨bl,0,none⟩),.pointer (some ⟨b4,0,none⟩)]),(7,s.2.2.2.1),(8,.int .i64 s.2.2.1)]) (λs w=>yP ls s.1 s.2.1 s.2.2.1/\qy ls s.1 ls.length s.2.2.2.2/\sV s.2.2.2.2/\nj s.2.2.1/\(∃M1 v1,Lt M1 w/\uX 180 183 M1 w bh w0.heap.size v1 s.2.2.2.2/\Step M w0 M1 w aA/\w.heap[bl]? =some (.cells #[v] 119 (0,0))/\w.heap[b4]? =some (.cells #[.pointer (some ⟨bh,0,none⟩)] 178 (0,0))/\Own RT.fo 124 M1 w w0.heap.size s.2.2.2.1 (du s.2.1))) (λs=>rem ls s.1) (λ_=>0,[],-1,_,hs) a19 ?_ ?_
    ·exact⟨yP.zero ls oc,O6,hh,⟨by simp only;decide,by simp only;decide⟩,M1,v1,mV,h,S,mn,uW,dh _ _ _ _ _⟩
    ·clear h mn uW S mV;rintro⟨at_,out,last,vo,hs⟩ w1 ⟨H6,O6,hh,hlr,M1,v1,mV,h,S,mn,uW,ho⟩;dsimp only at H6 O6 hh hlr h ho ⊢;refine aI (T.aQ (aV dW G G G uW G (cu G ⟨_,G⟩ G (aV cx G G G h.h G ?_))));refine a8 G G Wq (yV h.o) (λrl wl h=>?_);obtain⟨rfl,rfl⟩:=h;refine iX G G G (ad ?_);refine bM G (λVa=>?_) (λVa=>?_)
     ·refine aR (aS (T.aQ (aV dW G G G uW G (Rg.Ap dW G G G ?_))));refine a8 G G aqN (SP mV h hh k3 (by have:=O6.len;omega)) (λrp w2 h=>?_);obtain⟨a,b,c,M2,v2,IT,rfl,⟨ra,rb,rc⟩,h2,hh2,Nq,C6,IK,s2⟩:=h;have mn:=s2.keep mn (NB.not ⟨_,_,mn⟩ q0 (λe=>by subst e;have:=mn.symm.trans h.h;simp at this));have uW:=s2.keep uW (NB.not ⟨_,_,uW⟩ q0 (λe=>by subst e;have:=uW.symm.trans h.h;simp at this));have S2:=S.cL s2 (λb hb=>hb.2.elim (λe=>by have e:b=bh:=e;omega) (λh=>h.1));have wO:=ho.step s2 (λk hk=>NB.not (ho.bt k hk) q0 (ho.apart h.h q0 k hk));obtain⟨i,n,hi,k4,zm⟩:=(O6.2 _).1 (Nq.mem_iff.1 (bZ ..));simp only[fc]at k4;obtain⟨rfl,rfl,rfl⟩:=k4;have RG:=zm.lt.2
      have eK:ud ls i<=1099511627776:=by
       obtain⟨l,Xi,_⟩:=zm;unfold ud;rw[ax,Xi];exact hl _ (au Xi)
      have YE:∀j m,Tr ls j (at_ j) m->a<=m:=λj m hj=>C6 _ ((O6.2 (m,(j:Int),((at_ j:Nat):Int))).2 ⟨j,m,hj.lt.1,rfl,hj⟩)
      have N7:RT.hd.V M2 w2 (a,(i:Int),((at_ i:Nat):Int)) _:=Sz ra rb rc;clear h s2;refine Rg.LB ez G G G ?_;refine vS (A:=RT.hd) (M:=M2) nS G G G G G N7 bY IK (λu3 w3 kA s3 z3=>?_);have mn:=s3.aP mn;have uW:=s3.aP uW;have h3:=h2.aE s3;have BH:=wO.aE s3;have S3:=S2.aw s3;have hM3:=s3.lt IK;have hz3:=S3.size;refine ad (aI (T.aQ ?_));refine aD (M:=M2) (A:=RT.hd) (B:=RT.int .i64) ez G G I3 q0 (Yl) G G q0 W4 (by repeat (first|exact bH _ _|refine aZ (bI W4) ?_)) (λagA RU=>?_);refine bV (M:=M2) aq G G W4 (by repeat (first|exact bH _ _|refine aZ (bI W4) ?_)) (λSU=>?_);refine bc (v':= .int .i64 (a)) G ?_;replace SU: -9223372036854775808<=(a:Int)/\a<=9223372036854775807:=SU;refine ab G G (sJ G G G (ad ?_));refine bM G (λJD=>?_) (λJD=>?_)
      ·refine T.aQ (aB G G (Rg.bA G G (aT ?_)));exact fA G G G ⟨_,hM3,S3,_,5,G,.inr ⟨oc,none,H6.Yk oc zm JD,.inl ⟨G,G,G⟩⟩⟩
      ·refine aR (T.aQ (ab G G ?_));refine aD (M:=M2) (A:=RT.hd) (B:=RT.int .i64) ez G G I3 q0 (hd1) G G q0 W4 (by repeat (first|exact bH _ _|refine aZ (bI W4) ?_)) (λawv aqO=>?_);refine bV (M:=M2) aq G G W4 (by repeat (first|exact bH _ _|refine aZ (bI W4) ?_)) (λSV=>?_);refine bc (v':= .int .i64 ((i:Int))) G ?_;replace SV: -9223372036854775808<=((i:Int):Int)/\(i:Int)<=9223372036854775807:=SV;refine aD (M:=M2) (A:=RT.hd) (B:=RT.int .i64) ez G G I3 q0 (hd2) G G q0 W4 (by repeat (first|exact bH _ _|refine aZ (bI W4) ?_)) (λaww aqP=>?_);refine bV (M:=M2) aq G G W4 (by repeat (first|exact bH _ _|refine aZ (bI W4) ?_)) (λSX=>?_);refine bc (v':= .int .i64 (((at_ i:Nat):Int))) G ?_;replace SX: -9223372036854775808<=(((at_ i:Nat):Int):Int)/\((at_ i:Nat):Int)<=9223372036854775807:=SX;refine Rg.PR cB j6 I3 G G G ?_;refine dP (A:=RT.fo) (hn:=by decide) (M:=M2) dz j6 q0 G G hM3 (aew rb rc) (.inl G) (λu6 w6 GA s6=>?_);have mn:=s6.aP mn;have uW:=s6.aP uW;have h6:=h3.aE s6;have S6:=S3.aw s6;have N6:=s6.lt hM3;have hz6:=S6.size;have hal:=H6.f;have Mi:(du out).length=out.length:=by unfold du;simp
       refine cN (M:=M2) (base:=w0.heap.size) dz j6 rfl rfl rfl rfl (BH.aE s6) GA bY (by rw[Mi];simp;omega) (by rw[Mi];simp;omega) k3 (λvo7 M7 w7 oK s7=>?_);have qt:∀k,vo.ownBlock=some k->k≠bl/\k≠b4/\k≠bh:=λk hk=>⟨λe=>(BH.aE s6).apart mn q0 k hk e,λe=>(BH.aE s6).apart uW q0 k hk e,λe=>(BH.aE s6).apart h6.h q0 k hk e⟩
       have mn:=s7.keep mn (λhk=>(qt _ hk).1 rfl);have uW:=s7.keep uW (λhk=>(qt _ hk).2.1 rfl);have h7:=h6.keep s7 (λhk=>(qt _ hk).2.2 rfl) (λk hk CK=>(BT.ne ((BH.aE s6).bt k CK) (h6.o.bt k hk) q0) rfl);have S7:=S6.cL s7 (λb hb=>(BH.base b hb).1);have hM7:=s7.lt N6;have hu7:=kA.le q0 (s6.le.trans s7.le);clear h2 h3 h6 wO BH;refine Rg.bA G G (T.aQ ?_);refine aD (M:=M7) (A:=RT.hd) (B:=RT.int .i64) ez G G I3 q0 (Yl) G G q0 W4 (by repeat (first|exact bH _ _|refine aZ (bI W4) ?_)) (λawx aqQ=>?_);refine bV (M:=M7) aq G G W4 (by repeat (first|exact bH _ _|refine aZ (bI W4) ?_)) (λSY=>?_);refine bc (v':= .int .i64 (a)) G ?_;replace SY: -9223372036854775808<=(a:Int)/\a<=9223372036854775807:=SY;refine Rg.bA G G (aH (ab G G ?_));refine aD (M:=M7) (A:=RT.hd) (B:=RT.int .i64) ez G G I3 q0 (hd1) G G q0 W4 (by repeat (first|exact bH _ _|refine aZ (bI W4) ?_)) (λawy aqR=>?_);refine bV (M:=M7) aq G G W4 (by repeat (first|exact bH _ _|refine aZ (bI W4) ?_)) (λS0=>?_);refine bc (v':= .int .i64 ((i:Int))) G ?_;replace S0: -9223372036854775808<=((i:Int):Int)/\(i:Int)<=9223372036854775807:=S0;refine aD (M:=M7) (A:=RT.hd) (B:=RT.int .i64) ez G G I3 q0 (hd2) G G q0 W4 (by repeat (first|exact bH _ _|refine aZ (bI W4) ?_)) (λawz aqS=>?_);refine bV (M:=M7) aq G G W4 (by repeat (first|exact bH _ _|refine aZ (bI W4) ?_)) (λTc=>?_);refine bc (v':= .int .i64 (((at_ i:Nat):Int))) G ?_
       replace Tc: -9223372036854775808<=(((at_ i:Nat):Int):Int)/\((at_ i:Nat):Int)<=9223372036854775807:=Tc;refine bG G G G k3 (bc (v':= .int .i64 ((at_ i+1:Nat):Int)) (congrArg _ k3) ?_);refine CB (first:=[]) (captured:=[.pointer (some ⟨bl,0,none⟩),.pointer (some ⟨b4,0,none⟩)]) G G G ahy (H2 (i:=i) (k:=at_ i+1) hM7 mn uW (hv.le S7.le) h7 hh2 hi k3 (by have h1:=Nq.length_eq;have h2:=O6.len;rw[dG]at h1;omega)) (λrp w8 hq=>?_);obtain⟨M8,v8,hs8,h8,hh8,hp8,hM8,s8⟩:=hq;have aCd:=mn;have mn:=s8.keep mn (NB.not ⟨_,_,mn⟩ q0 (λe=>by subst e;have:=mn.symm.trans h7.h;simp at this));have uW:=s8.keep uW (NB.not ⟨_,_,uW⟩ q0 (λe=>by subst e;have:=uW.symm.trans h7.h;simp at this));have ho8:=oK.step s8 (λk hk=>NB.not (oK.bt k hk) q0 (oK.apart h7.h q0 k hk));have S8:=S7.cL s8 (λb hb=>hb.2.elim (λe=>by have e:b=bh:=e;omega) (λh=>h.1));refine ad ?_;refine⟨G,(Cz at_ i,out++[(a,(i:Int),((at_ i:Nat):Int))],a,vo7,hs8),a19,?_,?_⟩
       ·refine ⟨H6.step oc zm YE JD,O6.next Nq hi hp8,hh8,ra,M8,v8,hM8,h8,S8,mn,uW,?_⟩;unfold du at ho8 ⊢;rw[cG];exact ho8
       ·show rem ls (Cz at_ i)<rem ls at_;have h1:=(H6.step oc zm YE JD).f;have h2:=H6.f;rw[aY,cb]at h1;omega
     ·refine cO (T.aQ (ab G G (aB G G (Rg.bA G G (aT ?_)))));have qU:hs=[]:=dL.1 k3;subst qU;exact fA G G G ⟨_,mV,S,_,0,G,.inr ⟨oc,some out,H6.fin (O6.apN),.inr ⟨out,G,G,(by have:=H6.f;unfold du;rw[ay];omega),ho⟩⟩⟩
theorem H7 {M:aJ} {w0:World} {v:Value} {ls:List (List Int)} (hM:Lt M w0) (hv:((RT.int .i64).sl.sl).V M w0 ls v) (F3:ls.length<=1099511627776) (hl:∀l∈ls,l.length<=1099511627776) (VS:uT ls<=1099511627776):
  Spec Tryz.prog 59 #[v] w0 (λv' w'=>(∃vo:Value,∃e:Int,v'= .tuple #[vo,.int .i64 e]/\((¬Up ls/\e=1/\vo= .slice none 0 0)\/(Up ls/\∃r,ta ls r/\((r=none/\e=5/\vo= .slice none 0 0)\/∃out,r=some out/\e=0/\((RT.fo).sl).V M w' (du out) vo))))/\Step M w0 M w' aA):=
 (Cc hM hv F3 hl VS).mono λ_ w' ⟨M',hM',S,vo,e,h0,h⟩=>⟨⟨vo,e,h0,h.imp id fun⟨hu,r,hr,h⟩=>⟨hu,r,hr,h.imp id fun⟨out,h1,h2,h3,ho⟩=>⟨out,h1,h2,gT hM S ho k3⟩⟩⟩,S.back⟩
end Go.K
namespace Go.K
open Go.Proofs
namespace TKSegG
theorem E33:Enters Tryz.prog 33:=enters Tryz.func33 rfl q0
theorem agO:Enters Tryz.prog 180:=enters Tryz.func180 rfl q0
end TKSegG
open TKSegG
set_option maxRecDepth 10000
theorem KI {M:aJ} {w0:World} {v u:Value} {a b:List Po} (hM:Lt M w0) (hv:((RT.po).sl).V M w0 a v) (hu:((RT.po).sl).V M w0 b u):
  Spec Tryz.prog 75 #[v,u] w0 (λv' w'=>v'= .bool (decide (a=b))/\Step M w0 M w' aA):=by
 have hla:=dZ hv;have OZ:=dZ hu;refine bF (args:=[_,_]) (fn:=Tryz.f75) Tryz.func75 G (n:=44) Tryz.ntmps75 (T.aQ (Rg.bA G G (aI (T.aQ (ab G G (bK bu G hv G (ab G G (bK bu G hu G ?_))))))));refine fH G G G (ad ?_);refine bM G (λc1=>?_) (λc1=>?_)
 ·refine T.aQ (Rg.bA G G (aT ?_));refine aX G G ⟨?_,bz⟩;rw[decide_eq_false];rintro rfl;exact c1 G
 ·obtain hlen:a.length=b.length:=by omega
  refine aR (aI (T.aQ (Rg.bA G G (aS ?_))));refine dg (σ:=Nat) (λs=>[(0,v),(1,u),(5,.int .i64 s)]) (λs w=>s<=a.length/\a.take s=b.take s/\Step M w0 M w aA) (λs=>a.length-s) 0 a06 ?_ ?_
  ·exact⟨bC _,by simp,bz⟩
  ·rintro k w1 ⟨hk,heq,S⟩;refine aI (T.aQ (ab G G (ab G G (bK bu G hv G (ch G G G (ad ?_))))));refine bM G (λc4=>?_) (λc4=>?_)
   ·refine aR (aI (aS (aI ?_)));obtain⟨⟨d,ps⟩,hx⟩:∃x,a[k]? =some x:=⟨_,al k3⟩;obtain⟨⟨e,qs⟩,hy⟩:∃y,b[k]? =some y:=⟨_,al k3⟩;have hMw:=S.lt hM;apply T.draw (M:=M) mixed [cM.eq _,cM.eq _,cM.ptr RT.po (d,ps),cM.ptr ((RT.int .i64).sl) ps,cM.V ((RT.int .i64).sl) ps,cM.eq _,cM.eq _,cM.ptr RT.po (e,qs),cM.ptr ((RT.int .i64).sl) qs,cM.V ((RT.int .i64).sl) qs,cM.eq (.bool (decide (ps=qs))),cM.eq _]
    ·rfl
    ·refine aF ?_ ?_
     ·intro wD E sD;refine ab G G ?_;exact a01
     refine aF ?_ ?_
     ·intro wD E sD;refine ab G G ?_;exact a01
     refine aF ?_ ?_
     ·intro wD E sD;refine aC (aC ?_);refine bX bu ng G G G (hv.le (S.aw sD).le) bY k3 (λui ai ke KH=>?_);obtain rfl:(d,ps)=ai:=dw (ar (ke.symm.trans a65));exact ag9
     refine aF ?_ ?_
     ·intro wD E sD;intro v2 yz;refine aD (A:=RT.po) (B:=((RT.int .i64).sl)) bW G G iJ q0 Xm G G q0 (show dv RT.po M wD v2 (d,ps)from yz) bY (λuf tT=>?_);exact a61
     refine aF ?_ ?_
     ·intro wD E sD;intro v3 yE;refine bE ah G G G G G (show dv ((RT.int .i64).sl) M wD v3 ps from yE) bY (λuf tT=>?_);exact a61
     refine aF ?_ ?_
     ·intro wD E sD;refine ab G G ?_;exact a01
     refine aF ?_ ?_
     ·intro wD E sD;refine ab G G ?_;exact a01
     refine aF ?_ ?_
     ·intro wD E sD;refine aC (aC ?_);refine bX bu ng G G G (hu.le (S.aw sD).le) bY k3 (λui ai ke KH=>?_);obtain rfl:(e,qs)=ai:=dw (ar (ke.symm.trans af4));exact ag9
     refine aF ?_ ?_
     ·intro wD E sD;intro v7 Cw;refine aD (A:=RT.po) (B:=((RT.int .i64).sl)) bW G G iJ q0 Xm G G q0 (show dv RT.po M wD v7 (e,qs)from Cw) bY (λuf tT=>?_);exact a61
     refine aF ?_ ?_
     ·intro wD E sD;intro v8 Hf;refine bE ah G G G G G (show dv ((RT.int .i64).sl) M wD v8 qs from Hf) bY (λuf tT=>?_);exact a61
     refine aF ?_ ?_
     ·intro wD E sD;intro v4 qm;intro v9 Au;refine a8 G G E33 (yM (M:=M) (sD.lt hMw) (show((RT.int .i64).sl).V M wD ps v4 from qm) (show((RT.int .i64).sl).V M wD qs v9 from Au)) (λr1 w1 h1=>?_);obtain⟨rfl,s1⟩:=h1;exact ad ⟨G,G,_,G,G,s1⟩
     refine aF ?_ ?_
     ·intro wD E sD;refine aC (aC (aC (aC ?_)));intro v2 yz;intro v3 yE;intro v4 qm;refine aC (aC ?_);intro v7 Cw;intro v8 Hf;intro v9 Au;refine aC (aB G G ?_);exact a01
     exact yh
    ·intro X5 o6;refine aC (aC ?_);intro aog agb;intro aCe awA;intro aCf awB;refine aC (aC ?_);intro aCg awC;intro aCh awD;intro aCi awE;refine aC (aC (aI ?_));by_cases H8:d≠e
     ·apply T.draw (M:=M) mixed [cM.eq _,cM.eq _,cM.ptr RT.po (d,ps),cM.ptr (RT.int .i64) d,cM.eq (.int .i64 d),cM.eq _,cM.eq _,cM.ptr RT.po (e,qs),cM.ptr (RT.int .i64) e,cM.eq (.int .i64 e),cM.eq _,cM.eq (.bool true),cM.eq undef,cM.eq undef,cM.eq _]
      ·rfl
      ·refine aF ?_ ?_
       ·intro wD E sD;refine ab G G ?_;exact a01
       refine aF ?_ ?_
       ·intro wD E sD;refine ab G G ?_;exact a01
       refine aF ?_ ?_
       ·intro wD E sD;refine aC (aC ?_);refine bX bu ng G G G (hv.le ((S.aw o6).aw sD).le) bY k3 (λui ai ke KH=>?_);obtain rfl:(d,ps)=ai:=dw (ar (ke.symm.trans a65));exact ag9
       refine aF ?_ ?_
       ·intro wD E sD;intro v2 yz;refine aD (A:=RT.po) (B:=RT.int .i64) bW G G I3 q0 Nv G G q0 (show dv RT.po M wD v2 (d,ps)from yz) bY (λuf tT=>?_);exact a61
       refine aF ?_ ?_
       ·intro wD E sD;intro v3 yE;refine bV (M:=M) aq G G W4 (by repeat (first|exact bH _ _|refine aZ (bI W4) ?_)) (λahD=>?_);exact a01
       refine aF ?_ ?_
       ·intro wD E sD;refine ab G G ?_;exact a01
       refine aF ?_ ?_
       ·intro wD E sD;refine ab G G ?_;exact a01
       refine aF ?_ ?_
       ·intro wD E sD;refine aC (aC ?_);refine bX bu ng G G G (hu.le ((S.aw o6).aw sD).le) bY k3 (λui ai ke KH=>?_);obtain rfl:(e,qs)=ai:=dw (ar (ke.symm.trans af4));exact ag9
       refine aF ?_ ?_
       ·intro wD E sD;intro v7 Cw;refine aD (A:=RT.po) (B:=RT.int .i64) bW G G I3 q0 Nv G G q0 (show dv RT.po M wD v7 (e,qs)from Cw) bY (λuf tT=>?_);exact a61
       refine aF ?_ ?_
       ·intro wD E sD;intro v8 Hf;refine bV (M:=M) aq G G W4 (by repeat (first|exact bH _ _|refine aZ (bI W4) ?_)) (λahE=>?_);exact a01
       refine aF ?_ ?_
       ·intro wD E sD;refine aC (aC (fH G G G ?_));exact a01
       refine aF ?_ ?_
       ·intro wD E sD;refine aC (ab G G ?_);refine ad ⟨G,G,_,G,?_,bz⟩;exact congrArg Value.bool (decide_eq_true H8)
       refine aF ?_ ?_
       ·intro wD E sD;refine aC ?_;exact a14
       refine aF ?_ ?_
       ·intro wD E sD;refine aC (aC ?_);exact a14
       refine aF ?_ ?_
       ·intro wD E sD;refine aC (aC (bm G G G ?_));exact a01
       exact yh
      ·intro wD7 sD7;refine aC (aC ?_);intro aqT ahF;intro agm RN;refine aC (aC (aC ?_));intro aqU ahG;intro aqV ahH;refine aC (aC (aC (aC (aC (aC (kT G (T.aQ (Rg.bA G G (aT ?_)))))))));refine aX G G ⟨?_,(S.aw o6).aw sD7⟩;rw[decide_eq_false];rintro rfl;rw[hx]at hy;cases hy;first|exact H8 rfl|exact c7 rfl
     ·apply T.draw (M:=M) mixed [cM.eq _,cM.eq _,cM.ptr RT.po (d,ps),cM.ptr (RT.int .i64) d,cM.eq (.int .i64 d),cM.eq _,cM.eq _,cM.ptr RT.po (e,qs),cM.ptr (RT.int .i64) e,cM.eq (.int .i64 e),cM.eq _,cM.eq (.bool false),cM.eq _,cM.eq (.bool (decide (¬ps=qs))),cM.eq _]
      ·rfl
      ·refine aF ?_ ?_
       ·intro wD E sD;refine ab G G ?_;exact a01
       refine aF ?_ ?_
       ·intro wD E sD;refine ab G G ?_;exact a01
       refine aF ?_ ?_
       ·intro wD E sD;refine aC (aC ?_);refine bX bu ng G G G (hv.le ((S.aw o6).aw sD).le) bY k3 (λui ai ke KH=>?_);obtain rfl:(d,ps)=ai:=dw (ar (ke.symm.trans a65));exact ag9
       refine aF ?_ ?_
       ·intro wD E sD;intro v2 yz;refine aD (A:=RT.po) (B:=RT.int .i64) bW G G I3 q0 Nv G G q0 (show dv RT.po M wD v2 (d,ps)from yz) bY (λuf tT=>?_);exact a61
       refine aF ?_ ?_
       ·intro wD E sD;intro v3 yE;refine bV (M:=M) aq G G W4 (by repeat (first|exact bH _ _|refine aZ (bI W4) ?_)) (λahD=>?_);exact a01
       refine aF ?_ ?_
       ·intro wD E sD;refine ab G G ?_;exact a01
       refine aF ?_ ?_
       ·intro wD E sD;refine ab G G ?_;exact a01
       refine aF ?_ ?_
       ·intro wD E sD;refine aC (aC ?_);refine bX bu ng G G G (hu.le ((S.aw o6).aw sD).le) bY k3 (λui ai ke KH=>?_);obtain rfl:(e,qs)=ai:=dw (ar (ke.symm.trans af4));exact ag9
       refine aF ?_ ?_
       ·intro wD E sD;intro v7 Cw;refine aD (A:=RT.po) (B:=RT.int .i64) bW G G I3 q0 Nv G G q0 (show dv RT.po M wD v7 (e,qs)from Cw) bY (λuf tT=>?_);exact a61
       refine aF ?_ ?_
       ·intro wD E sD;intro v8 Hf;refine bV (M:=M) aq G G W4 (by repeat (first|exact bH _ _|refine aZ (bI W4) ?_)) (λahE=>?_);exact a01
       refine aF ?_ ?_
       ·intro wD E sD;refine aC (aC (fH G G G ?_));exact a01
       refine aF ?_ ?_
       ·intro wD E sD;refine aC (ab G G ?_);refine ad ⟨G,G,_,G,?_,bz⟩;exact congrArg Value.bool (decide_eq_false H8)
       refine aF ?_ ?_
       ·intro wD E sD;refine aC (ak G G (ab G G ?_));exact a01
       refine aF ?_ ?_
       ·intro wD E sD;refine aC (aC (ak G G (kU G G (bc (v':= .bool (decide (¬ps=qs))) (by simp) ?_))));exact a01
       refine aF ?_ ?_
       ·intro wD E sD;refine aC (aC (aM G G G ?_));exact a01
       exact yh
      ·intro wD7 sD7;refine aC (aC ?_);intro aqT ahF;intro agm RN;refine aC (aC (aC ?_));intro aqU ahG;intro aqV ahH;refine aC (aC (aC (aC (aC (aC ?_)))));refine bM G (λc7=>?_) (λc7=>?_)
       ·refine T.aQ (Rg.bA G G (aT ?_));refine aX G G ⟨?_,(S.aw o6).aw sD7⟩;rw[decide_eq_false];rintro rfl;rw[hx]at hy;cases hy;first|exact H8 rfl|exact c7 rfl
       ·refine aR (aH (ab G G (bG G G G k3 (Rg.bA G G ?_))));refine⟨G,k+1,a06,?_,?_⟩
        ·refine⟨by omega,?_,(S.aw o6).aw sD7⟩;obtain⟨_,h1⟩:=aj.1 hx;obtain⟨_,h2⟩:=aj.1 hy;rw[eF k3,eF k3,heq,h1,h2,dj.1 H8,dj.1 c7]
        ·show a.length-(k+1)<a.length-k;omega
   ·refine cO (T.aQ (Rg.bA G G (aT ?_)));refine aX G G ⟨?_,S⟩;rw[decide_eq_true]
    rwa [aL k3,aL k3]at heq
theorem KJ {M:aJ} {w0:World} {v:Value} (hM:Lt M w0):
  Spec Tryz.prog 124 #[v] w0 (λv' w'=>∃bp,v'= .func (.func 179) [].toArray [.pointer (some ⟨bp,0,none⟩)].toArray/\w'.heap[bp]? =some (.cells v.cells 142 (0,0))/\w0.heap.size<=bp/\Step M w0 M w' aA):=by
 refine bF (args:=[_]) (fn:=Tryz.f124) Tryz.func124 G (n:=4) Tryz.ntmps124 (T.aQ ?_);refine zO M G G (λbp w1 h1 UR hS s1=>?_);refine Rg.bA G G (T.aQ (l2 (xs:=[]) (ys:=[.tmp 1]) G G G (Rg.bA G G (aT ?_))));exact aX G G ⟨bp,G,hS,h1,s1.back⟩
theorem H9 {w0:World} {bp yl:Nat} {v:Value} {l:List Po} {J:Nat->aJ->World->Prop} {M:aJ} {Jx:World->Prop} (L9:∀i M w,J i M w->w.heap[bp]? =some (.cells #[v] 142 (0,0))/\Lt M w/\dv RT.li M w v (pJ l)/\∀w',Step M w M w' aA->J i M w') (pg:ik (-1) l=true) (l4:∀p∈l,p.2.length<=1099511627776) (mn:(eY (-1) l).length<=1099511627776) (F3:l.length<=1099511627776) (hy:∀(i:Nat) (M:aJ) (w:World) (u:Value),J i M w->i<(l.length+7)/8->((RT.po).sl).V M w ((l.drop (8*i)).take 8) u->zn Tryz.prog yl [u].toArray w (λr w'=>∃b,r= .bool b/\(b=true->∃M',J (i+1) M' w')/\(b=false->Jx w'))) (h0:J 0 M w0):
  Spec Tryz.prog 179 #[.func (.yield yl) #[] #[],.pointer (some ⟨bp,0,none⟩)] w0 (λ_ w'=>(∃M',J ((l.length+7)/8) M' w')\/Jx w'):=by
 obtain⟨hb0,hM,hp,mi⟩:=L9 _ _ _ h0;have hnb:(pJ l).2.1.length=(l.length+7)/8:=by simp[pJ,uR]
 refine bF (args:=[_,_]) (fn:=Tryz.f179) Tryz.func179 G (n:=19) Tryz.ntmps179 (T.aQ (aV fY G G G hb0 G (cu G (dv.iZ hp) G ?_)));refine aD (M:=M) (A:=RT.li) (B:=(RT.bl).sl) fu G G Nz q0 (li1) G G q0 W4 (by repeat (first|exact bH _ _|refine aZ (bI W4) ?_)) (λaCj awF=>?_);refine bE (M:=M) j0 G G G G G W4 (by repeat (first|exact bH _ _|refine aZ (bI W4) ?_)) (λaCk awG=>?_);refine bK j0 G W4 G (bc (v':= .int .i64 (((l.length+7)/8:Nat):Int)) (by rw[hnb]) (ab G G (ad (aS ?_))));refine dg (σ:=Nat) (λs=>[(0,.func (.yield yl) #[] #[]),(1,.pointer (some ⟨bp,0,none⟩)),(8,.int .i64 (((l.length+7)/8:Nat):Int)),(9,.int .i64 s)]) (λs w=>(∃M1,J s M1 w)/\s<=(l.length+7)/8) (λs=>(l.length+7)/8-s) 0 Y7 ?_ ?_
 ·exact⟨⟨_,h0⟩,bC _⟩
 ·rintro k w1 ⟨⟨M1,hJ⟩,hk⟩;refine T.aQ (ch G G G (ad (aI ?_)));refine bM G (λc1=>?_) (λc1=>?_)
  ·refine aR (aI (aS (T.aQ (ab G G (Rg.bA G G (T.aQ (ab G G ?_)))))));obtain⟨Ey,mV,Uu,aqW⟩:=L9 _ _ _ hJ;refine aV fY G G G Ey G (ab G G ?_);refine a8 G G agO (J8 (M:=M1) (k:=k) mV Uu pg l4 mn) (λu w4 h4=>?_);obtain⟨s4,h4⟩:=h4;rw[if_pos (by unfold isB;simp;omega),an]at h4;refine Rg.yield G (vs:=[u]) G G (hy k M1 _ u (aqW _ s4) k3 h4) (λr4 w5 h5=>?_);obtain⟨b,rfl,Xr,tS⟩:=h5;refine kU G G (bc (v':= .bool (decide (¬b=true))) (by simp) (ad ?_));refine bM G (λc3=>?_) (λc3=>?_)
   ·refine aT ?_;exact FX G (.inr (tS (by simpa using c3)))
   ·refine aR (aH (bG G G G k3 (ab G G (ad ?_))));refine⟨G,k+1,Y7,?_,?_⟩
    ·exact⟨Xr (dj.1 c3),by omega⟩
    ·show _-(k+1)<_-k;omega
  ·refine cO ?_;rw[show k=(l.length+7)/8 from by omega]at hJ;change yj Tryz.prog Tryz.f179 (λ_ w'=>(∃M',J ((l.length+7)/8) M' w')\/Jx w') .normal _ [] _;exact iw G (.inl ⟨_,hJ⟩)
end Go.K
namespace Go.K
open Go.Proofs
namespace TKSegH
theorem wK:TI Tryz.prog 80 (.slice none 0 0) 1 24:=by unfold TI;kernel_rfl
theorem aqX:Enters Tryz.prog 124:=enters Tryz.func124 rfl q0
theorem aqY:Enters Tryz.prog 179:=enters Tryz.func179 rfl q0
end TKSegH
open TKSegH
set_option maxRecDepth 10000
structure vH (M:aJ) (w0:World) (v:Value) (bo D bp:Nat) (st:Obj) (vo:Value) (xs:List Po) (M1:aJ) (w:World):Prop where
 lt:Lt M1 w
 S:Step M w0 M1 w aA
 mo:M1 bo
 md:M1 D
 mr:M1 (D+1)
 o:w.heap[bo]? =some (.cells #[vo] 80 (0,0))
 d:w.heap[D]? =some (.deferred (some []))
 r:w.heap[D+1]? =some st
 p:w.heap[bp]? =some (.cells #[v] 142 (0,0))
 ne:bo<D/\bp<D/\bo≠bp/\w0.heap.size<=bo/\w0.heap.size<=D
 hk:Own RT.po 83 M1 w (D+2) vo xs
section
variable {M M1 M2:aJ} {w0 w w':World} {v vo:Value} {bo D bp:Nat} {st:Obj} {xs:List Po}
theorem vH.step (h:vH M w0 v bo D bp st vo xs M1 w) (s:Step M1 w M2 w' aA):vH M w0 v bo D bp st vo xs M2 w':=
 ⟨s.lt h.lt,h.S.aw s,(s.mem _ (h.lt _ h.mo)).2 h.mo,(s.mem _ (h.lt _ h.md)).2 h.md,(s.mem _ (h.lt _ h.mr)).2 h.mr,s.aP h.o,s.aP h.d,s.aP h.r,s.aP h.p,h.ne,h.hk.aE s⟩
theorem vH.oP {st':Obj} (h:vH M w0 v bo D bp st vo xs M1 w):vH M w0 v bo D bp st' vo xs M1 (w.putObj (D+1) st'):=by
 have s:Step M1 w M1 (w.putObj (D+1) st') (λk=>k=D+1):=eO h.mr;obtain⟨e1,e2,e3,e4,e5⟩:=h.ne;exact⟨s.lt h.lt,h.S.cL s (λk hk=>by subst hk;omega),h.mo,h.md,h.mr,s.keep h.o k3,s.keep h.d k3,zP (ae h.r),s.keep h.p k3,h.ne,h.hk.step s (λk xf hh=>by have:=(h.hk.base k xf).1;omega)⟩
theorem vH.grow {Ki:Value} {Sj:List Po} (h:vH M w0 v bo D bp st vo xs M1 w) (s:Step M1 w M2 w' (λk=>vo.ownBlock=some k)) (hk:Own RT.po 83 M2 w' (D+2) Ki Sj):
  (w'.heap[bo]? =some (.cells #[vo] 80 (0,0))/\M2 bo)/\∀{w2:World},Step M2 w' M2 w2 (λk=>k=bo)->w2.heap[bo]? =some (.cells #[Ki] 80 (0,0))->vH M w0 v bo D bp st Ki Sj M2 w2:=by
 obtain⟨e1,e2,e3,e4,e5⟩:=h.ne;have hn:∀k,vo.ownBlock=some k->D+2<=k:=λk hk=>(h.hk.base k hk).1
 have fO:=λ{k:Nat} (hm:M1 k)=>(s.mem k (h.lt k hm)).2 hm
 refine ⟨⟨s.keep h.o (λhh=>by have:=hn _ hh;omega),fO h.mo⟩,λ{w2} s2 hx=> ?_⟩;have S':=h.S.cL s (λk hk=>by have:=hn k hk;omega)
 exact⟨s2.lt (s.lt h.lt),S'.cL s2 (λk hk=>by subst hk;exact e4),fO h.mo,fO h.md,fO h.mr,hx,s2.keep (s.keep h.d (λhh=>by have:=hn _ hh;omega)) k3,s2.keep (s.keep h.r (λhh=>by have:=hn _ hh;omega)) k3,s2.keep (s.keep h.p (λhh=>by have:=hn _ hh;omega)) (Ne.symm e3),h.ne,
  hk.step s2 (λk xf hh=>by have:=(hk.base k xf).1;omega)⟩
end
def abQ (M:aJ) (w0:World) (l:List Po) (v:Value) (bo D bp:Nat) (st:Obj) (i:Nat) (M1:aJ) (w:World):Prop:=
 ∃(vo:Value),vH M w0 v bo D bp st vo (l.take (8*i)) M1 w
theorem ahI {M:aJ} {w0 w2 w3:World} {v:Value} {l:List Po} {bo bp:Nat} {st:Obj} (S2:Step M w0 (ins M bo) w2 aA) (s3:Step (ins M bo) w2 (ins M bo) w3 aA) (hM:Lt M w0) (e1:w0.heap.size<=bo) (e2:bo<w2.heap.size) (e3:w2.heap.size<=bp)
  (hO:w2.heap[bo]? =some (.cells #[.slice none 0 0] 80 (0,0))) (hP:w3.heap[bp]? =some (.cells #[v] 142 (0,0))):∃M1,abQ M w0 l v bo w3.heap.size bp st 0 M1 ((w3.alloc (.deferred (some []))).alloc st):=by
 have sA:Step (ins M bo) w3 (ins (ins M bo) w3.heap.size) (w3.alloc (.deferred (some []))) aA:=(dK _ w3 _).own (aN _) (by simp);have sB:Step (ins (ins M bo) w3.heap.size) (w3.alloc (.deferred (some []))) (ins (ins (ins M bo) w3.heap.size) (w3.heap.size+1)) ((w3.alloc (.deferred (some []))).alloc st) aA:=(dK _ _ _).own (by simp) (by simp);have z3:=s3.size;have hp3:=ae hP;have S:=((S2.aw s3).aw sA).aw sB;have hD:(w3.alloc (.deferred (some []))).heap[w3.heap.size]? =some (.deferred (some [])):=de w3 _;have hR:((w3.alloc (.deferred (some []))).alloc st).heap[w3.heap.size+1]? =some st:=by have:=de (w3.alloc (.deferred (some []))) st;rwa [CD]at this
 have z0:=S2.size;exact⟨_,.slice none 0 0,⟨S.lt hM,S,.inr (.inr (.inl rfl)),.inr (.inl rfl),.inl rfl,sB.aP (sA.aP (s3.aP hO)),sB.aP hD,hR,sB.aP (sA.aP hP),by omega,by rw[Nat.mul_zero,vQ];exact dh _ _ _ _ _⟩⟩
set_option maxHeartbeats 2000000 in
theorem Ia {M:aJ} {w0:World} {v:Value} {l:List Po} (hM:Lt M w0) (hv:dv RT.li M w0 v (pJ l)) (pg:ik (-1) l=true) (l4:∀p∈l,p.2.length<=1099511627776) (mn:(eY (-1) l).length<=1099511627776) (F3:l.length<=1099511627776):
  Spec Tryz.prog 78 #[v] w0 (λv' w'=>((RT.po).sl).V M w' l v'∧Step M w0 M w' aA):=by
 refine qf (args:=[_]) (fn:=Tryz.f78) Tryz.func78 G (n:=12) Tryz.ntmps78 (T.aQ (Rg.bA G G (T.aQ ?_)));refine eA M wK G (λbo w2 Kb agw hO s2=>?_);refine ad (aI (T.aQ (ab G G ?_)));refine a8 G G aqX (KJ (M:=ins M bo) (s2.lt hM)) (λr w3 h3=>?_);obtain⟨bp,rfl,hP,hbp,s3⟩:=h3;rw[show v.cells= #[v]from by obtain⟨q,rfl⟩:=dv.iZ hv;rfl]at hP;refine ad (aS ?_);refine T.range (gf:=179) (lb:=[.pointer (some ⟨bp,0,none⟩)].toArray) G aqY (λrec pI=>?_);obtain⟨D,hD⟩:∃D,D=w3.heap.size:=⟨_,rfl⟩;rw[<-hD]at pI ⊢
 obtain⟨Ms,h0⟩:∃Ms,abQ M w0 l v bo D bp (.loop (rec .ready none)) 0 Ms ((w3.alloc (.deferred (some []))).alloc (.loop (rec .ready none))):=by
  rw[hD]at pI ⊢;exact ahI s2 s3 hM Kb agw hbp hO hP
 refine Spec.mono (H9 (J:=abQ M w0 l v bo D bp (.loop (rec .ready none))) (Jx:=λ_=>False) (λi M1 w ⟨vo,h⟩=>⟨h.p,h.lt,hv.le q0 h.S.le,λw' s=>⟨vo,h.step s⟩⟩) pg l4 mn F3 (λi M1 wr u hJ hi hu=>?_) h0) (λ_ w4 h4=>?_)
 ·obtain⟨vo,h⟩:=hJ;refine nW (ps:=[7]) (vs:=[u]) pI h.r G q0 (aH (Rg.bA G G (⟨G,h.r,?_⟩)));have sR:Step M1 wr M1 (wr.putObj (D+1) (.loop (rec .busy none))) (λk=>k=D+1):=eO h.mr;have o5:=hu.le sR.le;have h1:=h.oP (st':= .loop (rec .busy none));generalize wr.putObj (D+1) _=wB at h1 o5 ⊢;refine aS (aH (aV bu G G G h1.o G (ab G G ?_)));refine cN (M:=M1) (base:=D+2) bu ng rfl rfl rfl rfl h1.hk o5 bY a03 a03 (by have:=ae h1.r;omega) (λv3 M3 w4 BH s4=>?_);obtain⟨⟨N7,hm3⟩,IX⟩:=h1.grow s4 BH;refine cF (M:=M3) wK rfl rfl N7 rfl (by obtain⟨_,_,he,_⟩:=BH.isSlice;rw[he];rfl) hm3 (λw5 hX5 s5=>?_);have h5:=(IX s5 hX5).oP (st':= .loop (rec .ready none));have h6:=IX s5 hX5;refine ad ?_;refine⟨h6.r,true,rfl,λ_=>⟨M3,v3,?_⟩,λh=>by cases h⟩;rw[show 8*(i+1)=8*i+8 from by omega,List.take_add];exact h5
 ·obtain⟨Mz,vo,h⟩:=h4.resolve_right (λh=>h);left;rw[aL k3]at h;have h5:=h.oP (st':= .loop (rec .exhausted none));refine ⟨h.r,?_⟩;generalize w4.putObj (D+1) _=wE at h5 ⊢;refine T.aQ (aV bu G G G h5.o G (Rg.bA G G (aT ?_)));obtain⟨q1,q2,q3,q4,q5⟩:=h5.ne;have sZ:Step Mz wE Mz (wE.putObj D (.deferred none)) (λk=>k=D):=eO h5.md;have SZ:=h5.S.cL sZ (λk hk=>by subst hk;omega);exact Er G G h5.d ⟨gT hM SZ ((h5.hk.step sZ (λk hk hh=>by have:=(h5.hk.base k hk).1;omega)).kj k3) k3,SZ.back⟩
end Go.K
namespace Go.K
open Go.Proofs
set_option maxRecDepth 10000
theorem KK {M:aJ} {a b:List (List UInt8)} {v u:Value} (w0:World) (hM:Lt M w0) (hv:((RT.str).sl).V M w0 a v) (hu:((RT.str).sl).V M w0 b u):
  Spec Tryz.prog 74 #[v,u] w0 (λv' w'=>v'= .bool (decide (a=b))/\Step M w0 M w' aA):=by
 have ir:=hM;have hla:=dZ hv;have OZ:=dZ hu;refine bF (args:=[_,_]) (fn:=Tryz.f74) Tryz.func74 G (n:=26) Tryz.ntmps74 ?_;have S:Step M w0 M w0 aA:=bz;refine T.aQ (Rg.bA G G (aI (T.aQ (ab G G (bK az G hv G (ab G G (bK az G hu G (fH G G G ?_))))))));refine ad ?_;refine bM G (λc1=>?_) (λc1=>?_)
 ·refine T.aQ (Rg.bA G G (aT ?_));exact aX rfl rfl ⟨congrArg Value.bool (decide_eq_false (λe=>by subst e;exact c1 G)).symm,S⟩
 ·have hlen:a.length=b.length:=by omega
  refine aR (aI (T.aQ (Rg.bA G G (aS ?_))));refine dg (σ:=Nat) (λk=>[(0,v),(1,u),(5,.int .i64 (k:Int))]) (λk w=>Step M w0 M w aA/\((RT.str).sl).V M w a v/\((RT.str).sl).V M w b u/\k<=a.length/\a.take k=b.take k) (λk=>a.length-k) 0 a06 ?_ ?_
  ·exact⟨S,hv,hu,bC _,G⟩
  ·clear S hv hu hM;rintro k w ⟨S,hv,hu,hk,heq⟩;have hM:=S.lt ir;refine aI (T.aQ (ab G G (ab G G (bK az G hv G (ch G G G (ad ?_))))));refine bM G (λc4=>?_) (λc4=>?_)
   ·refine aR (aI (aS (aI ?_)));apply jU mixed rfl rfl;intro X5 V9;have o6:=V9 M;replace hv:=hv.le o6.le;replace hu:=hu.le o6.le;replace hM:=o6.lt hM;have:=S.size;replace S:=S.aw o6;refine ab G G (Rg.bL (ab G G (Rg.bL ?_)));obtain⟨x,LL⟩:∃x,a[k]? =some x:=⟨_,al k3⟩;obtain⟨y,GC⟩:∃y,b[k]? =some y:=⟨_,al k3⟩;refine bX az I9 G G G hv bY k3 (λu62 x_ eo aby=>?_);rw[an]at eo;obtain rfl:=ar (LL.symm.trans eo);refine Rg.bL ?_;refine bE aG G G G G G aby bY (λv63 abz=>?_);obtain rfl:=fp abz;refine Rg.bL (ab G G (Rg.bL (ab G G (Rg.bL ?_))));refine bX az I9 G G G hu bY k3 (λu66 x_ eo aqZ=>?_);rw[an]at eo;obtain rfl:=ar (GC.symm.trans eo);refine Rg.bL ?_;refine bE aG G G G G G aqZ bY (λv67 aq0=>?_);obtain rfl:=fp aq0;refine Rg.bL (Rg.W6 G G G (Rg.bL (dD ?_)));refine bM G (λc6=>?_) (λc6=>?_)
    ·refine T.aQ (Rg.bA G G (aT ?_));exact aX rfl rfl ⟨congrArg Value.bool (decide_eq_false (λe=>by subst e;rw[LL]at GC;cases GC;exact c6 G)).symm,S⟩
    ·refine aR (aH (ab G G (bG G G G k3 (Rg.bA G G ?_))));refine⟨G,k+1,a06,?_,?_⟩
     ·exact⟨S,hv,hu,by omega,by rw[bB,bB,heq,LL,GC,dj.1 c6]⟩
     ·omega
   ·refine cO (T.aQ (Rg.bA G G (aT ?_)));rw[aL k3,aL k3]at heq;exact aX G G ⟨congrArg Value.bool (decide_eq_true heq).symm,S⟩
namespace TKSegJ
theorem wK:TI Tryz.prog 80 (.slice none 0 0) 1 24:=by unfold TI;kernel_rfl
end TKSegJ
open TKSegJ
set_option maxRecDepth 10000
end Go.K
namespace Go.K
section
variable {P:Program} {r:Option Nat} {n:Nat} {L:Sl} {ds:List Deferred} {w:World} {K:Kt} {ops:Array Oper} {rest:List Oper} {d:Nat} {x y:Operand} {ty:TypeId} {pos:String} {af:Array Edge}
theorem OB {t:TypeId} {f' g':Field} (hu:P.underlying t=some (.struct #[f',g'])) (hpu:P.stoodInHeld t=false) (hm:f'.name≠ "_") (yd:g'.name≠ "_")
  (o3:f'.offset=0) (o4:g'.offset=1) (s1:P.underlying f'.type=some .string) (s2:P.underlying g'.type=some .string) (a b a' b':List UInt8):
  (Op.equalIn 10000 t (.agg #[.string ⟨a.toArray⟩,.string ⟨b.toArray⟩]) (.agg #[.string ⟨a'.toArray⟩,.string ⟨b'.toArray⟩])).run P w= .ok (decide ((a,b)=(a',b'))) w:=by
 have h1:(Op.equalIn (9999+1) t (.agg #[.string ⟨a.toArray⟩,.string ⟨b.toArray⟩]) (.agg #[.string ⟨a'.toArray⟩,.string ⟨b'.toArray⟩])).run P w= .ok (decide (a=a')&&decide (b=b')) w:=
  HH (k:=9998+1) (a:= .string ⟨a.toArray⟩) (b:= .string ⟨a'.toArray⟩) (a':= .string ⟨b.toArray⟩) (b':= .string ⟨b'.toArray⟩) hu hpu hm yd (nQ s1 (by rw[o3];rfl)) (nQ s1 (by rw[o3];rfl)) (nQ s2 (by rw[o4];rfl)) (nQ s2 (by rw[o4];rfl))
   (by rw[run_equalIn_string w 9998 _ _ _ s1,Ml]) (by rw[run_equalIn_string w 9998 _ _ _ s2,Ml])
 rw[show(10000:Nat)=9999+1 from rfl,h1];congr 1;by_cases e1:a=a'<;>by_cases e2:b=b'<;>simp[e1,e2]
theorem Rg.aq2 {t t':TypeId} {f' g':Field} {p q:List UInt8×List UInt8} (hu:P.underlying t=some (.struct #[f',g'])) (hpu:P.stoodInHeld t=false) (hq:P.eqGuardType P.depth t=false) (hm:f'.name≠ "_") (yd:g'.name≠ "_")
  (o3:f'.offset=0) (o4:g'.offset=1) (s1:P.underlying f'.type=some .string) (s2:P.underlying g'.type=some .string)
  (hx:ev L x=some (.agg #[.string ⟨p.1.toArray⟩,.string ⟨p.2.toArray⟩])) (hy:ev L y=some (.agg #[.string ⟨q.1.toArray⟩,.string ⟨q.2.toArray⟩])) (hd:Nat.blt d n=true)
  (k:Rg P r n ops rest ((d,.bool (decide (p=q)))::L) ds w K):
  Rg P r n ops ({dst:=some d,op:= .binOp .eql t x y t',type:=ty,pos,after:=af,guard:=none}::rest) L ds w K:=
 .op a04 rfl rfl hd _ w (λρ h=>by
  have he:(Op.equalIn 10000 t (.agg #[.string ⟨p.1.toArray⟩,.string ⟨p.2.toArray⟩]) (.agg #[.string ⟨q.1.toArray⟩,.string ⟨q.2.toArray⟩])).run P w= .ok (decide (p=q)) w:=OB (P:=P) (w:=w) hu hpu hm yd o3 o4 s1 s2 p.1 p.2 q.1 q.2;simp only[execOp];rw[h x _ hx,h y _ hy];rw[cA,cA,run_eqGuard_agg (P:=P) w .eql t x y _ _ hq];simp only[run_eql_struct,he,dd,cA,zN]) k
variable {N:aJ} {wd:World} {dst:Option Nat} {gd:Option (Nat×Bool)}
theorem bO.YF {t:TypeId} (hx:ev L x=some undef):bO P N wd L {dst,op:= .load t x,type:=ty,pos,after:=af,guard:=gd}:= .free λρ hρ=>by
 simp only[execOp,hρ x _ hx,undef];exact .halt λP w a w' h=>by simp[Instr.loadAt,Instr.sureAddr,cA,stuck,Sem.run,Result.andThen]at h
theorem bO.ahJ {t t':TypeId} (hx:ev L x=some undef):bO P N wd L {dst,op:= .binOp .sub t x y t',type:=ty,pos,after:=af,guard:=gd}:= .free λρ hρ=>by
 simp only[execOp,hρ x _ hx,undef];refine Loc.val (Loc.bind (.pure _) λ_=>?_)
 cases ρ y<;>exact .stuck _
end
end Go.K

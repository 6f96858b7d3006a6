/- What the law 'MergeBuilds' needs of walks and plain Lean, part 5: nothing is assumed beyond the texts that it imports. -/
import Derived.Ground.Names8Prog
import Derived.Ground.SlgnProg
import Derived.Ground.SlsfProg
import Derived.KernelRfl
import Derived.Lib.RowBridge
import Derived.Lib.SlicesCompact
import Derived.Shelf.Lays8
import Derived.Shelf.SlGeneric
import Derived.Shelf.SlLaysN
import Derived.Shelf.SlSortCmp.NoneTotal
import Derived.Shelf.SlicesG.CompactS
import Derived.Shelf.SortM.Plain
import Derived.Shelf.SortM.SortNone
import Derived.Shelf.Spec.SlicesGrow
import Derived.Test.YtbobcaffmbaadaaGreatDoorProg
import Derived.Test.YtbobcaffmbaadaaGreatDoorZMergeBuilds1
import Derived.Test.YtbobcaffmbaadaaGreatDoorZMergeBuilds2
import Derived.Test.YtbobcaffmbaadaaGreatDoorZMergeBuilds3
import Derived.Test.YtbobcaffmbaadaaGreatDoorZMergeBuilds4
set_option linter.unusedVariables false
set_option linter.unusedSimpArgs false
namespace Go.K
abbrev Hd:=Int×Int×Int
def hn (xs:List Hd) (i:Nat):Int:=(xs.getD i (0,0,0)).1
def swp (xs:List Hd) (i j:Nat):List Hd:=(xs.set i (xs.getD j (0,0,0))).set j (xs.getD i (0,0,0))
def qo (xs:List Hd):Prop:=∀k,0<k→k<xs.length→hn xs ((k-1)/2)≤hn xs k
theorem l9 (xs:List Hd) (i j:Nat):(swp xs i j).length=xs.length:=by unfold swp;simp
theorem qW {xs:List Hd} {i j:Nat} (hi:i<xs.length) (hj:j<xs.length) (k:Nat):(swp xs i j).getD k (0,0,0)=if k=j then xs.getD i (0,0,0)else if k=i then xs.getD j (0,0,0)else xs.getD k (0,0,0):=by
 unfold swp;simp only[aA,dp,eY];by_cases h1:j=k
 ·subst h1;rw[if_pos rfl,if_pos hj,if_pos rfl];rfl
 ·rw[if_neg h1,if_neg (show¬k=j from fun h=>h1 h.symm)];by_cases h2:i=k
  ·subst h2;rw[if_pos rfl,if_pos rfl,if_pos hi];rfl
  ·rw[if_neg h2,if_neg (show¬k=i from fun h=>h2 h.symm)]
theorem HR {xs:List Hd} {i j:Nat} (hi:i<xs.length) (hj:j<xs.length) (k:Nat):hn (swp xs i j) k=if k=j then hn xs i else if k=i then hn xs j else hn xs k:=by
 unfold hn;rw[qW hi hj];split
 ·rfl
 ·split<;>rfl
theorem qX {xs:List Hd} {i j:Nat} (hi:i<xs.length) (hj:j<xs.length):(swp xs i j).Perm xs:=by
 have:=List.set_set_perm hi hj;unfold swp;rw[aA,aA,ar hi,ar hj];exact this
structure PW (xs:List Hd) (j:Nat):Prop where
 a:∀k,0<k→k<xs.length→k≠j→hn xs ((k-1)/2)≤hn xs k
 b:0<j→∀k,0<k→k<xs.length→(k-1)/2=j→hn xs ((j-1)/2)≤hn xs k
theorem PW.done {xs:List Hd} {j:Nat} (h:PW xs j) (hd:j=0∨hn xs ((j-1)/2)≤hn xs j):qo xs:=fun k h0 hk=>by
 by_cases e:k=j
 ·subst e;rcases hd with hd|hd
  ·omega
  ·exact hd
 ·exact h.a k h0 hk e
theorem PW.push {xs:List Hd} (h:qo xs) (x:Hd):PW (xs++[x]) xs.length:=by
 have key:∀k,k<xs.length→hn (xs++[x]) k=hn xs k:=fun k hk=>by
  unfold hn;rw[aA,aA,fF hk]
 refine⟨fun k h0 hk eN=>?_,fun h0 k Gj hk he=>?_⟩
 ·rw[a8,cK]at hk;rw[key k (by omega),key _ (by omega)];exact h k h0 (by omega)
 ·rw[a8,cK]at hk;omega
theorem PW.swap {xs:List Hd} {j:Nat} (h:PW xs j) (hj:j<xs.length) (h0:0<j) (hl:hn xs j<hn xs ((j-1)/2)):PW (swp xs ((j-1)/2) j) ((j-1)/2):=by
 obtain⟨i,hi⟩:∃i,i=(j-1)/2:=⟨_,rfl⟩;rw[←hi]at hl ⊢;have jq:i<j:=by omega
 have hs:=fun k=>HR (xs:=xs) (i:=i) (j:=j) (by omega) hj k
 refine⟨fun k Gj hk eN=>?_,fun hi0 k Gj hk he=>?_⟩
 ·rw[l9]at hk;rw[hs,hs];by_cases e1:k=j
  ·subst e1;rw[if_pos rfl,←hi,if_neg (by omega),if_pos rfl];omega
  ·rw[if_neg e1,if_neg eN];by_cases e2:(k-1)/2=j
   ·rw[if_pos e2];have:=h.b h0 k Gj hk e2;rw[←hi]at this;exact this
   ·rw[if_neg e2];have h1:=h.a k Gj hk e1;by_cases e3:(k-1)/2=i
    ·rw[if_pos e3];rw[e3]at h1;omega
    ·rw[if_neg e3];exact h1
 ·rw[l9]at hk;rw[hs,hs,if_neg (by omega),if_neg (by omega)];have h2:=h.a i hi0 (by omega) (by omega);by_cases e1:k=j
  ·rw[if_pos e1];exact h2
  ·rw[if_neg e1,if_neg (by omega)];have h1:=h.a k Gj hk e1;rw[he]at h1;omega
structure La (xs:List Hd) (n i:Nat):Prop where
 a:∀k,0<k→k<n→(k-1)/2≠i→hn xs ((k-1)/2)≤hn xs k
 b:0<i→∀k,0<k→k<n→(k-1)/2=i→hn xs ((i-1)/2)≤hn xs k
theorem La.leaf {xs:List Hd} {n i:Nat} (h:La xs n i) (hl:n≤2*i+1):∀k,0<k→k<n→hn xs ((k-1)/2)≤hn xs k:=fun k h0 hk=>h.a k h0 hk (by omega)
theorem La.stay {xs:List Hd} {n i j:Nat} (h:La xs n i) (hj:j=2*i+1∨j=2*i+2) (hm:∀k,(k=2*i+1∨k=2*i+2)→k<n→hn xs j≤hn xs k) (hs:hn xs i≤hn xs j):∀k,0<k→k<n→hn xs ((k-1)/2)≤hn xs k:=fun k h0 hk=>by
 by_cases e:(k-1)/2=i
 ·rw[e];have:=hm k (by omega) hk;omega
 ·exact h.a k h0 hk e
theorem La.swap {xs:List Hd} {n i j:Nat} (h:La xs n i) (J5:n≤xs.length) (KZ:j<n) (hj:j=2*i+1∨j=2*i+2) (hm:∀k,(k=2*i+1∨k=2*i+2)→k<n→hn xs j≤hn xs k) (hl:hn xs j<hn xs i):La (swp xs i j) n j:=by
 have hs:=fun k=>HR (xs:=xs) (i:=i) (j:=j) (by omega) (by omega) k
 refine⟨fun k Gj hk eN=>?_,fun _ k Gj hk he=>?_⟩
 ·rw[hs,hs,if_neg eN];by_cases e1:(k-1)/2=i
  ·rw[if_pos e1];by_cases e2:k=j
   ·rw[if_pos e2];omega
   ·rw[if_neg e2,if_neg (by omega)];exact hm k (by omega) hk
  ·rw[if_neg e1,if_neg (by omega)];by_cases e2:k=i
   ·rw[if_pos e2,e2];rw[e2]at Gj;exact h.b Gj j (by omega) KZ (by omega)
   ·rw[if_neg e2];exact h.a k Gj hk e1
 ·rw[hs,hs,if_neg (by omega),if_pos (by omega),if_neg (by omega),if_neg (by omega)];have h1:=h.a k Gj hk (by omega);rw[he]at h1;exact h1
theorem La.pop {xs:List Hd} (h:qo xs) (hl:0<xs.length):La (swp xs 0 (xs.length-1)) (xs.length-1) 0:=by
 have hs:=fun k=>HR (xs:=xs) (i:=0) (j:=xs.length-1) hl (by omega) k
 refine⟨fun k Gj hk eN=>?_,fun h0=>by omega⟩;rw[hs,hs,if_neg (by omega),if_neg (by omega),if_neg (by omega),if_neg (by omega)];exact h k Gj (by omega)
theorem qo.min {xs:List Hd} (h:qo xs):∀k,k<xs.length→hn xs 0≤hn xs k
 |0,_=>Int.le_refl _
 |k+1,hk=>Int.le_trans (qo.min h (k/2) (by omega)) (by have:=h (k+1) (by omega) hk;rwa [Nat.add_sub_cancel]at this)
termination_by k _=>k
theorem qo.take {xs:List Hd} {n:Nat} (J5:n≤xs.length) (h:∀k,0<k→k<n→hn xs ((k-1)/2)≤hn xs k):qo (xs.take n):=fun k h0 hk=>by
 rw[br]at hk
 have key:∀t,t<n→hn (xs.take n) t=hn xs t:=fun t ht=>by
  unfold hn;rw[aA,aA,ck,if_pos ht]
 rw[key _ (by omega),key _ (by omega)];exact h k h0 (by omega)
theorem WX {xs:List Hd} {x:Hd} (hx:x∈xs):∃k,k<xs.length∧xs.getD k (0,0,0)=x∧hn xs k=x.1:=by
 obtain⟨k,hk⟩:=bz.1 hx;have h1:=(an.1 hk).1;refine⟨k,h1,?_,?_⟩
 ·rw[aA,hk];rfl
 ·unfold hn;rw[aA,hk];rfl
theorem Rx {xs ys:List Hd} (hl:0<xs.length) (hp:ys.Perm xs) (ju:ys.getD (xs.length-1) (0,0,0)=xs.getD 0 (0,0,0)):∃x,ys.getD (xs.length-1) (0,0,0)=x∧(x::ys.take (xs.length-1)).Perm xs:=by
 refine⟨_,rfl,?_⟩;have GG:=hp.length_eq
 have h1:ys=ys.take (xs.length-1)++[ys.getD (xs.length-1) (0,0,0)]:=by
  conv=>lhs;rw[←vH (xs.length-1) ys]
  congr 1;rw[dH (by omega),fB (by omega),aA,ar (by omega)];rfl
 have h2:(ys.getD (xs.length-1) (0,0,0)::ys.take (xs.length-1)).Perm (ys.take (xs.length-1)++[ys.getD (xs.length-1) (0,0,0)]):=(List.perm_append_comm (l₁:=[_]));rw[←h1]at h2;exact h2.trans hp
end Go.K
namespace Go.K
theorem tK:∀(l:List Int) (last:Int),eG last l=true→l.Pairwise (· < ·)∧∀x∈l,last<x
 |[],_,_=>by simp
 |a::l,last,h=>by
  simp only[eG,bX,decide_eq_true_eq]at h;obtain⟨h1,h2⟩:=tK l a h.2;refine⟨eC.2 ⟨h2,h1⟩,fun x hx=>?_⟩;rcases ca.1 hx with rfl|hx
  ·exact h.1
  ·have:=h2 x hx;omega
end Go.K
namespace Go.K
def Tr (ls:List (List Int)) (i k:Nat) (n:Int):Prop:=∃l,ls[i]? =some l∧l[k]? =some n
def Ae (f:Nat→Nat):Nat→Nat
 |0=>0
 |k+1=>Ae f k+f k
theorem Jb {f g:Nat→Nat}:∀{n:Nat},(∀j,j<n→f j=g j)→Ae f n=Ae g n
 |0,_=>rfl
 |n+1,h=>by unfold Ae;rw[Jb (fun j hj=>h j (by omega)),h n (by omega)]
theorem Fk {f g:Nat→Nat} {i:Nat} (hi:f i=g i+1) (hj:∀j,j≠i→f j=g j):∀{n:Nat},i<n→Ae f n=Ae g n+1
 |0,h=>by omega
 |n+1,h=>by
  unfold Ae;by_cases e:i=n
  ·subst e;rw[hi,Jb (fun j SB=>hj j (by omega))];omega
  ·rw[Fk hi hj (n:=n) (by omega),hj n (fun h=>e h.symm)];omega
def qY (ls:List (List Int)) (i:Nat):Nat:=(ls.getD i []).length
def sG (ls:List (List Int)):Nat:=Ae (qY ls) ls.length
def rem (ls:List (List Int)) (at_:Nat→Nat):Nat:=Ae (fun i=>qY ls i-at_ i) ls.length
def Fl (at_:Nat→Nat) (i:Nat):Nat→Nat:=fun j=>if j=i then at_ j+1 else at_ j
theorem Tr.lt {ls:List (List Int)} {i k:Nat} {n:Int} (h:Tr ls i k n):i<ls.length∧k<qY ls i:=by
 obtain⟨l,h1,h2⟩:=h;have h3:=(an.1 h1).1;refine⟨h3,?_⟩;unfold qY;rw[aA,h1];exact(an.1 h2).1
theorem Tr.un {ls:List (List Int)} {i k:Nat} {n n':Int} (h:Tr ls i k n) (h':Tr ls i k n'):n=n':=by
 obtain⟨l,h1,h2⟩:=h;obtain⟨l',h3,h4⟩:=h';rw[h1]at h3;cases h3;rw[h2]at h4;cases h4;rfl
theorem Tr.ex {ls:List (List Int)} {i k:Nat} (h:k<qY ls i):∃n,Tr ls i k n:=by
 unfold qY at h;rw[aA]at h
 cases hi:ls[i]? with
 |none=>rw[hi]at h;simp at h
 |some l=>rw[hi]at h;exact⟨_,l,hi,ar h⟩
def Up (ls:List (List Int)):Prop:=∀l∈ls,eG (-1) l=true
noncomputable instance (ls:List (List Int)):Decidable (Up ls):=Classical.propDecidable _
theorem Up.mono {ls:List (List Int)} (h:Up ls) {i k k':Nat} {n n':Int} (h1:Tr ls i k n) (h2:Tr ls i k' n') (hk:k<k'):n<n':=by
 obtain⟨l,a1,a2⟩:=h1;obtain⟨l',b1,b2⟩:=h2;rw[a1]at b1;cases b1;have hp:=(tK l (-1) (h l (az a1))).1;obtain⟨c1,c2⟩:=an.1 a2;obtain⟨d1,d2⟩:=an.1 b2;rw[←c2,←d2];exact(cn.1 hp) k k' c1 d1 hk
theorem Up.nn {ls:List (List Int)} (h:Up ls) {i k:Nat} {n:Int} (h1:Tr ls i k n):0≤n:=by
 obtain⟨l,a1,a2⟩:=h1;have:=(tK l (-1) (h l (az a1))).2 n (az a2);omega
structure Af (ls:List (List Int)) (at_:Nat→Nat) (out:List Hd) (last:Int):Prop where
 a:∀o∈out,∃i k:Nat,o=(o.1,(i:Int),(k:Int))∧Tr ls i k o.1∧k<at_ i
 b:∀i k n,Tr ls i k n→k<at_ i→(n,(i:Int),(k:Int))∈out
 c:out.Pairwise fun p q=>p.1<q.1
 d:∀o∈out,o.1≤last
 d2:last= -1∨∃o∈out,o.1=last
 e:∀i n,Tr ls i (at_ i) n→last≤n
 f:out.length+rem ls at_=sG ls
theorem Af.zero (ls:List (List Int)) (h:Up ls):Af ls (fun _=>0) [] (-1):=
 ⟨fun _ h=>by(cases h),fun i k n _ h=>by omega,List.Pairwise.nil,fun _ h=>by(cases h),.inl rfl,fun i n ht=>by have:=h.nn ht;omega,by simp[rem,sG]⟩
theorem Af.step {ls:List (List Int)} {at_:Nat→Nat} {out:List Hd} {last:Int} (hu:Up ls) (h:Af ls at_ out last) {i:Nat} {n:Int} (ht:Tr ls i (at_ i) n) (ON:∀j m,Tr ls j (at_ j) m→n≤m) (eN:n≠last):
  Af ls (Fl at_ i) (out++[(n,(i:Int),((at_ i:Nat):Int))]) n:=by
 have dY:=h.e i n ht;refine⟨fun o ho=>?_,fun j k m hj hk=>?_,?_,fun o ho=>?_,.inr ⟨_,List.mem_append_right _ (bS.2 rfl),rfl⟩,fun j m hj=>?_,?_⟩
 ·rcases cr.1 ho with ho|ho
  ·obtain⟨j,k,h1,h2,h3⟩:=h.a o ho;exact⟨j,k,h1,h2,by unfold Fl;split<;>omega⟩
  ·rw[bS]at ho;subst ho;exact⟨i,at_ i,rfl,ht,by unfold Fl;rw[if_pos rfl];omega⟩
 ·unfold Fl at hk;by_cases e:j=i
  ·subst e;rw[if_pos rfl]at hk;rcases cE k (at_ j)with h1|h1
   ·exact gC _ (h.b j k m hj h1)
   ·obtain rfl:k=at_ j:=by omega
    rw[hj.un ht];exact List.mem_append_right _ (bS.2 rfl)
  ·rw[if_neg e]at hk;exact gC _ (h.b j k m hj hk)
 ·refine iP.2 ⟨h.c,List.pairwise_singleton _ _,fun p hp q hq=>?_⟩;rw[bS]at hq;subst hq;have:=h.d p hp;simp only;omega
 ·rcases cr.1 ho with ho|ho
  ·have:=h.d o ho;omega
  ·rw[bS]at ho;subst ho;exact Int.le_refl _
 ·unfold Fl at hj;by_cases e:j=i
  ·subst e;rw[if_pos rfl]at hj;have:=hu.mono ht hj (by omega);omega
  ·rw[if_neg e]at hj;exact ON j m hj
 ·obtain⟨h1,h2⟩:=ht.lt;have h3:=h.f;have h4:rem ls at_=rem ls (Fl at_ i)+1:=Fk (i:=i) (by simp only[Fl,if_true];omega) (fun j hj=>by simp only[Fl,if_neg hj]) h1;rw[a8,cK];omega
def rX (ls:List (List Int)):Option (List Hd)→Prop
 |none=>∃i k i' k' n,¬(i=i'∧k=k')∧Tr ls i k n∧Tr ls i' k' n
 |some out=>(out.Pairwise fun p q=>p.1<q.1)∧(∀o∈out,∃i k:Nat,o=(o.1,(i:Int),(k:Int))∧Tr ls i k o.1)∧∀i k n,Tr ls i k n→(n,(i:Int),(k:Int))∈out
theorem Af.fin {ls:List (List Int)} {at_:Nat→Nat} {out:List Hd} {last:Int} (h:Af ls at_ out last) (hn:∀i n,¬Tr ls i (at_ i) n):rX ls (some out):=by
 refine⟨h.c,fun o ho=>?_,fun i k n ht=>?_⟩
 ·obtain⟨i,k,h1,h2,_⟩:=h.a o ho;exact⟨i,k,h1,h2⟩
 ·refine h.b i k n ht ?_;rcases cE k (at_ i)with h1|h1
  ·exact h1
  ·obtain⟨m,hm⟩:=Tr.ex (ls:=ls) (i:=i) (k:=at_ i) (by have:=ht.lt.2;omega);exact absurd hm (hn i m)
theorem Af.abu {ls:List (List Int)} {at_:Nat→Nat} {out:List Hd} {last:Int} (hu:Up ls) (h:Af ls at_ out last) {i:Nat} {n:Int} (ht:Tr ls i (at_ i) n) (he:n=last):rX ls none:=by
 rcases h.d2 with h1|⟨o,ho,h1⟩
 ·have:=hu.nn ht;omega
 ·obtain⟨j,k,h2,h3,h4⟩:=h.a o ho;refine⟨i,at_ i,j,k,n,fun⟨e1,e2⟩=>by subst e1;omega,ht,?_⟩;rw[he,←h1];exact h3
theorem BY:∀{a b:List Hd},(a.Pairwise fun p q=>p.1<q.1)→(b.Pairwise fun p q=>p.1<q.1)→(∀x,x∈a↔x∈b)→a=b
 |[],[],_,_,_=>rfl
 |[],y::b,_,_,h=>by have:=(h y).2 (bH ..);cases this
 |x::a,[],_,_,h=>by have:=(h x).1 (bH ..);cases this
 |x::a,y::b,ha,hb,h=>by
  obtain⟨xX,yL⟩:=eC.1 ha;obtain⟨mP,oC⟩:=eC.1 hb
  have e:x=y:=by
   rcases ca.1 ((h x).1 (bH ..))with h1|h1
   ·exact h1
   ·rcases ca.1 ((h y).2 (bH ..))with h2|h2
    ·exact h2.symm
    ·have:=mP x h1;have:=xX y h2;omega
  subst e;rw[BY yL oC (fun z=>?_)];constructor
  ·intro hz;rcases ca.1 ((h z).1 (b9 _ hz))with h1|h1
   ·subst h1;have:=xX z hz;omega
   ·exact h1
  ·intro hz;rcases ca.1 ((h z).2 (b9 _ hz))with h1|h1
   ·subst h1;have:=mP z hz;omega
   ·exact h1
theorem HS {out:List Hd} (h:out.Pairwise fun p q=>p.1<q.1) {x y:Hd} (hx:x∈out) (hy:y∈out) (he:x.1=y.1):x=y:=by
 obtain⟨i,hi⟩:=bz.1 hx;obtain⟨j,hj⟩:=bz.1 hy;obtain⟨i1,i2⟩:=an.1 hi;obtain⟨j1,j2⟩:=an.1 hj;have hp:=cn.1 h;rcases eR i j with h1|h1|h1
 ·have:=hp i j i1 j1 h1;rw[i2,j2]at this;omega
 ·subst h1;rw[←i2,←j2]
 ·have:=hp j i j1 i1 h1;rw[i2,j2]at this;omega
theorem rX.un {ls:List (List Int)}:∀{r r':Option (List Hd)},rX ls r→rX ls r'→r=r':=by
 have key:∀{out:List Hd},rX ls none→rX ls (some out)→False:=by
  rintro out ⟨i,k,i',k',n,eN,h1,h2⟩ ⟨h3,h4,h5⟩;have:=HS h3 (h5 _ _ _ h1) (h5 _ _ _ h2) rfl;simp only[ej,true_and]at this;exact eN ⟨by omega,by omega⟩
 intro r r' h h'
 cases r with
 |none=>cases r' with
  |none=>rfl
  |some o=>exact(key h h').elim
 |some o=>cases r' with
  |none=>exact(key h' h).elim
  |some o'=>
   have half:∀{a b:List Hd},rX ls (some a)→rX ls (some b)→∀x∈a,x∈b:=fun ha hb x hx=>by
    obtain⟨i,k,e1,e2⟩:=ha.2.1 x hx;rw[e1];exact hb.2.2 i k _ e2
   rw[BY h.1 h'.1 (fun x=>⟨half h h' x,half h' h x⟩)]
def oW (ls:List (List Int)) (at_:Nat→Nat) (upto:Nat) (hs:List Hd):Prop:=hs.Nodup∧∀h:Hd,h∈hs↔∃(i:Nat) (n:Int),i<upto∧h=(n,(i:Int),((at_ i:Nat):Int))∧Tr ls i (at_ i) n
theorem oW.perm {ls:List (List Int)} {at_:Nat→Nat} {u:Nat} {hs rH:List Hd} (h:oW ls at_ u hs) (hp:rH.Perm hs):oW ls at_ u rH:=⟨hp.nodup_iff.2 h.1,fun x=>(hp.mem_iff).trans (h.2 x)⟩
def Ky (ls:List (List Int)) (i k:Nat):List Hd:=match (ls.getD i [])[k]? with
 |some n=>[(n,(i:Int),(k:Int))]
 |none=>[]
theorem Tr.iff {ls:List (List Int)} {i k:Nat} {n:Int}:Tr ls i k n↔i<ls.length∧(ls.getD i [])[k]? =some n:=by
 constructor
 ·rintro⟨l,h1,h2⟩;have h3:=(an.1 h1).1;rw[aA,h1];exact⟨h3,h2⟩
 ·rintro⟨h1,h2⟩;rw[aA,ar h1]at h2;exact⟨_,ar h1,h2⟩
theorem yq {ls:List (List Int)} {i k:Nat} (hi:i<ls.length) {h:Hd}:h∈Ky ls i k↔∃n,h=(n,(i:Int),(k:Int))∧Tr ls i k n:=by
 unfold Ky;constructor
 ·intro hh
  split at hh
  ·rename_i n hn
   rw[bS]at hh;exact⟨n,hh,Tr.iff.2 ⟨hi,hn⟩⟩
  ·cases hh
 ·rintro⟨n,rfl,ht⟩;rw[(Tr.iff.1 ht).2];exact bS.2 rfl
theorem BZ (ls:List (List Int)) (i k:Nat):(Ky ls i k).Nodup:=by unfold Ky;split<;>simp
theorem oW.fill {ls:List (List Int)} {u:Nat} {hs rH:List Hd} (h:oW ls (fun _=>0) u hs) (hu:u<ls.length) (hp:rH.Perm (hs++Ky ls u 0)):oW ls (fun _=>0) (u+1) rH:=by
 refine oW.perm (hs:=hs++Ky ls u 0) ⟨?_,fun x=>?_⟩ hp
 ·refine List.nodup_append.2 ⟨h.1,BZ _ _ _,fun a ha b hb e=>?_⟩;subst e;obtain⟨i,n,h1,h2,_⟩:=(h.2 a).1 ha;obtain⟨m,h3,_⟩:=(yq hu).1 hb;rw[h2]at h3;simp only[ej]at h3;omega
 ·rw[cr,h.2 x,yq hu];constructor
  ·rintro(⟨i,n,h1,h2,h3⟩|⟨n,h2,h3⟩)
   ·exact⟨i,n,by omega,h2,h3⟩
   ·exact⟨u,n,by omega,h2,h3⟩
  ·rintro⟨i,n,h1,h2,h3⟩;rcases cE i u with h4|h4
   ·exact .inl ⟨i,n,h4,h2,h3⟩
   ·obtain rfl:i=u:=by omega
    exact .inr ⟨n,h2,h3⟩
theorem oW.next {ls:List (List Int)} {at_:Nat→Nat} {hs ys zs:List Hd} {i:Nat} {n:Int} (h:oW ls at_ ls.length hs) (hp:((n,(i:Int),((at_ i:Nat):Int))::ys).Perm hs) (hi:i<ls.length) (hz:zs.Perm (ys++Ky ls i (at_ i+1))):oW ls (Fl at_ i) ls.length zs:=by
 have o6:=(hp.nodup_iff).2 h.1;obtain⟨hn1,hn2⟩:=List.nodup_cons.1 o6
 have eV:∀x,x∈ys↔x∈hs∧x≠(n,(i:Int),((at_ i:Nat):Int)):=fun x=>by
  rw[←hp.mem_iff,ca];constructor
  ·intro hx;exact⟨.inr hx,fun e=>hn1 (e▸hx)⟩
  ·rintro⟨h1|h1,h2⟩
   ·exact absurd h1 h2
   ·exact h1
 have hx:(n,(i:Int),((at_ i:Nat):Int))∈hs:=(hp.mem_iff).1 (bH ..);obtain⟨i',n',h1,h2,h3⟩:=(h.2 _).1 hx;simp only[ej]at h2;obtain⟨e1,e2,e3⟩:=h2;obtain rfl:i=i':=by omega
 subst e1;refine oW.perm (hs:=ys++Ky ls i (at_ i+1)) ⟨?_,fun x=>?_⟩ hz
 ·refine List.nodup_append.2 ⟨hn2,BZ _ _ _,fun a ha b hb e=>?_⟩;subst e;obtain⟨j,m,g1,g2,g3⟩:=(h.2 a).1 ((eV a).1 ha).1;obtain⟨m',g4,_⟩:=(yq hi).1 hb;rw[g2]at g4;simp only[ej]at g4;obtain rfl:j=i:=by omega
  omega
 ·rw[cr,eV,h.2 x,yq hi];constructor
  ·rintro(⟨⟨j,m,g1,g2,g3⟩,g4⟩|⟨m,g2,g3⟩)
   ·have Tf:j≠i:=fun e=>by subst e;rw[g2]at g4;exact g4 (by rw[g3.un h3])
    exact⟨j,m,g1,by rw[g2];simp only[Fl,if_neg Tf],by simp only[Fl,if_neg Tf];exact g3⟩
   ·exact⟨i,m,hi,by rw[g2];simp only[Fl,if_true],by simp only[Fl,if_true];exact g3⟩
  ·rintro⟨j,m,g1,g2,g3⟩;by_cases e:j=i
   ·subst e;simp only[Fl,if_true]at g2 g3;exact .inr ⟨m,g2,g3⟩
   ·simp only[Fl,if_neg e]at g2 g3;exact .inl ⟨⟨j,m,g1,g2,g3⟩,fun e2=>by rw[g2]at e2;simp only[ej]at e2;omega⟩
theorem oW.zero (ls:List (List Int)):oW ls (fun _=>0) 0 []:=⟨List.nodup_nil,fun x=>⟨fun h=>by(cases h),fun⟨i,n,h,_⟩=>by omega⟩⟩
theorem oW.aiL {ls:List (List Int)} {at_:Nat→Nat} (h:oW ls at_ ls.length []):∀i n,¬Tr ls i (at_ i) n:=fun i n ht=>by
 have:=(h.2 _).2 ⟨i,n,ht.lt.1,rfl,ht⟩;cases this
theorem oW.len {ls:List (List Int)} {at_:Nat→Nat} {u:Nat} {hs:List Hd} (h:oW ls at_ u hs):hs.length≤u:=by
 have P2:(hs.map fun h=>h.2.1.toNat).Nodup:=by
  refine cx.2 (h.1.imp_of_mem fun {a b} ha hb Yu e=>Yu ?_);obtain⟨i,n,_,h2,h3⟩:=(h.2 a).1 ha;obtain⟨j,m,_,g2,g3⟩:=(h.2 b).1 hb;rw[h2,g2]at e;simp only[ay]at e;subst e;rw[h2,g2,h3.un g3]
 have dY:∀x∈(hs.map fun h=>h.2.1.toNat),x<u:=fun x hx=>by
  obtain⟨y,hy,rfl⟩:=bV.1 hx;obtain⟨i,n,h1,h2,_⟩:=(h.2 y).1 hy;rw[h2];simpa using h1
 have hss:∀x∈(hs.map fun h=>h.2.1.toNat),x∈List.range u:=fun x hx=>tj.2 (dY x hx)
 have:=List.Nodup.length_le_of_subset P2 hss;rw[aH,List.length_range]at this;exact this
theorem ij {l:List Int} (h0:0<l.length):eG (-1) l=true↔0≤l.getD 0 0∧(∀i,i+1<l.length→l.getD i 0≤l.getD (i+1) 0)∧(∀i,i+1<l.length→l.getD i 0≠l.getD (i+1) 0):=by
 have key:∀(l:List Int) (last:Int),eG last l=true↔(∀x,l[0]? =some x→last<x)∧∀i,i+1<l.length→l.getD i 0<l.getD (i+1) 0:=by
  intro l
  induction l with
  |nil=>intro last;simp[eG]
  |cons a l ih=>
   intro last;simp only[eG,bX,decide_eq_true_eq,ih a];constructor
   ·rintro⟨h1,h2,h3⟩;refine⟨fun x hx=>by simp at hx;omega,fun i hi=>?_⟩
    cases i with
    |zero=>
     cases l with
     |nil=>simp at hi
     |cons b l=>simpa using h2 b rfl
    |succ i=>simpa using h3 i (by simpa using hi)
   ·rintro⟨h1,h2⟩;refine⟨h1 a rfl,fun x hx=>?_,fun i hi=>?_⟩
    ·have:=h2 0 (by have:=(an.1 hx).1;simp;omega);simp only[jm,fR,jn]at this;rw[aA,hx]at this;exact this
    ·have:=h2 (i+1) (by simp;omega);simpa using this
 rw[key];constructor
 ·rintro⟨h1,h2⟩;refine⟨?_,fun i hi=>Int.le_of_lt (h2 i hi),fun i hi=>by have:=h2 i hi;omega⟩;have:=h1 _ (ar h0);rw[aA,ar h0];simp only[Option.getD_some];omega
 ·rintro⟨h1,h2,h3⟩;refine⟨fun x hx=>?_,fun i hi=>by have:=h2 i hi;have:=h3 i hi;omega⟩;rw[aA,hx]at h1;simp only[Option.getD_some]at h1;omega
def ed (out:List Hd):List (Int×Int):=out.map Prod.snd
end Go.K
namespace Go.K
abbrev RT.hd:RT Hd:=RT.pair (RT.int .i64) (RT.pair (RT.int .i64) (RT.int .i64))
theorem TR:Part RT.hd (RT.int .i64) (fun h=>h.1) 0:=np _ _
theorem yr:Part RT.hd (RT.int .i64) (fun h=>h.2.1) 1:=(iK _ _).trans (np _ _)
theorem Ag:Part RT.hd (RT.int .i64) (fun h=>h.2.2) 2:=(iK _ _).trans (iK _ _)
def ma (x:Int):Prop:= -9223372036854775808≤x∧x≤9223372036854775807
theorem OO {M:aD} {w:World} {a b c:Int} (ha:ma a) (hb:ma b) (hc:ma c):RT.hd.V M w (a,b,c) (.agg #[.int .i64 a,.int .i64 b,.int .i64 c]):=
 ⟨[.int .i64 a,.int .i64 b,.int .i64 c],⟨[.int .i64 a],[.int .i64 b,.int .i64 c],rfl,⟨rfl,ha⟩,⟨[.int .i64 b],[.int .i64 c],rfl,⟨rfl,hb⟩,⟨rfl,hc⟩⟩⟩,rfl⟩
theorem tL {M:aD} {w:World} {a b c:Int} {v:Value} (h:RT.hd.V M w (a,b,c) v):v= .agg #[.int .i64 a,.int .i64 b,.int .i64 c]∧ma a∧ma b∧ma c:=by
 obtain⟨vs,⟨va,vb,rfl,h1,⟨vc,vd,rfl,h2,h3⟩⟩,rfl⟩:=h;have e1:=h1.1;have e2:=h2.1;have e3:=h3.1;subst e1;subst e2;subst e3;exact⟨rfl,h1.2,h2.2,h3.2⟩
theorem Step.abv {M M2 N:aD} {w w':World} (s:Step M w M w' N) (hm:∀b,b<w.heap.size→(M2 b↔M b)) (hl:Lt M2 w'):Step M w M2 w' N:=
 ⟨fun _=>hl,s.os,s.tape,s.output,s.size,hm,s.same,s.sub⟩
theorem Own.ltM {α:Type} {A:RT α} {e:TypeId} {M:aD} {w:World} {base:Nat} {v:Value} {xs:List α} (h:Own A e M w base v xs):xs.length≤9223372036854775807:=by
 obtain⟨⟨C,hr,_⟩,_⟩:=h;rcases hr.2 with⟨_,h2⟩|⟨g,cap,cur,h1,h2,h3,h4,h5,_⟩
 ·omega
 ·unfold maxLen at h5;omega
theorem Own.CW {α:Type} {A:RT α} {e:TypeId} {M:aD} {w:World} {base:Nat} {v:Value} {xs:List α} (h:Own A e M w base v xs) (hl:0<xs.length):v≠ .slice none 0 0:=fun e=>by
 obtain⟨a,cap,h1,_⟩:=h.isSlice;rw[e]at h1;simp only[fY]at h1;omega
theorem Own.apart {α:Type} {A:RT α} {e Th:TypeId} {M:aD} {w:World} {base bh:Nat} {v:Value} {xs:List α} {cs:Array Value} {fr:Nat×Nat} (h:Own A e M w base v xs) (hb:w.heap[bh]? =some (.cells cs Th fr)) (ne:Th≠e):∀k,v.ownBlock=some k→k≠bh:=fun k hk he=>by
 obtain⟨⟨C,hr,_⟩,_⟩:=h;rcases hr.2 with⟨h1,_⟩|⟨g,cap,cur,h1,h2,h3,_⟩
 ·rw[h1]at hk;cases hk
 ·rw[h1]at hk;cases hk;have he:g=bh:=he;rw[he]at h3;have:=hb.symm.trans h3;simp only[dy,Obj.cells.injEq]at this;exact ne this.2.1
structure rY (Th Te:TypeId) (M:aD) (w:World) (bh base:Nat) (v:Value) (hs:List Hd):Prop where
 h:w.heap[bh]? =some (.cells #[v] Th (0,0))
 mh:M bh
 o:Own RT.hd Te M w base v hs
 nn:v≠ .slice none 0 0
 ne:Th≠Te
section
variable {Th Te:TypeId} {M M' N:aD} {w w':World} {bh base:Nat} {v v':Value} {hs rH:List Hd}
theorem rY.apart (h:rY Th Te M w bh base v hs):∀k,v.ownBlock=some k→k≠bh:=h.o.apart h.h h.ne
theorem rY.aO (h:rY Th Te M w bh base v hs) (s:Step M w M' w' aC):rY Th Te M' w' bh base v hs:=⟨s.aL h.h,(s.mem bh (ak h.h)).2 h.mh,h.o.aO s,h.nn,h.ne⟩
theorem rY.wrote (h:rY Th Te M w bh base v hs) (s:Step M w M w' (fD v)) (ho:Own RT.hd Te M w' base v rH):rY Th Te M w' bh base v rH:=
 ⟨s.keep h.h (fun hk=>h.apart bh hk rfl),h.mh,ho,h.nn,h.ne⟩
theorem Own.val {α:Type} {A:RT α} {e:TypeId} {base:Nat} {xs:List α} (h:Own A e M w base v xs) {j:Nat} {x:α} (hx:xs[j]? =some x):∃u,A.V M w x u:=by
 obtain⟨⟨C,hr,ha⟩,_⟩:=h;obtain⟨vs,hv,_⟩:=ha.at_ j x hx;exact⟨_,vs,hv,rfl⟩
theorem rY.view {hn:0<RT.hd.n} (h:rY Th Te M w bh base v hs) (hl:hs.length≤140737488355328):(RT.hd.sl hn).V (fun k=>M k∧¬v.ownBlock=some k) w hs v:=
 h.o.sl (fun b _ hm=>⟨fun h=>hm h.1,rfl⟩) (fun b hb h=>h.2 hb) hl
end
def BT (w:World) (k:Nat) (T:TypeId):Prop:=∃cs fr,w.heap[k]? =some (.cells cs T fr)
theorem BT.ne {w:World} {a b:Nat} {Ta Tb:TypeId} (ha:BT w a Ta) (hb:BT w b Tb) (h:Ta≠Tb):a≠b:=fun e=>by
 subst e;obtain⟨cs,fr,h1⟩:=ha;obtain⟨Gc,fr',h2⟩:=hb;have:=h1.symm.trans h2;simp only[dy,Obj.cells.injEq]at this;exact h this.2.1
theorem Own.bt {α:Type} {A:RT α} {e:TypeId} {M:aD} {w:World} {base:Nat} {v:Value} {xs:List α} (h:Own A e M w base v xs):∀k,v.ownBlock=some k→BT w k e:=fun k hk=>by
 obtain⟨⟨C,hr,_⟩,_⟩:=h;rcases hr.2 with⟨h1,_⟩|⟨g,cap,cur,h1,h2,h3,_⟩
 ·rw[h1]at hk;cases hk
 ·rw[h1]at hk;cases hk;exact⟨_,_,h3⟩
def NB (Te:TypeId) (M:aD) (w:World) (bh base:Nat):aD:=fun k=>M k∧(k=bh∨(base≤k∧BT w k Te))
theorem NB.not {Te T:TypeId} {M:aD} {w:World} {bh base k:Nat} (hk:BT w k T) (eN:T≠Te) (hb:k≠bh): ¬NB Te M w bh base k:=fun h=>h.2.elim hb fun h2=>hk.ne h2.2 eN rfl
section
variable {Th Te:TypeId} {M M1 M2 M' N:aD} {w w0 w1 w2 w':World} {bh base:Nat} {v:Value} {hs:List Hd}
theorem Step.nb (s1:Step M w0 M1 w1 (NB Te M w0 bh base)) (s2:Step M1 w1 M2 w2 (NB Te M1 w1 bh base)):Step M w0 M2 w2 (NB Te M w0 bh base):=
 s1.trans s2 fun b hb h=>by
  by_cases hn:NB Te M w0 bh base b
  ·exact hn
  ·refine⟨(s1.mem b hb).1 h.1,h.2.imp id fun⟨Nv,cs,fr,hc⟩=>⟨Nv,cs,fr,?_⟩⟩;rw[←s1.same b hb hn];exact hc
theorem Step.nbw (s:Step M w M' w' (fD v)) (h:rY Th Te M w bh base v hs):Step M w M' w' (NB Te M w bh base):=s.cB (fun b hb=>⟨h.o.mut_ b hb,.inr ⟨(h.o.base b hb).1,h.o.bt b hb⟩⟩) (fun _ h=>h.1)
theorem Step.nb0 (s:Step M w M' w' aC):Step M w M' w' (NB Te M w bh base):=s.cB (fun _ h=>h.elim) (fun _ h=>h.1)
theorem rY.keep (h:rY Th Te M w bh base v hs) (s:Step M w M' w' N) (hb: ¬N bh) (hv:∀k,v.ownBlock=some k→¬N k):rY Th Te M' w' bh base v hs:=
 ⟨s.keep h.h hb,(s.mem bh (ak h.h)).2 h.mh,h.o.step s hv,h.nn,h.ne⟩
end
section
variable {P:Program} {r:Option Nat} {n:Nat} {L:Sl} {ds:List Deferred} {w:World} {K:Kt} {ops:Array Oper} {rest:List Oper} {d:Nat} {ty:TypeId} {pos:String} {af:Array Edge} {x y:Operand}
theorem Rg.par {t t':TypeId} {j:Nat} (hx:ev L x=some (.int .i64 ((j:Int)-1))) (hy:ev L y=some (.int .i64 2)) (hd:Nat.blt d n=true) (hj:j≤9223372036854775807)
  (k:Rg P r n ops rest ((d,.int .i64 (((j-1)/2:Nat):Int))::L) ds w K):
  Rg P r n ops ({dst:=some d,op:= .binOp .quo t x y t',type:=ty,pos,after:=af,guard:=none}::rest) L ds w K:=by
 cases j with
 |zero=>exact .bin hx hy hd (by simp[binOp,Op.intDiv];try rfl) k
 |succ j=>
  refine Rg.AL hx hy hd (by omega) ?_;rw[show(((j+1:Nat):Int)-1)/2=(((j+1-1)/2:Nat):Int)from by omega];exact k
end
theorem TS {xs:List Hd} {i:Nat} {a b c:Int} (h:xs[i]? =some (a,b,c)):hn xs i=a:=by unfold hn;rw[aA,h];rfl
theorem Jc {xs:List Hd} {i j:Nat} {x y:Hd} (hx:xs[i]? =some x) (hy:xs[j]? =some y):swp xs i j=(xs.set i y).set j x:=by
 unfold swp;rw[aA,aA,hx,hy];rfl
theorem Kz {xs:List Hd} {i j:Nat} {x y:Hd} (hx:xs[i]? =some x) (hy:xs[j]? =some y):(swp xs i j).set j x=swp xs i j:=by
 rw[Jc hx hy,List.set_set]
end Go.K
namespace Go.K
open Go.Proofs
namespace TKMul
theorem aiN:Enters Tryz.prog 215:=enters Tryz.func215 rfl (by decide)
end TKMul
open TKMul
set_option maxRecDepth 10000
theorem HT {n:Nat} (h:n≤1073741824):IntKind.u64.wrap ((BitVec.ofInt IntKind.u64.bits (n:Int)&&&BitVec.ofInt IntKind.u64.bits 4294967295).toNat:Int)=(n:Int):=by
 have e:(BitVec.ofInt IntKind.u64.bits (n:Int)&&&BitVec.ofInt IntKind.u64.bits 4294967295).toNat=n:=by
  rw[BitVec.toNat_and,qv,qv];have h1:((4294967295:Int)%((2^IntKind.u64.bits:Nat):Int)).toNat=2^32-1:=by decide
  have h2:((n:Int)%((2^IntKind.u64.bits:Nat):Int)).toNat=n:=by
   change((n:Int)%((18446744073709551616:Nat):Int)).toNat=n;omega
  rw[h1,h2,Nat.and_two_pow_sub_one_eq_mod];omega
 rw[e];exact gB _ (by omega)
theorem Fm {n:Nat} (h:n≤1073741824):(n:Int).fdiv (2^min (Int.toNat 32) IntKind.u64.bits)=0:=by
 show((n:Int)).fdiv 4294967296=0;rw[Int.fdiv_eq_ediv_of_nonneg _ (by decide)];omega
theorem KA {w0:World} {n:Nat} (hn:n≤1073741824):
  Spec Tryz.prog 215 #[.int .u64 1,.int .u64 n] w0 (fun v' w'=>v'= .tuple #[.int .u64 0,.int .u64 n]∧w0=w'):=by
 refine bg (args:=[_,_]) (fn:=Tryz.f215) Tryz.func215 rfl (n:=51) Tryz.ntmps215 (aj (ae (ah rfl rfl (ah rfl rfl (ab (aj (ae (ad rfl rfl (Rg.and rfl rfl rfl (aU (v':= .int .u64 (1)) (congrArg _ (by first|decide|exact HT (by omega))) (ah rfl rfl ?_)))))))))));refine ab (aj (ae (ad rfl rfl (Rg.shr rfl rfl rfl (by omega) (aU (v':= .int .u64 (0:Int)) (congrArg _ (by first|decide|exact Fm (by omega))) (ah rfl rfl (ab (aj (ae (ad rfl rfl (Rg.and rfl rfl rfl ?_)))))))))));refine aU (v':= .int .u64 ((n:Int))) (congrArg _ (by first|decide|exact HT (by omega))) (ah rfl rfl (ab (aj (ae (ad rfl rfl (Rg.shr rfl rfl rfl (by omega) (aU (v':= .int .u64 (0:Int)) (congrArg _ (by first|decide|exact Fm (by omega))) (ah rfl rfl (ab (aj (ae ?_)))))))))));refine ad rfl rfl (ad rfl rfl (Rg.Jw rfl rfl rfl (aU (v':= .int .u64 ((n:Int))) (congrArg _ (by rw[gB _ (by omega)];omega)) (ah rfl rfl (ab (aj (ae (ad rfl rfl (ad rfl rfl (Rg.Jw rfl rfl rfl (aU (v':= .int .u64 (0)) (congrArg _ (by rw[gB _ (by omega)];omega)) ?_)))))))))));refine ad rfl rfl (Rg.shr rfl rfl rfl (by omega) (aU (v':= .int .u64 (0:Int)) (congrArg _ (by first|decide|exact Fm (by omega))) (Rg.xR rfl rfl rfl (aU (v':= .int .u64 (0)) (congrArg _ (by rw[gB _ (by omega)];omega)) (ah rfl rfl (ab (aj (ae (ad rfl rfl (Rg.and rfl rfl rfl (aU (v':= .int .u64 (0)) (congrArg _ (by first|decide|exact HT (by omega))) ?_)))))))))));refine ah rfl rfl (ab (aj (ae (ad rfl rfl (Rg.shr rfl rfl rfl (by omega) (aU (v':= .int .u64 (0:Int)) (congrArg _ (by first|decide|exact Fm (by omega))) (ah rfl rfl (ab (aj (ae (ad rfl rfl ?_)))))))))));refine ad rfl rfl (ad rfl rfl (Rg.Jw rfl rfl rfl (aU (v':= .int .u64 (0)) (congrArg _ (by rw[gB _ (by omega)];omega)) (Rg.xR rfl rfl rfl (aU (v':= .int .u64 (0)) (congrArg _ (by rw[gB _ (by omega)];omega)) (ah rfl rfl (ab (aj (ae (ad rfl rfl (ad rfl rfl ?_)))))))))))
 refine Rg.Jw rfl rfl rfl (aU (v':= .int .u64 (0)) (congrArg _ (by rw[gB _ (by omega)];omega)) (ad rfl rfl (Rg.xR rfl rfl rfl (aU (v':= .int .u64 (0)) (congrArg _ (by rw[gB _ (by omega)];omega)) (ad rfl rfl (Rg.shr rfl rfl rfl (by omega) (aU (v':= .int .u64 (0:Int)) (congrArg _ (by first|decide|exact Fm (by omega))) (Rg.xR rfl rfl rfl (aU (v':= .int .u64 (0)) (congrArg _ (by rw[gB _ (by omega)];omega)) (ah rfl rfl (ab ?_)))))))))));refine aj (ae (ad rfl rfl (ad rfl rfl (Rg.Jw rfl rfl rfl (aU (v':= .int .u64 ((n:Int))) (congrArg _ (by rw[gB _ (by omega)];omega)) (ah rfl rfl (ab (aP ?_))))))));exact fp rfl rfl rfl ⟨rfl,rfl⟩
theorem Ry {w0:World} {n:Nat} (hn:n≤1073741824):
  Spec Tryz.prog 161 #[.int .u64 1,.int .u64 n] w0 (fun v' w'=>v'= .tuple #[.int .u64 0,.int .u64 n]∧w0=w'):=by
 refine bg (args:=[_,_]) (fn:=Tryz.f161) Tryz.func161 rfl (n:=30) Tryz.ntmps161 (aj (ae (ah rfl rfl (ah rfl rfl (ab (aj (jD rfl (aT (aj (ae (ad rfl rfl ?_)))))))))));refine ad rfl rfl ?_;refine aX rfl rfl aiN (KA hn) (fun r wc h=>?_);obtain⟨rfl,rfl⟩:=h;refine ad rfl rfl (bW rfl rfl rfl (bW rfl rfl rfl (ah rfl rfl (ah rfl rfl (ab (aj (ae (ad rfl rfl (ad rfl rfl (ah rfl rfl (ah rfl rfl ?_)))))))))));refine ab (aP ?_);exact fp rfl rfl rfl ⟨rfl,rfl⟩
end Go.K
namespace Go.K
open Go.Proofs
namespace TKRep11
theorem aiO:Enters Tryz.prog 161:=enters Tryz.func161 rfl (by decide)
end TKRep11
open TKRep11
set_option maxRecDepth 10000
theorem Fp (b o i:Nat):(⟨b,o,none⟩:Addr).add i=⟨b,o+i,none⟩:=by simp[Addr.add]
def filled (n k:Nat) (x:Int):List Int:=List.replicate k x++List.replicate (n-k) 0
theorem Ah {n k:Nat} {x:Int} (h:k≤n):(filled n k x).length=n:=by unfold filled;simp;omega
theorem HU (n:Nat) (x:Int):filled n n x=List.replicate n x:=by unfold filled;simp
theorem HV {n k j:Nat} {x:Int} (h:j<k):(filled n k x)[j]? =some x:=by unfold filled;rw[fF (by simpa using h)];simp[h]
theorem xD {n k m:Nat} {x:Int} (h:k+m≤n):(filled n k x).take k++List.replicate m x++(filled n k x).drop (k+m)=filled n (k+m) x:=by
 unfold filled;rw[List.take_append_of_le_length (by simp),aW (by simp),List.replicate_append_replicate,List.drop_append,gX (by simp),fQ,List.drop_replicate,ch];congr 2;omega
theorem Own.abw {M:aD} {w:World} {e:TypeId} {base g n:Nat} (h:w.heap[g]? =some (.cells (List.replicate n (.int .i64 0)).toArray e (0,0))) (hb:base≤g) (hm:M g) (hn:n≤1099511627776):Own (RT.int .i64) e M w base (.slice (some ⟨g,0,none⟩) n n) (List.replicate n 0):=by
 refine⟨⟨List.replicate n (.int .i64 0),⟨by simp[RT.int],.inr ⟨g,n,_,by simp,hb,h,by simp,by unfold maxLen;simp;omega,by simp[RT.int],by simp[RT.int]⟩⟩,?_⟩,fun b hb=>by cases hb;exact hm⟩;have:=eg.Cr (M:=M) (w:=w) (κ:= .i64) (xs:=List.replicate n 0) (fun x hx=>by rw[iL hx];decide);simpa using this
theorem Fq {M:aD} {w0:World} {v:Value} {x:Int} {n:Nat} (hM:Lt M w0) (hv:((RT.int .i64).sl).V M w0 [x] v) (hn:n≤1073741824):
  Spec Tryz.prog 112 #[v,.int .i64 n] w0 (fun v' w'=>∃M',Own (RT.int .i64) 3 M' w' w0.heap.size v' (List.replicate n x)∧Lt M' w'∧Step M w0 M' w' aC):=by
 have hxr:=B9 hv (i:=0) rfl;obtain⟨av,asR,rfl,hcv,_,Sr⟩:=iz.1 hv;obtain⟨bv,ov,rfl,hbv,hav⟩:=Sr.resolve_left (by simp);obtain⟨vs0,⟨aiP,_⟩,hrx⟩:=hav 0 x rfl;subst aiP;have hcx:w0.cell? ⟨bv,ov,none⟩=some (.int .i64 x):=by simpa using hrx 0 _ rfl
 refine bg (args:=[_,_]) (fn:=Tryz.f112) Tryz.func112 rfl (n:=48) Tryz.ntmps112 (aj (ae (ah rfl rfl (ab (aj (aj (ae (ad rfl rfl (cg rfl rfl rfl (ab (T.vP rfl (by omega) ?_)))))))))));refine aT (aj (ae (ad rfl rfl (Rg.mM ao rfl rfl (td ax j4 rfl rfl (aU (v':= .int .u64 1) (congrArg _ (by simp only[cK];decide)) (ad rfl rfl (td ax j4 rfl rfl (aU (v':= .int .u64 (n:Int)) (congrArg _ (gB _ (by omega))) ?_)))))))));refine aX rfl rfl aiO (Ry hn) (fun r wc h=>?_);obtain⟨rfl,rfl⟩:=h;refine ad rfl rfl (bW rfl rfl rfl (bW rfl rfl rfl (ah rfl rfl (ah rfl rfl (ab (aj (aj (ae (ad rfl rfl (jk rfl rfl rfl (ad rfl rfl ?_)))))))))));refine Rg.yC (g:=23) rfl (by omega) (al rfl rfl (ad rfl rfl (al rfl rfl (jk rfl rfl rfl (aE rfl rfl rfl (ab (T.vP rfl (by omega) (aT (aj (ae (ad rfl rfl ?_)))))))))));refine Rg.vS j4 ax rfl rfl (by omega) ?_;refine Rg.mk0 (len:=n) M ao I3 rfl rfl rfl rfl (by omega) (by omega) (fun g wg zg zg' gg sg=>?_);have ho:Own (RT.int .i64) 3 (ins M g) wg w0.heap.size (.slice (some ⟨g,0,none⟩) n n) (filled n 0 x):=by unfold filled;simpa using Own.abw gg zg (.inl rfl) (by omega)
 clear gg;refine ah rfl rfl (ab (aj (ae (ad rfl rfl ?_))));obtain⟨k0,Gj⟩:∃k0:Nat,k0=min 1 n:=⟨_,rfl⟩;refine ad rfl rfl ?_;refine Rg.SE (M:=ins M g) (xs:=filled n 0 x) (ys:=List.replicate k0 x) (o:=0) ao I3 rfl rfl rfl ho (by simp;omega) (by rw[Ah (by omega),ch];omega) (fun j a hj=>?_) (fun a ha=>by rw[iL ha];exact hxr) (fun w7 nE s7=>?_)
 ·have uq:=(an.1 hj).1;rw[ch]at uq;have e:a=x:=by rw[kY]at hj;split at hj<;>simp_all
  subst e;obtain rfl:j=0:=by omega
  have hc:=sg.same bv (World.block_lt_of_cell? w0 _ hcx) (fun h=>h);have:wg.cell? ⟨bv,ov,none⟩=some (.int .i64 a):=by rw[World.cell?_of_block (w:=w0) hc];exact hcx
  rw[Fp,Nat.add_zero];exact this
 rw[ch,xD (by omega),fR]at nE;refine aU (v':= .int .i64 (k0:Int)) (by rw[ch]) ?_;have S7:=sg.cf s7 (fun b hb=>by have hb:b=g:=hb;omega);refine ah rfl rfl (ab (aj (aY ?_)));refine dh (σ:=Nat) (fun s=>[(7,.slice (some ⟨g,0,none⟩) n n),(8,.int .i64 s)]) (fun s w=>s≤n∧(0<n→0<s)∧Own (RT.int .i64) 3 (ins M g) w w0.heap.size (.slice (some ⟨g,0,none⟩) n n) (filled n s x)∧Step M w0 (ins M g) w aC) (fun s=>n-s) k0 (.cons rfl (.cons rfl .nil)) ?_ ?_
 ·exact⟨by omega,by omega,nE,S7⟩
 ·rintro k w1 ⟨hk,asV,ho,S⟩;refine aj (aj (ae (ad rfl rfl (ad rfl rfl (Rg.mM ao rfl rfl (cg rfl rfl rfl (ab ?_)))))));refine bM rfl (fun c8=>?_) (fun c8=>?_)
  ·refine aT (aY ?_);apply T.oG 7 [0] 1 (fun b=>b=g) mixed rfl rfl rfl rfl;intro TC sA9;have E5:=sA9 (ins M g);refine ad rfl rfl ?_;refine ab ⟨rfl,rfl,rfl,?_⟩;refine ad rfl rfl ?_;refine ab ⟨rfl,rfl,rfl,?_⟩;refine ad rfl rfl ?_;refine ab ⟨rfl,rfl,rfl,?_⟩;refine Rg.LW ao I3 rfl rfl rfl (by omega) (aU (v':= .slice (some ⟨g,k,none⟩) (n-k) (n-k)) (by rw[ay,eU]) ?_);refine ab ⟨rfl,rfl,rfl,?_⟩;refine ad rfl rfl ?_;refine ab ⟨rfl,rfl,rfl,?_⟩;refine ad rfl rfl ?_;refine ab ⟨rfl,rfl,rfl,?_⟩;refine Rg.UQ ao I3 rfl rfl rfl (by omega) (aU (v':= .slice (some ⟨g,0,none⟩) k n) (by rw[ay]) ?_);refine ab ⟨rfl,rfl,rfl,?_⟩;refine eD ?_;refine⟨ik ⟨eW,trivial⟩,?_⟩;have kp:=jl (fun b=>b=g) TC;refine Rg.SE (M:=ins M g) (xs:=filled n k x) (ys:=List.replicate (min k (n-k)) x) (o:=k) ao I3 rfl rfl rfl (ho.aO E5) (by simp) (by rw[Ah hk,ch];omega) (fun j a hj=>?_) (fun a ha=>by rw[iL ha];exact hxr) (fun w7 nE s7=>?_)
   ·have uq:=(an.1 hj).1;rw[ch]at uq;have e:a=x:=by rw[kY]at hj;split at hj<;>simp_all
    subst e;have:=(ho.aO E5).cell (HV (n:=n) (show j<k by omega));rw[Fp,fR];exact this
   rw[ch,xD (by omega)]at nE;refine aU (v':= .int .i64 ((min k (n-k):Nat):Int)) (by rw[ch]) ?_;refine(fun(kp:eJ _ _ _)=>ab ⟨rfl,rfl,fun _=>kp,?_⟩) (by first|exact kp|exact kp.ry (by assumption)|exact kp.goN (by assumption)|exact kp.go (by assumption) (fun _ _ h=>by first|exact h|exact h.elim));refine bG rfl rfl rfl (by omega) ?_;refine ab ⟨rfl,rfl,fun h=>absurd rfl h,?_⟩;refine ah rfl rfl ?_;refine ab ⟨rfl,rfl,fun h=>absurd rfl h,?_⟩;refine lJ ?_;refine⟨rfl,k+min k (n-k),(.cons rfl (.cons (congrArg (fun z=>some (Value.int .i64 z)) (by omega)) .nil)),?_,?_⟩
   ·exact⟨by omega,by omega,nE,(S.aB (sA9 _)).cf s7 (fun b hb=>by have hb:b=g:=hb;omega)⟩
   ·show n-(k+min k (n-k))<n-k;omega
  ·refine cH (aj (ae (ad rfl rfl (ah rfl rfl (ab (aP ?_))))));obtain rfl:k=n:=by omega
   rw[HU]at ho;exact aV rfl rfl ⟨_,ho,S.lt hM,S⟩
end Go.K
namespace Go.K
open Go.Proofs
namespace TKPlc11
theorem kG:TI Tryz.prog 124 (.agg #[(.int .i64 0),(.int .i64 0)]) 2 16:=by unfold TI;kernel_rfl
theorem aiQ:Enters Tryz.prog 112:=enters Tryz.func112 rfl (by decide)
end TKPlc11
open TKPlc11
set_option maxRecDepth 10000
def pT (o:List Fo) (p:Fo) (r:Int):Prop:=(r= -1∧p∉o)∨∃t:Nat,r=(t:Int)∧o[t]? =some p
theorem pT.hit {o:List Fo} {p:Fo} {k:Nat} (h:o[k]? =some p):pT (o.take (k+1)) p (k:Int):= .inr ⟨k,rfl,by rw[ck,if_pos (by omega)];exact h⟩
theorem pT.Rz {o:List Fo} {p q:Fo} {k:Nat} {r:Int} (h:o[k]? =some q) (eN:q≠p) (hr:pT (o.take k) p r):pT (o.take (k+1)) p r:=by
 obtain⟨hk,hq⟩:=an.1 h;rw[tb hk,hq];rcases hr with⟨h1,h2⟩|⟨t,h1,h2⟩
 ·exact .inl ⟨h1,fun hm=>by rcases cr.1 hm with hm|hm;exact h2 hm;rw[bS]at hm;exact eN hm.symm⟩
 ·exact .inr ⟨t,h1,by rw[fF (an.1 h2).1];exact h2⟩
theorem pT.all {o:List Fo} {p:Fo} {r:Int} (h:pT (o.take o.length) p r):pT o p r:=by rwa [List.take_length]at h
theorem rI {M:aD} {w:World} {a b:Int} {v:Value} (h:RT.fo.V M w (a,b) v):v= .agg #[.int .i64 a,.int .i64 b]∧ma a∧ma b:=by
 obtain⟨vs,⟨va,vb,rfl,⟨rfl,h1⟩,⟨rfl,h2⟩⟩,rfl⟩:=h;exact⟨rfl,h1,h2⟩
def Plc (o:List Fo) (i:Int) (n:Nat) (xs:List Int):Prop:=xs.length=n∧∀j,j<n→pT o (i,(j:Int)) (xs.getD j 0)
theorem Fs {M:aD} {w0:World} {v:Value} {o:List Fo} {i:Int} {n:Nat} (hM:Lt M w0) (hv:((RT.fo).sl).V M w0 o v) (hn:n≤1073741824):
  Spec Tryz.prog 61 #[v,.int .i64 i,.int .i64 n] w0 (fun v' w'=>∃M' xs,Plc o i n xs∧Own (RT.int .i64) 3 M' w' w0.heap.size v' xs∧Lt M' w'∧Step M w0 M' w' aC):=by
 have fE:=dD hv;refine bg (args:=[_,_,_]) (fn:=Tryz.f61) Tryz.func61 rfl (n:=44) Tryz.ntmps61 (aj (ae (ah rfl rfl (ab (aj (ae ?_))))));refine eu (A:=RT.int .i64) (hn:=by decide) (M:=M) ao I3 (by decide) rfl rfl hM (gv (by decide)) (.inr ⟨rfl,rfl⟩) (fun u w1 hu s1=>?_);refine ad rfl rfl (Rg.max2 rfl rfl rfl (aU (v':= .int .i64 (n:Int)) (congrArg _ (by omega)) ?_));refine aX rfl rfl aiQ (Fq (s1.lt hM) hu hn) (fun rv w2 h=>?_);obtain⟨M2,tM,Gg,s2⟩:=h;have S2:=s1.aB s2;replace tM:=tM.nS s1.size;refine ah rfl rfl (ab (aj (aj (ae (ad rfl rfl (bN fa rfl (hv.le S2.le) rfl (ad rfl rfl (ab (aY ?_)))))))));refine dh (σ:=Nat×List Int) (fun s=>[(1,.int .i64 i),(7,rv),(14,v),(15,.int .i64 o.length),(16,.int .i64 s.1)]) (fun s w=>s.1≤o.length∧Plc (o.take s.1) i n s.2∧∃M1,Lt M1 w∧Own (RT.int .i64) 3 M1 w w0.heap.size rv s.2∧Step M w0 M1 w aC) (fun s=>o.length-s.1) (0,List.replicate n (-1)) (.cons rfl (.cons rfl (.cons rfl (.cons rfl (.cons rfl .nil))))) ?_ ?_
 ·refine⟨bD _,⟨by simp,fun j hj=> .inl ⟨?_,by simp⟩⟩,M2,Gg,tM,S2⟩;simp only[aA,kY];rw[if_pos hj];rfl
 ·clear tM S2 Gg;rintro⟨k,xs⟩ w1 ⟨hk,⟨ru,tS⟩,M1,oy,ho,S⟩;dsimp only at hk ru tS ho ⊢;refine aj (ae (cg rfl rfl rfl (ab (aj ?_))));refine bM rfl (fun c3=>?_) (fun c3=>?_)
  ·refine aT (aj (aY (aj (ae (ad rfl rfl ?_)))));obtain⟨⟨a,b⟩,hx⟩:∃x,o[k]? =some x:=⟨_,ar (by omega)⟩;refine cv (M:=M1) fa kG rfl rfl rfl (hv.le S.le) (aq _ _) (by omega) (fun u4 a4 xo Ge=>?_);obtain rfl:(a,b)=a4:=dJ (aF (xo.symm.trans (by rw[ay];exact hx)));refine cT (M:=M1) (A:=RT.fo) cA rfl kG (by decide) rfl rfl rfl Ge (aq _ _) (fun v4 nv=>?_);obtain⟨rfl,ra,rb⟩:=rI nv;refine dU M1 kG rfl (fun b4 wa za za' ga sa=>?_);refine ah rfl rfl ?_;refine dI (M:=ins M1 b4) (vs:=[.int .i64 a,.int .i64 b]) kG rfl rfl (by intro u hu;simp only[ca,dR,or_false]at hu;rcases hu with rfl|rfl<;>rfl) rfl rfl ga (.inl rfl) (fun ws gs ss=>?_);have sS:=(sa.cf ss (fun b hb=>by have hb:b=b4:=hb;rw[hb];exact za)).any M1;have ho:=ho.aO sS;have S:=S.aB sS;have oy:=sS.lt oy;refine ab (aj (ae (yg (len:=2) cA I3 rfl rfl rfl (by omega) (aN ax rfl rfl rfl gs rfl (ad rfl rfl (tY rfl rfl rfl (ad rfl rfl ?_)))))));refine aS (g:=25) rfl (fun Wo=>?_) (fun Wo=>?_)
   ·refine al rfl rfl (yg (len:=2) cA I3 rfl rfl rfl (by omega) (al rfl rfl (aN ax rfl rfl rfl gs rfl (al rfl rfl (ef rfl rfl rfl (aZ rfl rfl rfl (ad rfl rfl ?_)))))));refine aS (g:=30) rfl (fun Wp=>?_) (fun Wp=>?_)
    ·refine al rfl rfl (yg (len:=2) cA I3 rfl rfl rfl (by omega) (al rfl rfl (aN ax rfl rfl rfl gs rfl (al rfl rfl (ad rfl rfl (al rfl rfl (fS ao rfl ho rfl (al rfl rfl (cg rfl rfl rfl (aZ rfl rfl rfl (ab ?_)))))))))));refine bM rfl (fun c5=>?_) (fun c5=>?_)
     ·obtain⟨g,cap,cur,rfl,Ux,RA,Ft⟩:=ho.we (ho.CW (by omega));refine ae (ad rfl rfl (yg (len:=2) cA I3 rfl rfl rfl (by omega) (aN ax rfl rfl rfl gs rfl (ad rfl rfl (xd (size:=1) ao I3 rfl rfl rfl (by omega) (q:=b.toNat) (by omega) ?_)))));refine Rg.LX (M:=M1) I3 rfl rfl ho (by omega) ⟨by show(-9223372036854775808:Int)≤_;omega,by show _≤(9223372036854775807:Int);omega⟩ (fun w6 uI s6=>?_);refine ab (ae (bG rfl rfl rfl (by omega) (ad rfl rfl (ab ?_))));refine⟨rfl,(k+1,xs.set b.toNat (k:Int)),(.cons rfl (.cons rfl (.cons rfl (.cons rfl (.cons rfl .nil))))),?_,?_⟩
      ·refine⟨by simp only;omega,⟨by simp only[eY];exact ru,fun j hj=>?_⟩,M1,s6.lt oy,uI,S.cf s6 (fun b hb=>by have hb:b=g:=hb;omega)⟩;simp only[aA,dp];by_cases e:b.toNat=j
       ·rw[if_pos e,if_pos (by omega)];exact .hit (by rw[hx];congr 2<;>omega)
       ·rw[if_neg e,←aA];exact .Rz hx (fun h=>by simp only[ej]at h;omega) (tS j hj)
      ·show o.length-(k+1)<o.length-k;omega
     ·refine aT (ae (bG rfl rfl rfl (by omega) (ad rfl rfl (ab ?_))));refine⟨rfl,(k+1,xs),(.cons rfl (.cons rfl (.cons rfl (.cons rfl (.cons rfl .nil))))),?_,?_⟩
      ·refine⟨by simp only;omega,⟨ru,fun j hj=> .Rz hx (fun h=>?_) (tS j hj)⟩,M1,oy,ho,S⟩;simp only[ej]at h
       first|omega|(simp_all;done)|(simp_all;omega)
      ·show o.length-(k+1)<o.length-k;omega
    ·refine aw rfl rfl rfl rfl (aw rfl rfl rfl rfl (aw rfl rfl rfl rfl (aw rfl rfl rfl rfl (aw rfl rfl rfl rfl (aE rfl rfl rfl (ab (jD rfl (aT (ae (bG rfl rfl rfl (by omega) (ad rfl rfl ?_)))))))))));refine ab ?_;refine⟨rfl,(k+1,xs),(.cons rfl (.cons rfl (.cons rfl (.cons rfl (.cons rfl .nil))))),?_,?_⟩
     ·refine⟨by simp only;omega,⟨ru,fun j hj=> .Rz hx (fun h=>?_) (tS j hj)⟩,M1,oy,ho,S⟩;simp only[ej]at h
      first|omega|(simp_all;done)|(simp_all;omega)
     ·show o.length-(k+1)<o.length-k;omega
   ·refine aw rfl rfl rfl rfl (aw rfl rfl rfl rfl (aw rfl rfl rfl rfl (aE rfl rfl rfl (ad rfl rfl (aw rfl rfl rfl rfl (aw rfl rfl rfl rfl (aw rfl rfl rfl rfl (aw rfl rfl rfl rfl (aw rfl rfl rfl rfl (aE rfl rfl rfl (ab ?_)))))))))));refine jD rfl (aT (ae (bG rfl rfl rfl (by omega) (ad rfl rfl (ab ?_)))));refine⟨rfl,(k+1,xs),(.cons rfl (.cons rfl (.cons rfl (.cons rfl (.cons rfl .nil))))),?_,?_⟩
    ·refine⟨by simp only;omega,⟨ru,fun j hj=> .Rz hx (fun h=>?_) (tS j hj)⟩,M1,oy,ho,S⟩;simp only[ej]at h
     first|omega|(simp_all;done)|(simp_all;omega)
    ·show o.length-(k+1)<o.length-k;omega
  ·refine cH (aj (ae (ad rfl rfl (ah rfl rfl (ab (aP ?_))))));obtain rfl:k=o.length:=by omega
   exact aV rfl rfl ⟨M1,xs,⟨ru,fun j hj=>(tS j hj).all⟩,ho,oy,S⟩
end Go.K
namespace Go.K
open Go.Proofs
set_option maxRecDepth 10000
theorem OP:Up [[1,4],[2]]:=by intro l hl;simp only[ca,dR,or_false]at hl;rcases hl with rfl|rfl<;>decide
theorem KB:rX [[1,4],[2]] (some [((1:Int),(0:Int),(0:Int)),(2,1,0),(4,0,1)]):=by
 refine⟨by decide,fun o ho=>?_,fun i k n ⟨l,h1,h2⟩=>?_⟩
 ·simp only[ca,dR,or_false]at ho;rcases ho with rfl|rfl|rfl
  ·exact⟨0,0,rfl,_,rfl,rfl⟩
  ·exact⟨1,0,rfl,_,rfl,rfl⟩
  ·exact⟨0,1,rfl,_,rfl,rfl⟩
 ·rcases i with _|_|i
  ·simp only[kW,dy]at h1;subst h1;rcases k with _|_|k
   ·simp at h2;subst h2;decide
   ·simp at h2;subst h2;decide
   ·simp at h2
  ·simp only[fR,List.getElem?_cons_succ,kW,dy]at h1;subst h1;rcases k with _|k
   ·simp at h2;subst h2;decide
   ·simp at h2
  ·simp at h1
end Go.K
namespace Go.K
open Go.Proofs
set_option maxRecDepth 10000
abbrev Gs:Type:=List (List En×List Bool)
def oX (g:Gs) (i d:Nat) (e:En):Prop:=∃L a,g[i]? =some (L,a)∧L[d]? =some e∧a[d]? =some true
theorem oX.un {g:Gs} {i d:Nat} {e e':En} (h:oX g i d e) (h':oX g i d e'):e=e':=by
 obtain⟨L,a,h1,h2,_⟩:=h;obtain⟨L',a',h3,h4,_⟩:=h';rw[h1]at h3;cases h3;rw[h2]at h4;exact aF h4
def tN (L:List En) (d:Int):Int:=(L.map (·.2)).getD d.toNat 0
def jb (g:Gs):List (List Int):=g.map fun p=>gz p.2
def kH (g:Gs):List (List Int):=g.map fun p=>(gz p.2).map (tN p.1)
def kI (g:Gs) (o:List Fo):List Fo:=o.map fun p=>(p.1,((jb g).getD p.1.toNat []).getD p.2.toNat 0)
def iW (g:Gs) (p:Fo):En:=(g.getD p.1.toNat ([],[])).1.getD p.2.toNat (((0:Int),[]),0)
def Jd (g:Gs):Prop:=∀p∈g,pR (-1) p.1=true∧p.2.length=p.1.length
theorem lh {l:List Bool} {d:Int}:d∈gz l↔∃k:Nat,d=k∧l[k]? =some true:=by
 unfold gz;rw[bV];constructor
 ·rintro⟨⟨b,k⟩,h,rfl⟩;obtain⟨h1,h2⟩:=fU.1 h;simp only at h2;subst h2;exact⟨k,rfl,List.mem_zipIdx_iff_getElem?.1 h1⟩
 ·rintro⟨k,rfl,h⟩;exact⟨(true,k),fU.2 ⟨List.mem_zipIdx_iff_getElem?.2 h,rfl⟩,rfl⟩
theorem uU (l:List Bool):(gz l).Pairwise (· < ·):=by
 unfold gz;refine cx.2 (vI AF ?_);have h:=List.pairwise_lt_range' (s:=0) (n:=l.length);rw[←List.zipIdx_map_snd 0 l]at h;exact(cx.1 h).imp fun h=>by omega
structure Mg (g:Gs) (os:List Fo) (E:List En):Prop where
 at_:∀(k:Nat) (p:Fo),os[k]? =some p→∃(i d:Nat) (e:En),p=((i:Int),(d:Int))∧E[k]? =some e∧oX g i d e
 len:E.length=os.length
 all:∀(i d:Nat) (e:En),oX g i d e→((i:Int),(d:Int))∈os
 up:E.Pairwise fun a b=>a.2<b.2
 nd:os.Nodup
theorem yt {g:Gs} (hg:Jd g) {i k:Nat} {n:Int} (h:Tr (kH g) i k n):∃(d:Nat) (e:En),oX g i d e∧((jb g).getD i []).getD k 0=(d:Int)∧n=e.2∧iW g ((i:Int),(d:Int))=e∧((jb g).getD i [])[k]? =some (d:Int):=by
 obtain⟨l,h1,h2⟩:=h;unfold kH at h1;rw[bj]at h1
 cases hi:g[i]? with
 |none=>rw[hi]at h1;simp at h1
 |some p=>
  rw[hi]at h1;obtain rfl:List.map (tN p.1) (gz p.2)=l:=by simpa using h1
  rw[bj]at h2
  cases hk:(gz p.2)[k]? with
  |none=>rw[hk]at h2;simp at h2
  |some d=>
   rw[hk]at h2;obtain rfl:tN p.1 d=n:=by simpa using h2
   obtain⟨m,rfl,hm⟩:=lh.1 (az hk);obtain⟨h3,h4⟩:=hg p (az hi);have qy:m<p.1.length:=by rw[←h4];exact(an.1 hm).1
   have RB:(jb g).getD i []=gz p.2:=by unfold jb;rw[aA,bj,hi];rfl
   refine⟨m,p.1[m],⟨p.1,p.2,hi,ar qy,hm⟩,?_,?_,?_,by rw[RB];exact hk⟩
   ·rw[RB,aA,hk];rfl
   ·unfold tN;rw[ay,aA,bj,ar qy];rfl
   ·have pH:g.getD i ([],[])=p:=by rw[aA,hi];rfl
    show(g.getD (i:Int).toNat ([],[])).1.getD (m:Int).toNat _=_;rw[ay,ay,pH,aA,ar qy];rfl
theorem abx {g:Gs} (hg:Jd g) {out:List Hd} (h:rX (kH g) (some out)):Mg g (kI g (ed out)) ((kI g (ed out)).map (iW g)):=by
 obtain⟨h1,h2,h3⟩:=h
 have key:∀(k:Nat) (o:Hd),out[k]? =some o→∃(i d:Nat) (e:En) (q:Nat),o=(e.2,(i:Int),(q:Int))∧(kI g (ed out))[k]? =some ((i:Int),(d:Int))∧oX g i d e∧iW g ((i:Int),(d:Int))=e∧((jb g).getD i [])[q]? =some (d:Int):=fun k o ho=>by
  obtain⟨i,q,e1,e2⟩:=h2 o (az ho);obtain⟨d,e,a1,a2,a3,a4,a5⟩:=yt hg e2;refine⟨i,d,e,q,by rw[e1,a3],?_,a1,a4,a5⟩;unfold kI ed;rw[bj,bj,ho,e1];show some (((i:Int),((jb g).getD (i:Int).toNat []).getD (q:Int).toNat 0))=_;rw[ay,ay,a2]
 have hlen:(kI g (ed out)).length=out.length:=by unfold kI ed;rw[aH,aH]
 have get:∀(k:Nat) (p:Fo),(kI g (ed out))[k]? =some p→∃o,out[k]? =some o:=fun k p hp=>⟨_,ar (by rw[←hlen];exact(an.1 hp).1)⟩
 have aby:((kI g (ed out)).map (iW g)).Pairwise fun a b=>a.2<b.2:=by
  rw[cn];intro a b ha hb Yu;have la:a<out.length:=by rw[aH,hlen]at ha;exact ha
  have lb:b<out.length:=by rw[aH,hlen]at hb;exact hb
  obtain⟨i,d,e,q,o1,o2,o3,o4,_⟩:=key a _ (ar la);obtain⟨i',d',e',q',p1,p2,p3,p4,_⟩:=key b _ (ar lb);have dY:=(cn.1 h1) a b la lb Yu;rw[o1,p1]at dY;have f1:((kI g (ed out)).map (iW g))[a]? =some e:=by rw[bj,o2,cY,o4]
  have f2:((kI g (ed out)).map (iW g))[b]? =some e':=by rw[bj,p2,cY,p4]
  rw[(an.1 f1).2,(an.1 f2).2];exact dY
 refine⟨fun k p hp=>?_,by rw[aH],fun i d e hl=>?_,aby,?_⟩
 ·obtain⟨o,ho⟩:=get k p hp;obtain⟨i,d,e,q,_,a2,a3,a4,_⟩:=key k o ho;rw[hp]at a2;obtain rfl:=aF a2;exact⟨i,d,e,rfl,by rw[bj,hp,cY,a4],a3⟩
 ·obtain⟨L,a,b1,b2,b3⟩:=hl;have hm:(d:Int)∈gz a:=lh.2 ⟨d,rfl,b3⟩;obtain⟨q,hq⟩:=bz.1 hm;have ht:Tr (kH g) i q (tN L d):=⟨(gz a).map (tN L),by unfold kH;rw[bj,b1];rfl,by rw[bj,hq];rfl⟩;have kE:=h3 i q _ ht;obtain⟨k,hk⟩:=bz.1 kE;obtain⟨i',d',e',q',c1,c2,c3,c4,c5⟩:=key k _ hk;simp only[ej]at c1;obtain rfl:i=i':=by omega
  obtain rfl:q=q':=by omega
  have RB:(jb g).getD i []=gz a:=by unfold jb;rw[aA,bj,b1];rfl
  rw[RB,hq]at c5;rw[aF c5];exact az c2
 ·have h5:(kI g (ed out)).Pairwise fun a b=>(iW g a).2<(iW g b).2:=(cx (f:=iW g) (R:=fun(a b:En)=>a.2<b.2)).1 aby
  exact h5.imp fun h e=>by subst e;omega
theorem Mg.un {g:Gs} {os:List Fo} {E:List En} (h:Mg g os E) {k k':Nat} {p:Fo} (h1:os[k]? =some p) (h2:os[k']? =some p):k=k':=by
 obtain⟨a1,a2⟩:=an.1 h1;obtain⟨b1,b2⟩:=an.1 h2;exact(List.getElem_inj (h₀:=a1) (h₁:=b1) h.nd).1 (a2.trans b2.symm)
theorem rK:∀{L:List En} {last:Int},pR last L=true→∀e∈L,last<e.2∧l6 e.1=0
 |[],_,_,e,h=>by cases h
 |x::L,last,h,e,he=>by
  simp only[pR,bX,decide_eq_true_eq]at h
  have hx:last<x.2∧l6 x.1=0:=by
   refine⟨(wL h.1).2,?_⟩;have:=h.1;unfold nw at this
   split at this
   ·rename_i h1;exact absurd this h1
   ·rename_i h1;simpa using h1
  rcases ca.1 he with rfl|he
  ·exact hx
  ·have:=rK h.2 e he;exact⟨by omega,this.2⟩
theorem CX:∀{L:List En} {last:Int},(∀e∈L,last<e.2∧l6 e.1=0)→L.Pairwise (fun a b=>a.2<b.2)→pR last L=true
 |[],_,_,_=>rfl
 |x::L,last,h,hp=>by
  obtain⟨h1,h2⟩:=h x (bH ..);have PI:=eC.1 hp;simp only[pR,bX,decide_eq_true_eq];refine⟨?_,CX (fun e he=>⟨PI.1 e he,(h e (b9 _ he)).2⟩) PI.2⟩;unfold nw;rw[if_neg (by rw[h2];simp),if_neg (by omega)]
theorem lj:∀{L:List En} {last:Int},pR last L=true→L.Pairwise fun a b=>a.2<b.2
 |[],_,_=>List.Pairwise.nil
 |x::L,last,h=>by
  simp only[pR,bX,decide_eq_true_eq]at h;exact eC.2 ⟨fun e he=>(rK h.2 e he).1,lj h.2⟩
theorem Mg.mem {g:Gs} {os:List Fo} {E:List En} (h:Mg g os E) {e:En}:e∈E↔∃i d,oX g i d e:=by
 constructor
 ·intro he;obtain⟨k,hk⟩:=bz.1 he;obtain⟨i,d,e',_,h2,h3⟩:=h.at_ k _ (ar (by rw[←h.len];exact(an.1 hk).1));rw[hk]at h2;cases h2;exact⟨i,d,h3⟩
 ·rintro⟨i,d,hl⟩;obtain⟨k,hk⟩:=bz.1 (h.all i d e hl);obtain⟨i',d',e',h1,h2,h3⟩:=h.at_ k _ hk;simp only[ej]at h1;obtain rfl:i=i':=by omega
  obtain rfl:d=d':=by omega
  rw[hl.un h3];exact az h2
theorem oX.ok {g:Gs} (hg:Jd g) {i d:Nat} {e:En} (h:oX g i d e): -1<e.2∧l6 e.1=0:=by
 obtain⟨L,a,h1,h2,_⟩:=h;exact rK (hg _ (az h1)).1 e (az h2)
theorem Mg.ok {g:Gs} (hg:Jd g) {os:List Fo} {E:List En} (h:Mg g os E):pR (-1) E=true:=
 CX (fun e he=>by obtain⟨i,d,hl⟩:=h.mem.1 he;exact hl.ok hg) h.up
theorem CY {E E':List En} (h:E.Pairwise fun a b=>a.2<b.2) (h':E'.Pairwise fun a b=>a.2<b.2) (hm:∀e,e∈E↔e∈E'):E=E':=
 uL (fun a b h1 h2=>by omega) h h' (h.imp fun h e=>by subst e;omega) (h'.imp fun h e=>by subst e;omega) hm
theorem RC {i:Nat} {tl:List (Fd×Nat)} {k:List UInt8} {q:Po}:q∈Gi i tl k↔∃t∈dj tl,gL t=k∧q=((i:Int),posOf tl t):=by
 unfold Gi;rw[bV];constructor
 ·rintro⟨t,ht,rfl⟩;obtain⟨h1,h2⟩:=fU.1 ht;exact⟨t,h1,by simpa using h2,rfl⟩
 ·rintro⟨t,h1,h2,rfl⟩;exact⟨t,fU.2 ⟨h1,by simpa using h2⟩,rfl⟩
theorem Je {k:List UInt8} {q:Po}:∀{L:List En} {i:Nat},q∈Dy k i L↔∃(d:Nat) (e:En),L[d]? =some e∧q∈Gi (i+d) (qe e) k
 |[],i=>by simp[Dy]
 |x::L,i=>by
  simp only[Dy,cr,Je (L:=L)];constructor
  ·rintro(h|⟨d,e,h1,h2⟩)
   ·exact⟨0,x,rfl,h⟩
   ·exact⟨d+1,e,by simpa using h1,by rw[show i+(d+1)=i+1+d from by omega];exact h2⟩
  ·rintro⟨d,e,h1,h2⟩
   cases d with
   |zero=>simp at h1;subst h1;exact .inl h2
   |succ d=>exact .inr ⟨d,e,by simpa using h1,by rw[show i+1+d=i+(d+1)from by omega];exact h2⟩
theorem Ai {L:List En} {k:List UInt8} {q:Po}:q∈pk L k↔∃(d:Nat) (e:En),L[d]? =some e∧∃t∈dj (qe e),gL t=k∧q=((d:Int),posOf (qe e) t):=by
 unfold pk;rw[Je];simp only[fR,RC]
theorem Fu:∀{l:List Po} {last:Int},fN last l=true→l.Pairwise (fun a b=>a.1<b.1)∧∀p∈l,last<p.1
 |[],_,_=>⟨List.Pairwise.nil,fun p h=>by cases h⟩
 |(d,ps)::l,last,h=>by
  simp only[fN,bX,decide_eq_true_eq]at h;obtain⟨⟨⟨⟨h1,h2⟩,h3⟩,h4⟩,h5⟩:=h;obtain⟨h6,h7⟩:=Fu h5;refine⟨eC.2 ⟨h7,h6⟩,fun p hp=>?_⟩;rcases ca.1 hp with rfl|hp
  ·exact h1
  ·have:=h7 p hp;omega
theorem OQ {L:List En} (h:pR (-1) L=true) (hn:L.length≤1000000) (k:List UInt8):(pk L k).Pairwise fun a b=>a.1<b.1:=
 (Fu (uQ k L 0 (-1) (kF h) (by omega) (by omega))).1
def ll (to:List Int) (l:List Po):List Po:=l.filterMap fun p=>if 0≤to.getD p.1.toNat 0 then some (to.getD p.1.toNat 0,p.2)else none
theorem Aj (to:List Int) (l:List Po) (p:Po):ll to (l++[p])=if 0≤to.getD p.1.toNat 0 then ll to l++[(to.getD p.1.toNat 0,p.2)]else ll to l:=by
 unfold ll;rw[List.filterMap_append]
 split
 ·rename_i h;rw[List.filterMap_cons,if_pos h];rfl
 ·rename_i h;rw[List.filterMap_cons,if_neg h];simp
theorem tO (to:List Int) (l:List Po):(ll to l).length≤l.length:=List.length_filterMap_le _ _
def Fv (g:Gs) (os:List Fo) (tos:List (List Int)):Prop:=tos.length=g.length∧∀(i:Nat) (p:List En×List Bool),g[i]? =some p→Plc os i p.1.length (tos.getD i [])
def ya (g:Gs) (tos:List (List Int)) (k:List UInt8) (n:Nat):List Po:=(List.range n).flatMap fun i=>ll (tos.getD i []) (pk (g.getD i ([],[])).1 k)
theorem wO (g:Gs) (tos:List (List Int)) (k:List UInt8) (n:Nat):ya g tos k (n+1)=ya g tos k n++ll (tos.getD n []) (pk (g.getD n ([],[])).1 k):=by
 unfold ya;rw[List.range_succ,List.flatMap_append];simp
section
variable {g:Gs} {os:List Fo} {E:List En} {tos:List (List Int)} {k:List UInt8}
theorem Ak (hm:Mg g os E) (ht:Fv g os tos) {i:Nat} (hi:i<g.length) {q:Po}:q∈ll (tos.getD i []) (pk (g.getD i ([],[])).1 k)↔∃(d n:Nat) (e:En),os[n]? =some ((i:Int),(d:Int))∧E[n]? =some e∧∃t∈dj (qe e),gL t=k∧q=((n:Int),posOf (qe e) t):=by
 have l8:g[i]? =some g[i]:=ar hi;obtain⟨hl,hp⟩:=ht.2 i _ l8;have pH:g.getD i ([],[])=g[i]:=by rw[aA,l8];rfl
 rw[pH];unfold ll;rw[List.mem_filterMap];constructor
 ·rintro⟨p,h1,h2⟩;obtain⟨d,e,hd,t,Tj,JX,rfl⟩:=Ai.1 h1;simp only[ay]at h2
  split at h2
  ·rename_i h3
   have h2:=aF h2;rcases hp d (an.1 hd).1 with⟨h4,_⟩|⟨n,h4,h5⟩
   ·omega
   ·obtain⟨i',d',e',a1,a2,a3⟩:=hm.at_ n _ h5;simp only[ej]at a1;obtain rfl:i=i':=by omega
    obtain rfl:d=d':=by omega
    obtain⟨L,a,b1,b2,_⟩:=a3;rw[l8]at b1;have b1:=aF b1;rw[b1]at hd;rw[hd]at b2;obtain rfl:=aF b2;exact⟨d,n,e,h5,a2,t,Tj,JX,by rw[←h2,h4]⟩
  ·cases h2
 ·rintro⟨d,n,e,h1,h2,t,Tj,JX,rfl⟩;obtain⟨i',d',e',a1,a2,a3⟩:=hm.at_ n _ h1;simp only[ej]at a1;obtain rfl:i=i':=by omega
  obtain rfl:d=d':=by omega
  rw[h2]at a2;obtain rfl:=aF a2;obtain⟨L,a,b1,b2,_⟩:=a3;rw[l8]at b1;have b1:=aF b1;refine⟨((d:Int),posOf (qe e) t),Ai.2 ⟨d,e,by rw[b1];exact b2,t,Tj,JX,rfl⟩,?_⟩;have hd:d<g[i].1.length:=by rw[b1];exact(an.1 b2).1
  simp only[ay];rcases hp d hd with⟨h4,h5⟩|⟨n',h4,h5⟩
  ·exact absurd (az h1) h5
  ·obtain rfl:=hm.un h1 h5;rw[h4,if_pos (by omega)]
theorem OR (hg:Jd g) (hn:∀p∈g,p.1.length≤1000000) (hm:Mg g os E) (ht:Fv g os tos) {i:Nat} (hi:i<g.length):(ll (tos.getD i []) (pk (g.getD i ([],[])).1 k)).Pairwise fun a b=>a.1≠b.1:=by
 have l8:g[i]? =some g[i]:=ar hi;obtain⟨hl,hp⟩:=ht.2 i _ l8;have pH:g.getD i ([],[])=g[i]:=by rw[aA,l8];rfl
 rw[pH];unfold ll;have hu:=OQ (hg _ (az l8)).1 (hn _ (az l8)) k;refine List.pairwise_filterMap.2 (hu.imp_of_mem fun {a b} ha hb Yu x hx y hy=>?_);obtain⟨d,e,hd,_,_,_,rfl⟩:=Ai.1 ha;obtain⟨d',e',PN,_,_,_,rfl⟩:=Ai.1 hb;simp only[ay]at hx hy Yu
 split at hx
 ·split at hy
  ·obtain rfl:=aF hx;obtain rfl:=aF hy;simp only;rcases hp d (an.1 hd).1 with⟨h4,_⟩|⟨n,h4,h5⟩
   ·omega
   ·rcases hp d' (an.1 PN).1 with⟨h6,_⟩|⟨n',h6,h7⟩
    ·omega
    ·intro e;rw[h4,h6]at e;obtain rfl:n=n':=by omega
     rw[h5]at h7;have:=congrArg Prod.snd (aF h7);simp only at this;omega
  ·cases hy
 ·cases hx
theorem Fw (hm:Mg g os E) (ht:Fv g os tos) {n:Nat} (hn:n≤g.length) {q:Po}:q∈ya g tos k n↔∃(i d m:Nat) (e:En),i<n∧os[m]? =some ((i:Int),(d:Int))∧E[m]? =some e∧∃t∈dj (qe e),gL t=k∧q=((m:Int),posOf (qe e) t):=by
 unfold ya;rw[vN];constructor
 ·rintro⟨i,hi,h⟩;have hi:=tj.1 hi;obtain⟨d,m,e,h1,h2,h3⟩:=(Ak hm ht (by omega)).1 h;exact⟨i,d,m,e,hi,h1,h2,h3⟩
 ·rintro⟨i,d,m,e,hi,h1,h2,h3⟩;exact⟨i,tj.2 hi,(Ak hm ht (by omega)).2 ⟨d,m,e,h1,h2,h3⟩⟩
theorem yu (hg:Jd g) (hl:∀p∈g,p.1.length≤1000000) (hm:Mg g os E) (ht:Fv g os tos):∀{n:Nat},n≤g.length→(ya g tos k n).Pairwise fun a b=>a.1≠b.1
 |0,_=>List.Pairwise.nil
 |n+1,hn=>by
  rw[wO];refine iP.2 ⟨yu hg hl hm ht (by omega),OR hg hl hm ht (by omega),fun a ha b hb e=>?_⟩;obtain⟨i,d,m,e1,hi,h1,_,_,_,_,rfl⟩:=(Fw hm ht (by omega)).1 ha;obtain⟨d',m',e2,h2,_,_,_,_,rfl⟩:=(Ak hm ht (by omega)).1 hb;simp only at e;obtain rfl:m=m':=by omega
  rw[h1]at h2;have:=congrArg Prod.fst (aF h2);simp only at this;omega
theorem OS (hm:Mg g os E) (ht:Fv g os tos) {q:Po}:q∈ya g tos k g.length↔q∈pk E k:=by
 rw[Fw hm ht (aR _),Ai];constructor
 ·rintro⟨i,d,m,e,_,_,h2,h3⟩;exact⟨m,e,h2,h3⟩
 ·rintro⟨m,e,h1,h2⟩;obtain⟨i,d,e',a1,a2,L,a,a3,_⟩:=hm.at_ m _ (ar (by rw[←hm.len];exact(an.1 h1).1));exact⟨i,d,m,e,(an.1 a3).1,by rw[←a1];exact ar _,h1,h2⟩
theorem wR (hg:Jd g) (hl:∀p∈g,p.1.length≤1000000) (hE:E.length≤1000000) (hm:Mg g os E) (ht:Fv g os tos):(ya g tos k g.length).Perm (pk E k):=
 (List.perm_ext_iff_of_nodup ((yu hg hl hm ht (aR _)).imp fun h e=>h (by rw[e])) ((OQ (hm.ok hg) hE k).imp fun h e=>by subst e;omega)).2 fun _=>OS hm ht
theorem Fx (hg:Jd g) (hl:∀p∈g,p.1.length≤1000000) (hE:E.length≤1000000) (hm:Mg g os E) (ht:Fv g os tos) {s:List Po} (hs:s.Perm (ya g tos k g.length)) (hp:s.Pairwise fun a b=>a.1≤b.1):s=pk E k:=by
 have hu:=OQ (hm.ok hg) hE k;have o6:=yu hg hl hm ht (k:=k) (aR _);refine List.Perm.eq_of_pairwise (le:=fun a b=>a.1≤b.1) (fun a b ha hb h1 h2=>?_) hp (hu.imp fun h=>by omega) (hs.trans (wR hg hl hE hm ht));have rR:=(hs.trans (wR hg hl hE hm ht)).mem_iff.1 ha;obtain⟨i,hi⟩:=xO.1 rR;obtain⟨j,hj⟩:=xO.1 hb;obtain⟨hi,rfl⟩:=hi;obtain⟨hj,rfl⟩:=hj;rcases eR i j with h|h|h
 ·have:=(cn.1 hu) i j hi hj h;omega
 ·subst h;rfl
 ·have:=(cn.1 hu) j i hj hi h;omega
theorem KC (hm:Mg g os E) {J:List (List UInt8)} (hJ:EH J) (kE:∀x,x∈J↔∃p∈g,x∈keysOf p.1):J.filter (fun k=> !(pk E k).isEmpty)=keysOf E:=by
 have jM:∀x,pk E x≠[]↔x∈iO E:=fun x=>⟨fun h=>Classical.byContradiction fun hn=>h (CK 0 hn),fun h=>Hp 0 h⟩
 have hu:EH (J.filter fun k=> !(pk E k).isEmpty):=vI AF hJ;refine uL (R:=fun a b=>a<b) (fun a b h1 h2=>absurd h2 (ja h1)) hu (lv E) hu.nodup (lv E).nodup fun x=> ?_
 rw[fU,jA,←jM];constructor
 ·rintro⟨_,h⟩ e;rw[e]at h;simp at h
 ·intro h
  refine⟨(kE x).2 ?_,by cases hx:pk E x with
   |nil=>exact absurd hx h
   |cons a b=>rfl⟩
  have h2:=(jM x).1 h;unfold iO at h2;obtain⟨e,he,h3⟩:=vN.1 h2;obtain⟨i,d,L,a,a1,a2,_⟩:=hm.mem.1 he;exact⟨(L,a),az a1,jA.2 (vN.2 ⟨e,az a2,h3⟩)⟩
end
end Go.K
namespace Go.K
open Go.Proofs
set_option maxRecDepth 10000
def Fy (g:Gs):Prop:=∃(i d i' d':Nat) (e e':En),oX g i d e∧oX g i' d' e'∧¬(i=i'∧d=d')∧e.2=e'.2
theorem OT {g:List En} (hu:g.Pairwise fun a b=>a.2<b.2) {i i':Nat} {e e':En} (h:g[i]? =some e) (h':g[i']? =some e') (he:e.2=e'.2):i=i':=by
 obtain⟨p1,p2⟩:=an.1 h;obtain⟨q1,q2⟩:=an.1 h';have hp:=cn.1 hu;rcases eR i i' with hl|hl|hl
 ·have:=hp i i' p1 q1 hl;rw[p2,q2]at this;omega
 ·exact hl
 ·have:=hp i' i q1 p1 hl;rw[p2,q2]at this;omega
def Fz (Z:List (En×Bool)):List En:=(Z.filter (·.2)).map (·.1)
theorem FA {L:List En} {a:List Bool} {e:En}:e∈Fz (L.zip a)↔∃d:Nat,L[d]? =some e∧a[d]? =some true:=by
 unfold Fz;rw[bV];constructor
 ·rintro⟨⟨x,b⟩,h,rfl⟩;obtain⟨h1,h2⟩:=fU.1 h;simp only at h2;subst h2;obtain⟨d,hd⟩:=bz.1 h1;rw[List.getElem?_zip_eq_some]at hd;exact⟨d,hd.1,hd.2⟩
 ·rintro⟨d,h1,h2⟩;exact⟨(e,true),fU.2 ⟨az (i:=d) (List.getElem?_zip_eq_some.2 ⟨h1,h2⟩),rfl⟩,rfl⟩
theorem CZ {L:List En} {a:List Bool} (h:L.Pairwise fun x y=>x.2<y.2):(Fz (L.zip a)).Pairwise fun x y=>x.2<y.2:=by
 unfold Fz;refine cx.2 (vI AF ?_);rw[cn]at h ⊢;intro i j hi hj jq;rw[List.getElem_zip,List.getElem_zip];exact h i j (by rw[List.length_zip]at hi;omega) (by rw[List.length_zip]at hj;omega) jq
def xE (Ls:List (List En)):Gs:=Ls.map fun L=>(L,List.replicate L.length true)
theorem abz {Ls:List (List En)} {i d:Nat} {e:En}:oX (xE Ls) i d e↔∃L,Ls[i]? =some L∧L[d]? =some e:=by
 unfold xE;constructor
 ·rintro⟨L',a',h1,h2,h3⟩;rw[bj]at h1
  cases hi:Ls[i]? with
  |none=>rw[hi]at h1;simp at h1
  |some L=>rw[hi]at h1;simp only[cY,dy,ej]at h1;obtain⟨rfl,_⟩:=h1;exact⟨_,rfl,h2⟩
 ·rintro⟨L,h1,h2⟩;exact⟨L,_,by rw[bj,h1];rfl,h2,by rw[kY,if_pos (an.1 h2).1]⟩
theorem RD {Ls:List (List En)} {os:List Fo} {E:List En} (h:Mg (xE Ls) os E) {e:En}:e∈E↔∃L∈Ls,e∈L:=by
 rw[h.mem];constructor
 ·rintro⟨i,d,hl⟩;obtain⟨L,h1,h2⟩:=abz.1 hl;exact⟨L,az h1,az h2⟩
 ·rintro⟨L,h1,h2⟩;obtain⟨i,hi⟩:=bz.1 h1;obtain⟨d,hd⟩:=bz.1 h2;exact⟨i,d,abz.2 ⟨L,hi,hd⟩⟩
theorem TT {Ls:List (List En)} (h:∀L∈Ls,pR (-1) L=true):Jd (xE Ls):=fun p hp=>by
 unfold xE at hp;obtain⟨L,hL,rfl⟩:=bV.1 hp;exact⟨h L hL,by simp⟩
theorem B0 {g:Gs} (h:((g.map (·.1)).flatten).Pairwise fun x y=>x.2≠y.2): ¬Fy g:=by
 rintro⟨i,d,i',d',e,e',⟨L,a,h1,h2,_⟩,⟨L',a',h3,h4,_⟩,eN,heq⟩;rw[List.pairwise_flatten]at h;obtain⟨ha,hb⟩:=h;have g1:(g.map (·.1))[i]? =some L:=by rw[bj,h1];rfl
 have g3:(g.map (·.1))[i']? =some L':=by rw[bj,h3];rfl
 obtain⟨p1,p2⟩:=an.1 g1;obtain⟨q1,q2⟩:=an.1 g3;rcases eR i i' with dY|rfl|dY
 ·have:=cn.1 hb i i' p1 q1 dY;rw[p2,q2]at this;exact this e (az h2) e' (az h4) heq
 ·rw[h1]at h3;cases h3;have hl:=ha L (az g1);obtain⟨r1,r2⟩:=an.1 h2;obtain⟨s1,s2⟩:=an.1 h4;rcases eR d d' with h|h|h
  ·have:=cn.1 hl d d' r1 s1 h;rw[r2,s2]at this;exact this heq
  ·exact eN ⟨rfl,h⟩
  ·have:=cn.1 hl d' d s1 r1 h;rw[r2,s2]at this;exact this heq.symm
 ·have:=cn.1 hb i' i q1 p1 dY;rw[p2,q2]at this;exact this e' (az h4) e (az h2) heq.symm
theorem WY {L:List En} {a:List Bool} (hu:L.Pairwise fun x y=>x.2<y.2): ¬Fy [(L,a)]:=B0 (by
 show(List.flatten [L]).Pairwise _;rw[List.flatten_cons,List.flatten_nil,fT];exact hu.imp fun h e=>by omega)
def uV (g:List En) (kof:Nat→Nat) (j:Nat):Nat→List En
 |0=>[]
 |n+1=>uV g kof j n++if kof n=j then(g[n]?).toList else[]
section
variable {g:List En} {kof:Nat→Nat} {j:Nat}
theorem jj {e:En}:∀{n:Nat},e∈uV g kof j n↔∃i,i<n∧kof i=j∧g[i]? =some e
 |0=>by simp[uV]
 |n+1=>by
  rw[uV,cr,jj];constructor
  ·rintro(⟨i,h1,h2,h3⟩|h)
   ·exact⟨i,by omega,h2,h3⟩
   ·split at h
    ·rename_i hk;exact⟨n,by omega,hk,by simpa using h⟩
    ·cases h
  ·rintro⟨i,h1,h2,h3⟩;rcases cE i n with h|h
   ·exact .inl ⟨i,h,h2,h3⟩
   ·obtain rfl:i=n:=by omega
    refine .inr ?_;rw[if_pos h2,h3];simp
theorem C0 (hu:g.Pairwise fun a b=>a.2<b.2):∀n,(uV g kof j n).Pairwise fun a b=>a.2<b.2
 |0=>List.Pairwise.nil
 |n+1=>by
  rw[uV];refine iP.2 ⟨C0 hu n,?_,fun a ha b hb=>?_⟩
  ·split
   ·cases g[n]? <;>simp
   ·exact .nil
  ·obtain⟨i,h1,h2,h3⟩:=jj.1 ha
   split at hb
   ·have hb:g[n]? =some b:=by simpa using hb
    obtain⟨p1,p2⟩:=an.1 h3;obtain⟨q1,q2⟩:=an.1 hb;rw[←p2,←q2];exact(cn.1 hu) i n p1 q1 h1
   ·cases hb
theorem OU (h:pR (-1) g=true) (n:Nat):pR (-1) (uV g kof j n)=true:=
 CX (fun e he=>by obtain⟨i,_,_,h3⟩:=jj.1 he;exact rK h e (az h3)) (C0 (lj h) n)
theorem rL:∀n,(uV g kof j n).length≤n
 |0=>aR _
 |n+1=>by
  have:=rL n;rw[uV,a8]
  split
  ·cases g[n]? <;>simp<;>omega
  ·simp;omega
end
def yv (g:List En) (kof:Nat→Nat) (m:Nat):List (List En):=(List.range m).map fun j=>uV g kof j g.length
theorem Jf {g:List En} {kof:Nat→Nat} {m j:Nat} (h:j<m):(yv g kof m)[j]? =some (uV g kof j g.length):=by
 unfold yv;rw[bj,List.getElem?_range h];rfl
theorem FB {g:List En} {kof:Nat→Nat} (hu:g.Pairwise fun a b=>a.2<b.2) (js:List Nat) (hj:js.Nodup):(js.map fun j=>uV g kof j g.length).flatten.Pairwise fun x y=>x.2≠y.2:=by
 rw[List.pairwise_flatten];refine⟨fun l hl=>?_,?_⟩
 ·obtain⟨j,_,rfl⟩:=bV.1 hl;exact(C0 hu _).imp fun h e=>by omega
 ·rw[cx]
  exact hj.imp fun eN x hx y hy e=>by
   obtain⟨i,_,h2,h3⟩:=jj.1 hx;obtain⟨i',_,xT,X9⟩:=jj.1 hy;have:=OT hu h3 X9 e;subst this;omega
theorem RE {g:List En} {kof:Nat→Nat} {m:Nat} (hk:∀i,kof i<m) {e:En}:(∃L∈yv g kof m,e∈L)↔e∈g:=by
 unfold yv;constructor
 ·rintro⟨L,h1,h2⟩;obtain⟨j,_,rfl⟩:=bV.1 h1;obtain⟨i,_,_,h3⟩:=jj.1 h2;exact az h3
 ·intro h;obtain⟨i,hi⟩:=bz.1 h;exact⟨_,bV.2 ⟨kof i,tj.2 (hk i),rfl⟩,jj.2 ⟨i,(an.1 hi).1,rfl,hi⟩⟩
def fX (to:List Int) (m:Nat) (i:Nat):Nat:=((if to.getD i 0<0 then-(to.getD i 0+1)else to.getD i 0)%(m:Int)).toNat
theorem Jg {to:List Int} {m:Nat} (hm:0<m) (i:Nat):fX to m i<m:=by
 unfold fX;have h1:=Int.emod_nonneg (if to.getD i 0<0 then-(to.getD i 0+1)else to.getD i 0) (show(m:Int)≠0 by omega);have h2:=Int.emod_lt_of_pos (if to.getD i 0<0 then-(to.getD i 0+1)else to.getD i 0) (show 0<(m:Int) by omega);omega
end Go.K
namespace Go.K
theorem Own.RF {α:Type} {A:RT α} (hA:A5 A) {e:TypeId} {M:aD} {w:World} {base:Nat} {v:Value} {xs:List α} (h:Own A e M w base v xs) {M':aD} (hm:∀b,v.ownBlock=some b→M' b):Own A e M' w base v xs:=by
 obtain⟨⟨C,h1,h2⟩,_⟩:=h;exact⟨⟨C,h1,h2.Rw hA⟩,hm⟩
theorem Own.abA {α:Type} {A:RT α} (hA:A5 A) {e:TypeId} {N:aD} {w w':World} {base:Nat} {v:Value} {xs:List α} (h:Own A e allM w base v xs) (s:Step allM w allM w' N) (hn:∀b,v.ownBlock=some b→¬N b):Own A e allM w' base v xs:=by
 obtain⟨⟨C,h1,h2⟩,_⟩:=h;refine⟨⟨C,⟨h1.1,?_⟩,h2.Rw hA⟩,fun _ _=>trivial⟩;rcases h1.2 with h3|⟨g,cap,cur,h3,h4,h5,h6,h7,h8⟩
 ·exact .inl h3
 ·exact .inr ⟨g,cap,cur,h3,h4,by rw[s.same g (ak h5) (hn g (by rw[h3];rfl))];exact h5,h6,h7,h8⟩
theorem Own.TU {α:Type} {A:RT α} (hA:A5 A) {e:TypeId} {M:aD} {w:World} {base:Nat} {v:Value} {xs:List α} (h:Own A e M w base v xs):Own A e (nt v) w base v xs:=h.RF hA fun _ h=>h
theorem Own.TV {α:Type} {A:RT α} (hA:A5 A) {e:TypeId} {M M' N:aD} {w w':World} {base:Nat} {v:Value} {xs:List α} (h:Own A e (nt v) w base v xs) (s:Step M w M' w' N) (hn:∀c,v.ownBlock=some c→¬N c):Own A e (nt v) w' base v xs:=
 ((h.RF hA (M':=allM) (fun _ _=>trivial)).abA hA s.all hn).TU hA
end Go.K
namespace Go.K
variable {P:Program} {r:Option Nat} {n:Nat} {L:Sl} {ds:List Deferred} {w:World} {K:Kt} {ops:Array Oper} {rest:List Oper} {d:Nat} {x y:Operand} {ty:TypeId} {pos:String} {af:Array Edge} {α:Type} {A:RT α}
theorem Own.KD {e:TypeId} {M:aD} {base:Nat} {u v:Value} {xs:List α} (h:Own A e M w base u xs) (tU:∀b,u.ownBlock=some b→v.ownBlock≠some b):Own A e (rm M v) w base u xs:=by
 obtain⟨⟨C,hr,ha⟩,hm⟩:=h;exact⟨⟨C,hr,ha.le (eO M v w)⟩,fun b hb=>⟨hm b hb,tU b hb⟩⟩
theorem Rg.WZ {t e:TypeId} {zv:Value} {bytes:Nat} {M:aD} {base g len cap j:Nat} {xs:List α} {a:α} {v:Value} (hA:A.n=1∧A.agg=false) (hi:TI P t zv 1 bytes) (hx:ev L x=some (.pointer (some ⟨g,j,none⟩))) (hy:ev L y=some v) (h:Own A e M w base (.slice (some ⟨g,0,none⟩) len cap) xs) (hj:j<xs.length) (hv:A.V M w a v)
  (k:∀w',Own A e M w' base (.slice (some ⟨g,0,none⟩) len cap) (xs.set j a)→Step M w M w' (fun k=>k=g)→Rg P r n ops rest L ds w' K):
  Rg P r n ops ({dst:=none,op:= .store t x y,type:=ty,pos,after:=af,guard:=none}::rest) L ds w K:=by
 obtain⟨vs,jd,hvv⟩:=hv;have hl:=A.len jd;rw[hA.1]at hl
 obtain⟨u,rfl⟩:∃u,vs=[u]:=by
  match vs,hl with
  |[u],_=>exact⟨u,rfl⟩
 have hvu:v=u:=by rw[hvv];unfold RT.val;rw[hA.2];rfl
 subst hvu;have h1:=A.one jd v (by simp);obtain⟨w',UR,ho,hs⟩:=h.setCells hj jd;obtain⟨⟨C,hr,_⟩,hm⟩:=h;rcases hr.2 with⟨h2,_⟩|⟨g',yH,cur,h2,_,h3,h4,h5,h6,h7⟩
 ·cases h2
 ·simp only[fY,dy,om]at h2;obtain⟨⟨rfl,_⟩,rfl,rfl⟩:=h2;rw[hA.1]at h6 UR;refine .Sj (fun _ h=>by cases h) rfl rfl w' (fun ρ hρ=>?_) (k w' ho hs);subst UR;simp only[execOp,hρ x _ hx,hρ y _ hy];have:=nR (P:=P) hi (w:=w) (b:=g) (o:=j) (v:=v) h1 (by rw[fG h3 (v:=cur[j]'(by omega)) (by simp)];rfl) (by simp[World.frozen?,h3]);simp[this,World.setCells]
theorem Rg.aiR {t e:TypeId} {zv v:Value} {bytes:Nat} {M:aD} (ht:P.underlying t=some (.slice e)) (hi:TI P e zv 1 bytes) (hx:ev L x=some v) (hd:Nat.blt d n=true) (hc:v.cells= #[v])
  (k:∀g w',w.heap.size≤g→w'.heap[g]? =some (.cells #[v] e (0,0))→Step M w M w' aC→Rg P r n ops rest ((d,.slice (some ⟨g,0,none⟩) 1 1)::L) ds w' K):
  Rg P r n ops ({dst:=some d,op:= .buildSlice t 1 #[(0,x)],type:=ty,pos,after:=af,guard:=none}::rest) L ds w K:=by
 obtain⟨i,yi,AG,hi3,YA⟩:=hi.get;refine .op (fun _ h=>by cases h) rfl rfl hd (.slice (some ⟨w.heap.size,0,none⟩) 1 1) (w.alloc (.cells #[v] e)) (fun ρ hρ=>?_) (k _ _ (aR _) (cj w _) (cW M w (.cells #[v] e)));simp only[execOp,fe,eQ,jr,hρ x _ hx];simp only[Instr.buildSlice,cq,run_underlying ht,cD,hi.sizeOf,Nat.one_mul];rw[if_neg (by omega),if_neg (by omega)];simp only[cq,zeroValue,typeInfo,program,Sem.run,yi,AG,cD,Sem.run_pure];rw[DG 1 _ #[v] v (by simp) hc (by simp)];simp[newRow,newObj,Sem.run]
theorem Rg.RG {i:Operand} {t e:TypeId} {κ:IntKind} {j:Int} {b o len bytes:Nat} {zv:Value} (ht:P.underlying t=some (.array len e)) (hi:TI P e zv 1 bytes) (hx:ev L x=some (.pointer (some ⟨b,o,none⟩))) (Gq:ev L i=some (.int κ j)) (hd:Nat.blt d n=true) (hj:0≤j∧j<len)
  (k:Rg P r n ops rest ((d,.pointer (some ⟨b,o+j.toNat,none⟩))::L) ds w K):
  Rg P r n ops ({dst:=some d,op:= .indexAddr t x i,type:=ty,pos,after:=af,guard:=none}::rest) L ds w K:=
 .op (fun _ h=>by cases h) rfl rfl hd _ w (fun ρ h=>by
  simp only[execOp,h x _ hx,h i _ Gq];simp[Instr.indexAt,run_underlying ht,asIntOf,hj,hi.sizeOf,xL,Instr.sureAddr]) k
def PX (p:Fo):List Value:=[.int .i64 p.1,.int .i64 p.2]
def abB (p:Fo):Prop:=ma p.1∧ma p.2
theorem yw {M:aD} {w:World}:∀{xs:List Fo} {C:List Value},eg RT.fo M w xs C↔C=xs.flatMap PX∧∀p∈xs,abB p
 |[],C=>⟨fun h=>⟨h,fun p h=>by cases h⟩,fun h=>h.1⟩
 |p::xs,C=>by
  constructor
  ·rintro⟨vs,r,h1,⟨va,vb,rfl,⟨rfl,ha⟩,⟨rfl,hb⟩⟩,h3⟩;obtain⟨h4,h5⟩:=yw.1 h3;refine⟨by rw[h1,h4];rfl,fun q hq=>?_⟩;rcases ca.1 hq with rfl|hq
   ·exact⟨ha,hb⟩
   ·exact h5 q hq
  ·rintro⟨h1,h2⟩;obtain⟨ha,hb⟩:=h2 p (bH ..);exact⟨_,_,by rw[h1];rfl,⟨_,_,rfl,⟨rfl,ha⟩,⟨rfl,hb⟩⟩,yw.2 ⟨rfl,fun q hq=>h2 q (b9 _ hq)⟩⟩
theorem FC {a:Int}:∀{xs:List Fo} {k:Nat} {p:Fo},xs[k]? =some p→(xs.flatMap PX).set (k*2+1) (.int .i64 a)=(xs.set k (p.1,a)).flatMap PX
 |[],k,p,h=>by simp at h
 |q::xs,0,p,h=>by
  simp at h;subst h;rfl
 |q::xs,k+1,p,h=>by
  have:=FC (a:=a) (xs:=xs) (k:=k) (p:=p) (by simpa using h);rw[List.set_cons_succ,tc,tc,←this];show(PX q++_).set _ _=PX q++_;rw[show(k+1)*2+1=(k*2+1)+2 from by omega];rfl
theorem Al:∀xs:List Fo,(xs.flatMap PX).length=xs.length*2
 |[]=>rfl
 |p::xs=>by rw[tc,a8,Al xs,cI];show 2+_=_;omega
theorem Own.abC {e:TypeId} {M:aD} {base g len cap k:Nat} {xs:List Fo} {p:Fo} (h:Own RT.fo e M w base (.slice (some ⟨g,0,none⟩) len cap) xs) (hx:xs[k]? =some p):
  ∃cur,w.heap[g]? =some (.cells cur e (0,0))∧M g∧abB p∧base≤g∧(∃u,cur[k*2+1]? =some u∧u.oneCell'=true)∧∀(M':aD) (w':World) (a:Int),ma a→w'.heap[g]? =some (.cells (cur.setIfInBounds (k*2+1) (.int .i64 a)) e (0,0))→M' g→Own RT.fo e M' w' base (.slice (some ⟨g,0,none⟩) len cap) (xs.set k (p.1,a)):=by
 obtain⟨⟨C,hr,ha⟩,hm⟩:=h;obtain⟨rfl,hok⟩:=yw.1 ha;have Dw:=(an.1 hx).1;rcases hr.2 with⟨h1,_⟩|⟨g',yH,cur,h1,h2,h3,h4,h5,h6,h7⟩
 ·cases h1
 ·simp only[fY,dy,om]at h1;obtain⟨⟨rfl,_⟩,rfl,rfl⟩:=h1;have e2:RT.fo.n=2:=rfl;rw[e2]at h6 h7;have kE:k*2+1<xs.length*2:=by omega
  have jf:∃u,cur[k*2+1]? =some u∧u.oneCell'=true:=by
   have hl:k*2+1<(xs.flatMap PX).length:=by rw[Al];exact kE
   refine⟨(xs.flatMap PX)[k*2+1],?_,ha.one _ (vM _)⟩;have h8:(cur.toList.take (xs.length*2))[k*2+1]? =some (xs.flatMap PX)[k*2+1]:=by rw[h7];exact ar hl
   rw[ck,if_pos kE]at h8;simpa using h8
  refine⟨cur,h3,hm g rfl,hok p (az hx),h2,jf,fun M' w' a har hw hM'=>?_⟩;refine⟨⟨(xs.set k (p.1,a)).flatMap PX,⟨by rw[Al];rfl,.inr ⟨g,cap,_,by rw[eY],h2,hw,by rw[eY];exact h4,h5,by rw[e2];simpa using h6,?_⟩⟩,yw.2 ⟨rfl,fun q hq=>?_⟩⟩,fun b hb=>by cases hb;exact hM'⟩
  ·rw[e2,eY,←FC hx,←h7];apply fq;intro j;rw[dp];simp only[ck,Array.toList_setIfInBounds,dp,br,AE];by_cases hj:j<xs.length*2
   ·rw[if_pos hj,if_pos hj];have:xs.length*2≤cur.size:=by rw[h6];omega
    by_cases e:k*2+1=j
    ·rw[if_pos e,if_pos e,if_pos (by omega),if_pos (by omega)]
    ·rw[if_neg e,if_neg e]
   ·rw[if_neg hj,if_neg hj];rw[if_neg (by omega)]
  ·rcases List.mem_or_eq_of_mem_set hq with hq|rfl
   ·exact hok q hq
   ·exact⟨(hok p (az hx)).1,har⟩
end Go.K
namespace Go.K
open Go.Proofs
namespace TKSet
theorem FD:TI Tryz.prog 131 (.slice none 0 0) 1 24:=by unfold TI;kernel_rfl
theorem aiS:TI Tryz.prog 133 (.agg #[(.int .i64 0),(.slice none 0 0)]) 2 32:=by unfold TI;kernel_rfl
theorem Am:TI Tryz.prog 190 (.int .u64 0) 1 8:=by unfold TI;kernel_rfl
theorem aiT:placesOf Tryz.prog 133=[(0,1),(1,1)].map some:=by kernel_rfl
end TKSet
open TKSet
set_option maxRecDepth 10000
theorem A6 {w0:World} {k m x:Nat} (FE:∃e fr,w0.heap[1]? =some (.cells (Iw.map fun(k:Nat)=>Value.int .u8 (k:Int)).toArray e fr)) (hx:x=2^k*(2*m+1)) (hl:x<2^64):
  Spec Tryz.prog 213 #[.int .u64 x] w0 (fun v' w'=>v'= .int .i64 k∧w0=w'):=by
 obtain⟨et,ft,FE⟩:=FE;have hp:=Nat.two_pow_pos k;have ud:0<x:=by rw[hx];exact Nat.mul_pos hp (by omega)
 have hkx:2^k≤x:=by rw[hx];exact Nat.le_mul_of_pos_right _ (by omega)
 have hk:k<64:=by
  rcases cE k 64 with h2|h2
  ·exact h2
  ·have:=nP (n:=2) (by decide) h2;omega
 obtain⟨yr,Ag⟩:=US k hk;have lC:((Iw.map fun(k:Nat)=>Value.int .u8 (k:Int)).toArray)[(2^k*285870213051353865)%2^64/2^58]? =some (.int .u8 (k:Int)):=by rw[eI,bj,Ag];rfl
 refine bg (args:=[_]) (fn:=Tryz.f213) Tryz.func213 rfl (n:=14) Tryz.ntmps213 (aj (ae (ah rfl rfl (ab (aj (aj (ae (ad rfl rfl (tY rfl rfl rfl (ab (T.vP rfl ((by omega)) ?_)))))))))));refine aT (aj (ae (ad rfl rfl (ad rfl rfl (Rg.aeD rfl rfl (aU (v':= .int .u64 ((2^64-x:Nat):Int)) (by rw[show(0:Int)-(x:Int)=((2^64-x:Nat):Int)-18446744073709551616 from by omega];simp[IntKind.wrap,IntKind.bits,IntKind.signed];omega) (Rg.and rfl rfl rfl (aU (v':= .int .u64 ((2^k:Nat):Int)) (by rw[LZ x (2^64-x) hl (by omega),hx,Qq (by omega)]) (Rg.Jw rfl rfl rfl (aU (v':= .int .u64 (((2^k*285870213051353865)%2^64:Nat):Int)) (congrArg _ (by rw[show((2^k:Nat):Int)*285870213051353865=((2^k*285870213051353865:Nat):Int)from by rw[Int.natCast_mul];rfl];exact Cp _)) (Rg.shr rfl rfl rfl (by decide) ?_)))))))))));refine aU (v':= .int .u64 (((2^k*285870213051353865)%2^64/2^58:Nat):Int)) (congrArg _ (Y3 _ 58 (by decide))) (yg (len:=64) Tryz.underlying326 I5 rfl rfl rfl (by omega) (aN (v:= .int .u8 (k:Int)) cC rfl rfl rfl FE (by rw[ay];exact lC) (Rg.vS cC ax rfl rfl (by omega) (ah rfl rfl (ab (aP ?_))))));exact aV rfl rfl ⟨rfl,rfl⟩
theorem B1 {M:aD} {w0:World} {n:Nat} (hn:n≤1099511627776):
  Spec Tryz.prog 24 #[.int .i64 n] w0 (fun v' w'=>∃bs bw,v'= .pointer (some ⟨bs,0,none⟩)∧w0.heap.size≤bs∧w0.heap.size≤bw∧Step M w0 (ins (ins M bw) bs) w' aC∧jU 133 190 n (List.replicate ((n+63)/64) 0) (ins (ins M bw) bs) w' bs bw):=by
 refine bg (args:=[_]) (fn:=Tryz.f24) Tryz.func24 rfl (n:=13) Tryz.ntmps24 (aj (ae (ah rfl rfl (ab (aj (ae (ad rfl rfl (Rg.max2 rfl rfl rfl (aU (v':= .int .i64 n) (congrArg _ (by omega)) (ah rfl rfl (ab ?_)))))))))));refine aj (ae (ad rfl rfl (ad rfl rfl (bG rfl rfl rfl (by omega) (fv rfl rfl rfl (by omega) (Rg.AL rfl rfl rfl (by omega) (aU (v':= .int .i64 (((n+63)/64:Nat):Int)) (congrArg _ (by omega)) ?_)))))));refine Rg.mk0 M fc Am rfl rfl rfl rfl (by omega) (by omega) (fun bw w1 z1 z1' h1 s1=>?_);refine iM (places:=[(0,1),(1,1)]) iT aiS aiT rfl ⟨_,_,rfl,rfl,_,_,rfl,rfl,rfl⟩ (out:=[_,_]) ⟨0,[_],rfl,rfl,by simp[Value.cells],1,[_],rfl,rfl,by simp[Value.cells],rfl⟩ ?_;refine xM (ins M bw) rfl rfl (fun bs w2 z2 z2' h2 s2=>?_);have y1:=s1.size;refine ah rfl rfl (ab (aP ?_));refine aV rfl rfl ⟨bs,bw,rfl,by omega,z1,s1.aB s2,.inl rfl,.inr (.inl rfl),by omega,by rw[ch];exact h2,?_,by simp,fun x hx=>by rw[iL hx];decide,hn⟩;have:=s2.aL h1;rw[this];simp[qE]
end Go.K
namespace Go.K
open Go.Proofs
set_option maxRecDepth 10000
theorem KE {M:aD} {w0:World} {n:Nat} {ws:List Nat} {bs bw:Nat} (h:jU 133 190 n ws M w0 bs bw):
  Spec Tryz.prog 102 #[.pointer (some ⟨bs,0,none⟩)] w0 (fun v' w'=>v'= .int .i64 (n:Int)∧w0=w'):=by
 have hS:=h.s;have hW:=h.w;have hlen:=h.len;have hok:=h.ok;have X3:=h.nn;refine bg (args:=[_]) (fn:=Tryz.f102) Tryz.func102 rfl (n:=7) Tryz.ntmps102 (aj (ae (ah rfl rfl (ab (aj (ae (ad rfl rfl (bT rfl ⟨_,rfl⟩ rfl (bJ iT rfl rfl I3 (by decide) rfl rfl (aN ax rfl rfl rfl (by assumption) rfl (ah rfl rfl ?_)))))))))));refine ab (aP ?_);exact aV rfl rfl ⟨rfl,rfl⟩
end Go.K
namespace Go.K
open Go.Proofs
namespace TKSet3
theorem FD:TI Tryz.prog 131 (.slice none 0 0) 1 24:=by unfold TI;kernel_rfl
theorem Am:TI Tryz.prog 190 (.int .u64 0) 1 8:=by unfold TI;kernel_rfl
theorem abD:Enters Tryz.prog 155:=enters Tryz.func155 rfl (by decide)
theorem aiU:Enters Tryz.prog 213:=enters Tryz.func213 rfl (by decide)
end TKSet3
open TKSet3
set_option maxRecDepth 10000
theorem An {M:aD} {w0:World} {n:Nat} {ws:List Nat} {bs bw:Nat} (h:jU 133 190 n ws M w0 bs bw) {i:Int} (hi: -1≤i∧i≤1099511627776) (hb:∀j,bit ws j=true→j<n) (FE:∃e fr,w0.heap[1]? =some (.cells (Iw.map fun(k:Nat)=>Value.int .u8 (k:Int)).toArray e fr)):
  Spec Tryz.prog 155 #[.pointer (some ⟨bs,0,none⟩),.int .i64 i] w0 (fun v' w'=>(∃r,v'= .int .i64 r∧SD ws i.toNat r∧ -1≤r∧r≤1099511627776)∧w0=w'):=by
 have hS:=h.s;have hW:=h.w;have hlen:=h.len;have hok:=h.ok;have X3:=h.nn;refine bg (args:=[_,_]) (fn:=Tryz.f155) Tryz.func155 rfl (n:=36) Tryz.ntmps155 (aj (ae (ah rfl rfl (ab (aj (ae (ad rfl rfl (Rg.max2 rfl rfl rfl (aU (v':= .int .i64 (i.toNat:Int)) (congrArg _ (by omega)) (ah rfl rfl (ab ?_)))))))))));refine aj (aY ?_);refine dh (σ:=Nat) (fun s=>[(0,.pointer (some ⟨bs,0,none⟩)),(1,.int .i64 s)]) (fun s w=>w0=w∧i.toNat≤s∧(∀t,i.toNat≤t→t<s→bit ws t=false)∧s≤1099511627840) (fun s=>n+64-s) i.toNat (.cons rfl (.cons rfl .nil)) ?_ ?_
 ·exact⟨rfl,aR _,fun t h1 h2=>by omega,by omega⟩
 ·rintro p w1 ⟨rfl,hp,ko,ky⟩;refine aj (aj (ae (ad rfl rfl (ad rfl rfl (bT rfl ⟨_,rfl⟩ rfl (bJ iT rfl rfl I3 (by decide) rfl rfl (aN ax rfl rfl rfl (by assumption) rfl (cg rfl rfl rfl (ab ?_)))))))));refine bM rfl (fun c2=>?_) (fun c2=>?_)
  ·refine aT (aY (aj (aj (ae (ad rfl rfl (bT rfl ⟨_,rfl⟩ rfl (bJ iT rfl rfl FD (by decide) rfl rfl (aN fc rfl rfl rfl (by assumption) rfl (ad rfl rfl (Rg.AL rfl rfl rfl (by omega) (Rg.GL fc Am rfl rfl rfl (by omega) ?_)))))))))));refine aN tg rfl rfl rfl hW (v:= .int .u64 ((ws.getD (p/64) 0:Nat):Int)) (by rw[show(((p:Int)/64)).toNat=p/64 from by omega];exact mL (by omega)) (ad rfl rfl (Rg.AM rfl rfl rfl (by omega) (Rg.shr rfl rfl rfl (by omega) (aU (v':= .int .u64 ((ws.getD (p/64) 0/2^(p%64):Nat):Int)) (congrArg _ (by rw[show((p:Int)%64)=((p%64:Nat):Int)from by omega];exact Y3 _ _ (by omega))) (ah rfl rfl (ab (aj (ae (ad rfl rfl (eM rfl rfl rfl (ab ?_)))))))))));refine bM rfl (fun c4=>?_) (fun c4=>?_)
   ·refine aj (ae (ad rfl rfl (ad rfl rfl ?_)));obtain⟨k,m,Gz⟩:=L3 (ws.getD (p/64) 0/2^(p%64)) (Nat.pos_of_ne_zero fun h=>c4 (by rw[h];rfl));have Cc:=D0 (hok.get _) (show p%64<64 by omega) Gz;have aiV:ws.getD (p/64) 0/2^(p%64)<2^64:=Nat.lt_of_le_of_lt (Nat.div_le_self _ _) (hok.get _);refine aX rfl rfl aiU (A6 (k:=k) (m:=m) FE Gz aiV) (fun r wc h=>?_);obtain⟨rfl,rfl⟩:=h;refine bG rfl rfl rfl (by omega) (ah rfl rfl (ab (aP ?_)));have Yv:=fun t ht=>(Co (k:=k) (m:=m)).2 t ht
    have hbk:bit ws (p+k)=true:=by rw[yY Cc,Gz];exact Co.1
    have:=hb _ hbk
    exact aV rfl rfl ⟨⟨_,rfl,.inl ⟨p+k,by omega,by omega,hbk,fun t h1 h2=>by
     rcases cE t p with h|h
     ·exact ko t h1 h
     ·have h3:=yY (ws:=ws) (i:=p) (t:=t-p) (by omega);rw[show p+(t-p)=t from by omega]at h3;rw[h3,Gz];exact Yv _ (by omega)⟩,by omega,by omega⟩,rfl⟩
   ·have hz0:ws.getD (p/64) 0/2^(p%64)=0:=by
     have:=cP.1 c4;exact Int.ofNat.inj this
    refine aT (ae (ad rfl rfl (ad rfl rfl (Rg.AM rfl rfl rfl (by omega) (fv rfl rfl rfl (by omega) (bG rfl rfl rfl (by omega) (ah rfl rfl (ab ?_))))))));refine⟨rfl,p+(64-p%64),(.cons rfl (.cons (by rw[show((p+(64-p%64):Nat):Int)=(p:Int)+(64-(p:Int)%64)from by omega];rfl) .nil)),?_,?_⟩
    ·refine⟨rfl,by omega,fun t h1 h2=>?_,by omega⟩;rcases cE t p with h|h
     ·exact ko t h1 h
     ·have h3:=yY (ws:=ws) (i:=p) (t:=t-p) (by omega);rw[show p+(t-p)=t from by omega]at h3;rw[h3,hz0];simp
    ·show n+64-(p+(64-p%64))<n+64-p;omega
  ·refine cH (aj (ae (ah rfl rfl (ab (aP ?_)))))
   exact aV rfl rfl ⟨⟨_,rfl,.inr ⟨rfl,fun t h1=>by
    rcases cE t p with h|h
    ·exact ko t h1 h
    ·cases Rp:bit ws t with
     |false=>rfl
     |true=>have:=hb t Rp;omega⟩,by omega,by omega⟩,rfl⟩
theorem KF {M:aD} {w0:World} {bs:Nat} (hM:Lt M w0):
  Spec Tryz.prog 103 #[.pointer (some ⟨bs,0,none⟩)] w0 (fun v' w'=>∃bl,v'= .func (.func 154) #[] #[.pointer (some ⟨bl,0,none⟩)]∧w'.heap[bl]? =some (.cells #[.pointer (some ⟨bs,0,none⟩)] 47 (0,0))∧w0.heap.size≤bl∧Step M w0 M w' aC):=by
 refine bg (args:=[_]) (fn:=Tryz.f103) Tryz.func103 rfl (n:=4) Tryz.ntmps103 (aj (ae ?_));refine xM M rfl rfl (fun bl w1 h1 X7 hS s1=>?_);change w1.heap[bl]? =some (.cells #[.pointer (some ⟨bs,0,none⟩)] _ _)at hS;refine ah rfl rfl (ab (aj (ae (kr (xs:=[]) (ys:=[.tmp 1]) rfl rfl rfl (ah rfl rfl (ab (aP ?_)))))));exact aV rfl rfl ⟨bl,rfl,hS,h1,s1.back⟩
theorem HW {w0:World} {n:Nat} {ws:List Nat} {bs bw bl yl:Nat} {J:Nat→aD→World→Prop} {M:aD} {Jx:World→Prop} (hb:∀j,bit ws j=true→j<n) (I1:∀p M w,J p M w→w.heap[bl]? =some (.cells #[.pointer (some ⟨bs,0,none⟩)] 47 (0,0))∧jU 133 190 n ws M w bs bw∧(∃e fr,w.heap[1]? =some (.cells (Iw.map fun(k:Nat)=>Value.int .u8 (k:Int)).toArray e fr))) (hy:∀(p j:Nat) (M:aD) (w:World),J p M w→p≤j→bit ws j=true→(∀t,p≤t→t<j→bit ws t=false)→xj Tryz.prog yl [.int .i64 j].toArray w (fun r w'=>∃c,r= .bool c∧(c=true→∃M',J (j+1) M' w')∧(c=false→Jx w'))) (h0:J 0 M w0):
  Spec Tryz.prog 154 #[.func (.yield yl) #[] #[],.pointer (some ⟨bl,0,none⟩)] w0 (fun _ w'=>(∃p M',J p M' w'∧∀t,p≤t→bit ws t=false)∨Jx w'):=by
 obtain⟨Yi,Vo,aiW⟩:=I1 _ _ _ h0;refine bg (args:=[_,_]) (fn:=Tryz.f154) Tryz.func154 rfl (n:=17) Tryz.ntmps154 (aj (ae (aN xe rfl rfl rfl (by assumption) rfl ?_)));refine aX rfl rfl abD (An Vo (i:=0) (by omega) hb aiW) (fun r wc h=>?_);obtain⟨⟨r,rfl,hr,Ys,mz⟩,rfl⟩:=h;refine ah rfl rfl (ab (aY ?_));refine dh (σ:=Nat×Int) (fun s=>[(0,.func (.yield yl) #[] #[]),(1,.pointer (some ⟨bl,0,none⟩)),(3,.int .i64 s.2)]) (fun s w=>(∃M1,J s.1 M1 w)∧SD ws s.1 s.2∧ -1≤s.2∧s.2≤1099511627776∧s.1≤n) (fun s=>n+1-s.1) (0,r) (.cons rfl (.cons rfl (.cons rfl .nil))) ?_ ?_
 ·exact⟨⟨M,h0⟩,hr,Ys,mz,bD _⟩
 ·clear hr Ys mz;rintro⟨p,r⟩ w1 ⟨⟨M1,hJ⟩,hr,Ys,mz,PV⟩;dsimp only at hJ hr Ys mz PV ⊢;refine aj (aj (ae (ad rfl rfl (ef rfl rfl rfl (ad rfl rfl ?_)))));refine aS (g:=8) rfl (fun iU=>?_) (fun iU=>?_)
  ·refine al rfl rfl (ad rfl rfl (al rfl rfl (ad rfl rfl (al rfl rfl ?_))))
   have hrj:∃j:Nat,r=j∧p≤j∧bit ws j=true∧∀t,p≤t→t<j→bit ws t=false:=by
    rcases hr with h|h
    ·exact h
    ·omega
   obtain⟨j,rfl,YK,hbj,ko⟩:=hrj;have KZ:=hb j hbj;refine Rg.yield rfl (vs:=[.int .i64 j]) rfl rfl (hy p j M1 _ hJ YK hbj ko) (fun r4 w5 h5=>?_);obtain⟨c,rfl,hc5,hc6⟩:=h5;refine aU (v':= .bool (decide (c=true))) (by simp) (aZ rfl rfl rfl (ab ?_));refine bM rfl (fun c1=>?_) (fun c1=>?_)
   ·obtain⟨M2,hJ2⟩:=hc5 c1;obtain⟨PM,Gr,aiX⟩:=I1 _ _ _ hJ2;refine aT (aj (aY (aT (ae (aN xe rfl rfl rfl (by assumption) rfl (ad rfl rfl (bG rfl rfl rfl (by omega) ?_)))))));refine aX rfl rfl abD (An Gr (i:=(j:Int)+1) (by have:=Gr.nn;omega) hb aiX) (fun r wc h=>?_);obtain⟨⟨r2,rfl,abG,hr3,hr4⟩,rfl⟩:=h;refine ah rfl rfl (ab ?_);refine⟨rfl,(j+1,r2),(.cons rfl (.cons rfl (.cons rfl .nil))),?_,?_⟩
    ·refine⟨⟨M2,hJ2⟩,?_,hr3,hr4,by simp only;omega⟩;rw[show((j:Int)+1).toNat=j+1 from by omega]at abG;exact abG
    ·simp only;omega
   ·refine cH ?_;change xQ Tryz.prog Tryz.f154 (fun _ w'=>(∃p M',J p M' w'∧∀t,p≤t→bit ws t=false)∨Jx w') .normal _ [] _
    first
    |exact gj rfl (.inr (hc6 (by simpa using c1)))
    |(have qz:∀t,p≤t→bit ws t=false:=by
       rcases hr with⟨j,h,_⟩|h
       ·omega
       ·exact h.2
      exact gj rfl (.inl ⟨p,M1,hJ,qz⟩))
  ·refine aw rfl rfl rfl rfl (aw rfl rfl rfl rfl (aw rfl rfl rfl rfl (aE rfl rfl rfl (ab (jD rfl (cH ?_))))));change xQ Tryz.prog Tryz.f154 (fun _ w'=>(∃p M',J p M' w'∧∀t,p≤t→bit ws t=false)∨Jx w') .normal _ [] _
   first
   |exact gj rfl (.inr (hc6 (by simpa using c1)))
   |(have qz:∀t,p≤t→bit ws t=false:=by
      rcases hr with⟨j,h,_⟩|h
      ·omega
      ·exact h.2
     exact gj rfl (.inl ⟨p,M1,hJ,qz⟩))
end Go.K
namespace Go.K
open Go.Proofs
namespace TKSet2
theorem FD:TI Tryz.prog 131 (.slice none 0 0) 1 24:=by unfold TI;kernel_rfl
theorem Am:TI Tryz.prog 190 (.int .u64 0) 1 8:=by unfold TI;kernel_rfl
theorem E24:Enters Tryz.prog 24:=enters Tryz.func24 rfl (by decide)
theorem E67:Enters Tryz.prog 67:=enters Tryz.func67 rfl (by decide)
end TKSet2
open TKSet2
set_option maxRecDepth 10000
theorem B2 {ws vs:List Nat} {n:Nat} (hl:ws.length=(n+63)/64) (hv:vs.length=(n+63)/64) (hr:0<n%64) (h1:∀j,j<64*ws.length→bit vs j= !bit ws j) (j:Nat):bit (vs.set (vs.length-1) (vs.getD (vs.length-1) 0%2^(n%64))) j=(decide (j<n)&& !bit ws j):=by
 rw[Cq _ (by omega)];by_cases hj:j/64=vs.length-1
 ·rw[if_pos hj,Nat.testBit_mod_two_pow];have h2:=h1 j (by omega);have h3:(vs.getD (vs.length-1) 0).testBit (j%64)=bit vs j:=by unfold bit;rw[hj]
  rw[h3,h2];congr 1;exact decide_eq_decide.2 (by omega)
 ·rw[if_neg hj];by_cases uq:j<n
  ·rw[h1 j (by omega),decide_eq_true uq,ff]
  ·rw[decide_eq_false uq,kX,Qr (by omega)]
theorem FF {ws vs:List Nat} {n:Nat} (hl:ws.length=(n+63)/64) (hr:n%64=0) (h1:∀j,j<64*ws.length→bit vs j= !bit ws j) (h2:∀j,64*ws.length≤j→bit vs j=false) (j:Nat):bit vs j=(decide (j<n)&& !bit ws j):=by
 by_cases uq:j<n
 ·rw[h1 j (by omega),decide_eq_true uq,ff]
 ·rw[decide_eq_false uq,kX,h2 j (by omega)]
theorem KG {M:aD} {w0:World} {n:Nat} {ws:List Nat} {bs bw:Nat} (h:jU 133 190 n ws M w0 bs bw):
  Spec Tryz.prog 67 #[.pointer (some ⟨bs,0,none⟩)] w0 (fun v' w'=>∃os ow K0,v'= .pointer (some ⟨os,0,none⟩)∧w0.heap.size≤os∧w0.heap.size≤ow∧Step M w0 (ins (ins M ow) os) w' aC∧jU 133 190 n K0 (ins (ins M ow) os) w' os ow∧∀j,bit K0 j=(decide (j<n)&& !bit ws j)):=by
 have hS:=h.s;have hW:=h.w;have hlen:=h.len;have hok:=h.ok;have X3:=h.nn;refine bg (args:=[_]) (fn:=Tryz.f67) Tryz.func67 rfl (n:=56) Tryz.ntmps67 (aj (ae (ah rfl rfl (ab (aj (ae (ad rfl rfl (bT rfl ⟨_,rfl⟩ rfl (bJ iT rfl rfl I3 (by decide) rfl rfl (aN ax rfl rfl rfl (by assumption) rfl ?_))))))))));refine aX rfl rfl E24 (B1 (M:=M) X3) (fun r1 w1 h=>?_);obtain⟨os,ow,rfl,z1,z2,s1,hO1⟩:=h;obtain⟨M1,C1⟩:∃M1,M1=ins (ins M ow) os:=⟨_,rfl⟩;rw[←C1]at s1 hO1;have h1:=h.step s1 (fun h=>h) (fun h=>h);have hS1:=h1.s;have lbs:=ak hS;have lbw:=ak hW;refine ah rfl rfl (ab (aj (aj (ae (ad rfl rfl (bT rfl ⟨_,rfl⟩ rfl (bJ iT rfl rfl FD (by decide) rfl rfl (aN fc rfl rfl rfl (by assumption) rfl (Rg.mM fc rfl rfl (ad rfl rfl (ab ?_)))))))))));refine aY ?_;refine dh (σ:=Nat×List Nat) (fun s=>[(0,.pointer (some ⟨bs,0,none⟩)),(3,.pointer (some ⟨os,0,none⟩)),(15,.slice (some ⟨bw,0,none⟩) ws.length ws.length),(16,.int .i64 ws.length),(17,.int .i64 s.1)]) (fun s w=>s.1≤ws.length∧jU 133 190 n ws M1 w bs bw∧jU 133 190 n s.2 M1 w os ow∧(∀j,j<64*s.1→bit s.2 j= !bit ws j)∧(∀j,64*s.1≤j→bit s.2 j=false)∧Step M1 w1 M1 w (fun b=>b=ow)) (fun s=>ws.length-s.1) (0,List.replicate ((n+63)/64) 0) (.cons rfl (.cons rfl (.cons rfl (.cons rfl (.cons rfl .nil))))) ?_ ?_
 ·exact⟨bD _,h1,hO1,fun j hj=>by omega,fun j hj=>DZ _ _,(au _ _).cB (fun _ h=>h.elim) (fun b hb=>by rw[hb];exact hO1.mw)⟩
 ·rintro⟨k,vs⟩ w2 ⟨hk,h2,C2,mP,oC,S2⟩;dsimp only at hk C2 mP oC ⊢;have hS2:=h2.s;have hOS:=C2.s;have j7:=C2.len;refine aj (ae (cg rfl rfl rfl (ab (aj ?_))));refine bM rfl (fun c3=>?_) (fun c3=>?_)
  ·refine aT (aj (aY (aj (ae (ad rfl rfl (Rg.GL fc Am rfl rfl rfl (by omega) (aN tg rfl rfl rfl h2.w (v:= .int .u64 ((ws.getD (k) 0:Nat):Int)) (by rw[show((k:Int)).toNat=k from by omega];exact mL (by omega)) (ah rfl rfl (ah rfl rfl (ab (ae ?_)))))))))));refine ad rfl rfl (bT rfl ⟨_,rfl⟩ rfl (bJ iT rfl rfl FD (by decide) rfl rfl (aN fc rfl rfl rfl (by assumption) rfl (ad rfl rfl (ad rfl rfl (Rg.Y2 rfl rfl (hok.get _) (Rg.GL fc Am rfl rfl rfl (by omega) ?_)))))));refine cw (M:=M1) (u:= .int .u64 ((vs.getD k 0:Nat):Int)) Am rfl rfl C2.w (by rw[ay];exact mL (by omega)) rfl C2.mw (fun w5 hW5 s5=>?_);rw[ay,yX]at hW5;refine ab (ae (bG rfl rfl rfl (by omega) (ad rfl rfl (ab ?_))));refine⟨rfl,(k+1,vs.set k (2^64-1-ws.getD k 0)),(.cons rfl (.cons rfl (.cons rfl (.cons rfl (.cons rfl .nil))))),?_,?_⟩
   ·refine⟨by simp only;omega,h2.step s5 (by omega) (by omega),C2.put s5 (by simp) hW5 (C2.ok.set (by omega)),fun j hj=>?_,fun j hj=>?_,S2.trans s5 (fun _ _ h=>h)⟩
    ·simp only at hj ⊢;rw[Cq _ (by omega)];by_cases hjk:j/64=k
     ·rw[if_pos hjk,L5 (hok.get _) (by omega)];unfold bit;rw[hjk]
     ·rw[if_neg hjk];exact mP j (by omega)
    ·simp only at hj ⊢;rw[Cq _ (by omega),if_neg (by omega)];exact oC j (by omega)
   ·simp only;omega
  ·refine cH (aj (aj (ae (ad rfl rfl (bT rfl ⟨_,rfl⟩ rfl (bJ iT rfl rfl I3 (by decide) rfl rfl (aN ax rfl rfl rfl (by assumption) rfl (Rg.AM rfl rfl rfl (by omega) (aU (v':= .int .i64 ((n%64:Nat):Int)) (congrArg _ (by omega)) (ah rfl rfl (ab ?_)))))))))));refine aj (ae (ad rfl rfl (jk rfl rfl rfl (ab ?_))));refine bM rfl (fun c8=>?_) (fun c8=>?_)
   ·have It:=Nat.two_pow_pos (n%64);have hp3:2^(n%64)<2^64:=Nat.pow_lt_pow_right (by decide) (by omega);apply T.Bk (M:=M1) mixed [] [cG.eq _,cG.eq _,cG.eq _,cG.eq (.slice (some ⟨ow,0,none⟩) vs.length vs.length),cG.eq _,cG.eq _,cG.eq _,cG.eq (.slice (some ⟨ow,0,none⟩) vs.length vs.length),cG.eq (.int .i64 vs.length),cG.eq (.int .i64 ((vs.length-1:Nat):Int)),cG.eq (.pointer (some ⟨ow,((vs.length-1:Nat):Int).toNat,none⟩)),cG.eq (.int .u64 ((vs.getD (vs.length-1) 0:Nat):Int)),cG.eq _,cG.eq (.int .u64 ((2^(n%64):Nat):Int)),cG.eq (.int .u64 ((2^(n%64)-1:Nat):Int)),cG.eq (.int .u64 (((vs.getD (vs.length-1) 0%2^(n%64)):Nat):Int)),cG.eq (.pointer (some ⟨ow,((vs.length-1:Nat):Int).toNat,none⟩))] 17
    ·rfl
    ·rfl
    ·rfl
    ·rfl
    ·rfl
    ·exact fun p hp=>by cases hp
    ·exact vT.none
    ·refine aG ?_ ?_
     ·intro wD E sD;refine ad rfl rfl ?_;exact ab ⟨rfl,rfl,_,rfl,rfl,au _ _⟩
     refine aG ?_ ?_
     ·intro wD E sD;refine aM (bT rfl ⟨_,rfl⟩ rfl ?_);exact ab ⟨rfl,rfl,_,rfl,rfl,au _ _⟩
     refine aG ?_ ?_
     ·intro wD E sD;refine aM (bJ iT rfl rfl FD (by decide) rfl rfl ?_);exact ab ⟨rfl,rfl,_,rfl,rfl,au _ _⟩
     refine aG ?_ ?_
     ·intro wD E sD;refine aM (aN fc rfl rfl rfl (de sD (by assumption)) rfl ?_);exact ab ⟨rfl,rfl,_,rfl,rfl,au _ _⟩
     refine aG ?_ ?_
     ·intro wD E sD;refine ad rfl rfl ?_;exact ab ⟨rfl,rfl,_,rfl,rfl,au _ _⟩
     refine aG ?_ ?_
     ·intro wD E sD;refine aM (bT rfl ⟨_,rfl⟩ rfl ?_);exact ab ⟨rfl,rfl,_,rfl,rfl,au _ _⟩
     refine aG ?_ ?_
     ·intro wD E sD;refine aM (bJ iT rfl rfl FD (by decide) rfl rfl ?_);exact ab ⟨rfl,rfl,_,rfl,rfl,au _ _⟩
     refine aG ?_ ?_
     ·intro wD E sD;refine aM (aN fc rfl rfl rfl (de sD (by assumption)) rfl ?_);exact ab ⟨rfl,rfl,_,rfl,rfl,au _ _⟩
     refine aG ?_ ?_
     ·intro wD E sD;refine aM (Rg.mM fc rfl rfl ?_);exact ab ⟨rfl,rfl,_,rfl,rfl,au _ _⟩
     refine aG ?_ ?_
     ·intro wD E sD;refine aM (fv rfl rfl rfl (by omega) (aU (v':= .int .i64 ((vs.length-1:Nat):Int)) (congrArg _ (by omega)) ?_));exact ab ⟨rfl,rfl,_,rfl,rfl,au _ _⟩
     refine aG ?_ ?_
     ·intro wD E sD;refine aM (aM (Rg.GL fc Am rfl rfl rfl (by omega) ?_));exact ab ⟨rfl,rfl,_,rfl,rfl,au _ _⟩
     refine aG ?_ ?_
     ·intro wD E sD;refine aM (aN tg rfl rfl rfl (sD.aL C2.w) (v:= .int .u64 ((vs.getD (vs.length-1) 0:Nat):Int)) (by rw[ay];exact mL (by omega)) ?_);exact ab ⟨rfl,rfl,_,rfl,rfl,au _ _⟩
     refine aG ?_ ?_
     ·intro wD E sD;refine ad rfl rfl ?_;exact ab ⟨rfl,rfl,_,rfl,rfl,au _ _⟩
     refine aG ?_ ?_
     ·intro wD E sD;refine aM (Rg.shl rfl rfl rfl (by omega) (aU (v':= .int .u64 ((2^(n%64):Nat):Int)) (congrArg _ (aeE _ (by omega))) ?_));exact ab ⟨rfl,rfl,_,rfl,rfl,au _ _⟩
     refine aG ?_ ?_
     ·intro wD E sD;refine aM (Rg.Ut rfl rfl rfl (aU (v':= .int .u64 ((2^(n%64)-1:Nat):Int)) (congrArg _ (by rw[show((2^(n%64):Nat):Int)-1=((2^(n%64)-1:Nat):Int)from by omega,Cp,oA (by omega)])) ?_));exact ab ⟨rfl,rfl,_,rfl,rfl,au _ _⟩
     refine aG ?_ ?_
     ·intro wD E sD;refine aM (aM (Rg.and rfl rfl rfl (aU (v':= .int .u64 (((vs.getD (vs.length-1) 0%2^(n%64)):Nat):Int)) (congrArg _ (by rw[LZ _ _ (C2.ok.get _) (by omega),Nat.and_two_pow_sub_one_eq_mod])) ?_)));exact ab ⟨rfl,rfl,_,rfl,rfl,au _ _⟩
     refine aG ?_ ?_
     ·intro wD E sD;refine aM (aM (aM (aM (aM (aM (aM (aM (aM (aM (aM (aM ?_)))))))))));refine aM (aM (aM (aM (aM (aM (Rg.GL fc Am rfl rfl rfl (by omega) ?_))))));exact ab ⟨rfl,rfl,_,rfl,rfl,au _ _⟩
     exact ti
    ·intro TC E5;refine aM (aM (aM (aM (aM (aM (aM (aM (aM (aM (aM (aM ?_)))))))))));refine aM (aM (aM (aM (aM ?_))));refine cw (M:=M1) (u:= .int .u64 ((vs.getD (vs.length-1) 0:Nat):Int)) Am rfl rfl (E5.aL C2.w) (by rw[ay];exact mL (by omega)) rfl C2.mw (fun w9 hW9 s9=>?_);rw[ay,yX]at hW9;refine ab (aj (ae (ad rfl rfl (ah rfl rfl (ab (aP ?_))))));have GA:k=ws.length:=by omega
     first
     |exact aV rfl rfl ⟨os,ow,vs.set (vs.length-1) (vs.getD (vs.length-1) 0%2^(n%64)),rfl,z1,z2,by rw[←C1];exact(s1.cf S2 (fun b hb=>by omega)).aB E5 |>.cf s9 (fun b hb=>by omega),by rw[←C1];exact(C2.step E5 (fun h=>h) (fun h=>h)).put s9 (by simp) hW9 (C2.ok.set (Nat.lt_of_le_of_lt (Nat.mod_le _ _) (C2.ok.get _))),fun j=>B2 hlen j7 (by omega) (by rw[←GA];exact mP) j⟩
     |exact aV rfl rfl ⟨os,ow,vs,rfl,z1,z2,by rw[←C1];exact s1.cf S2 (fun b hb=>by omega),by rw[←C1];exact C2,fun j=>FF hlen (by omega) (by rw[←GA];exact mP) (by rw[←GA];exact oC) j⟩
   ·refine aT (aj (ae (ad rfl rfl (ah rfl rfl (ab (aP ?_))))));have GA:k=ws.length:=by omega
    first
    |exact aV rfl rfl ⟨os,ow,vs.set (vs.length-1) (vs.getD (vs.length-1) 0%2^(n%64)),rfl,z1,z2,by rw[←C1];exact(s1.cf S2 (fun b hb=>by omega)).aB E5 |>.cf s9 (fun b hb=>by omega),by rw[←C1];exact(C2.step E5 (fun h=>h) (fun h=>h)).put s9 (by simp) hW9 (C2.ok.set (Nat.lt_of_le_of_lt (Nat.mod_le _ _) (C2.ok.get _))),fun j=>B2 hlen j7 (by omega) (by rw[←GA];exact mP) j⟩
    |exact aV rfl rfl ⟨os,ow,vs,rfl,z1,z2,by rw[←C1];exact s1.cf S2 (fun b hb=>by omega),by rw[←C1];exact C2,fun j=>FF hlen (by omega) (by rw[←GA];exact mP) (by rw[←GA];exact oC) j⟩
theorem KH {M:aD} {w0:World} {n:Nat} (hn:n≤1099511627776):
  Spec Tryz.prog 23 #[.int .i64 n] w0 (fun v' w'=>∃os ow K0 M',v'= .pointer (some ⟨os,0,none⟩)∧w0.heap.size≤os∧w0.heap.size≤ow∧Step M w0 M' w' aC∧jU 133 190 n K0 M' w' os ow∧∀j,bit K0 j=decide (j<n)):=by
 refine bg (args:=[_]) (fn:=Tryz.f23) Tryz.func23 rfl (n:=6) Tryz.ntmps23 (aj (ae (ah rfl rfl (ab (aj (ae (ad rfl rfl ?_)))))));refine aX rfl rfl E24 (B1 (M:=M) hn) (fun r1 w1 h=>?_);obtain⟨bs,bw,rfl,z1,z2,s1,h1⟩:=h;refine aX rfl rfl E67 (KG h1) (fun r2 w2 h=>?_);obtain⟨os,ow,K0,rfl,z3,z4,s2,h2,hb⟩:=h;have y1:=s1.size;refine ah rfl rfl (ab (aP ?_));exact aV rfl rfl ⟨os,ow,K0,_,rfl,by omega,by omega,s1.aB s2,h2,fun j=>by rw[hb j,DZ];simp⟩
end Go.K
namespace Go.K
open Go.Proofs
namespace TKSet5
theorem ai3:Enters Tryz.prog 103:=enters Tryz.func103 rfl (by decide)
theorem ai4:Enters Tryz.prog 154:=enters Tryz.func154 rfl (by decide)
end TKSet5
open TKSet5
set_option maxRecDepth 10000
def low (ws:List Nat):Nat→List Int
 |0=>[]
 |p+1=>if bit ws p then low ws p++[(p:Int)]else low ws p
theorem Jh (ws:List Nat):∀p,(low ws p).length≤p
 |0=>aR _
 |p+1=>by
  have:=Jh ws p;unfold low;split
  ·simp;omega
  ·omega
theorem uW {ws:List Nat} {p:Nat}:∀{j:Nat},p≤j→(∀t,p≤t→t<j→bit ws t=false)→low ws j=low ws p
 |0,h,_=>by rw[show p=0 by omega]
 |j+1,h,ko=>by
  rcases lK h with e|h1
  ·rw[e]
  ·rw[low,ko j (by omega) (by omega)];simp only[Bool.false_eq_true,if_false];exact uW (by omega) (fun t h1 h2=>ko t h1 (by omega))
theorem C3 (ws:List Nat):∀p x,x∈low ws p↔∃t:Nat,x=(t:Int)∧t<p∧bit ws t=true
 |0,x=>by simp[low]
 |p+1,x=>by
  have ih:=C3 ws p x;unfold low;constructor
  ·intro h
   split at h
   ·rename_i hb
    rcases cr.1 h with h|h
    ·obtain⟨t,h1,h2,h3⟩:=ih.1 h;exact⟨t,h1,by omega,h3⟩
    ·rw[bS.1 h];exact⟨p,rfl,by omega,hb⟩
   ·obtain⟨t,h1,h2,h3⟩:=ih.1 h;exact⟨t,h1,by omega,h3⟩
  ·rintro⟨t,h1,h2,h3⟩;rcases cE t p with h|h
   ·have:=ih.2 ⟨t,h1,h,h3⟩
    split
    ·exact cr.2 (.inl this)
    ·exact this
   ·have:t=p:=by omega
    subst this;rw[if_pos h3];exact cr.2 (.inr (by rw[h1];exact bS.2 rfl))
theorem Ji:A5 (RT.int .i64):=fun _ _ _ _ _ _ h=>h
structure Lb (n:Nat) (ws:List Nat) (bs bw bl:Nat) (M:aD) (w:World):Prop where
 f: ¬M bl∧¬M bs∧¬M bw∧¬M 1
 l:w.heap[bl]? =some (.cells #[.pointer (some ⟨bs,0,none⟩)] 47 (0,0))
 s:jU 133 190 n ws (fun _=>True) w bs bw
 t:∃e fr,w.heap[1]? =some (.cells (Iw.map fun(k:Nat)=>Value.int .u8 (k:Int)).toArray e fr)
theorem Lb.keeps {n:Nat} {ws:List Nat} {bs bw bl:Nat} {M M':aD} {w w':World} (h:Lb n ws bs bw bl M w) (l:Le M w M' w'):Lb n ws bs bw bl M' w':=by
 obtain⟨⟨f1,f2,f3,f4⟩,hl,hs,e,fr,ht⟩:=h;have a1:=l bl (ak hl) f1;have a2:=l bs (ak hs.s) f2;have a3:=l bw (ak hs.w) f3;have a4:=l 1 (ak ht) f4;exact⟨⟨a1.1,a2.1,a3.1,a4.1⟩,a1.2.trans hl,⟨trivial,trivial,hs.ne,a2.2.trans hs.s,a3.2.trans hs.w,hs.len,hs.ok,hs.nn⟩,e,fr,a4.2.trans ht⟩
theorem HX {M:aD} {w0:World} {n:Nat} {ws:List Nat} {bs bw:Nat} (hM:Lt M w0) (h:jU 133 190 n ws (fun _=>True) w0 bs bw) (hb:∀j,bit ws j=true→j<n) (hf: ¬M bs∧¬M bw∧¬M 1) (FE:∃e fr,w0.heap[1]? =some (.cells (Iw.map fun(k:Nat)=>Value.int .u8 (k:Int)).toArray e fr)):
  Spec Tryz.prog 57 #[.pointer (some ⟨bs,0,none⟩)] w0 (fun v w=>∃M',Own (RT.int .i64) 3 M' w w0.heap.size v (low ws n)∧Step M w0 M' w aC):=by
 have jO:=hM;refine oH (args:=[_]) (fn:=Tryz.f57) Tryz.func57 rfl (n:=13) Tryz.ntmps57 ?_;have S:Step M w0 M w0 aC:=(au _ _).cB (fun _ h=>h.elim) (fun _ h=>h.elim);refine aj (ae (ah rfl rfl (ab (aj (ae ?_)))));refine dU M jY rfl (fun mT Ec Vg Vh j8 nX=>?_);obtain⟨lE,mU⟩:∃M',M'=ins M mT:=⟨_,rfl⟩;rw[←mU]at nX;have iV:lE mT:=by rw[mU];exact .inl rfl
 change Ec.heap[mT]? =some (.cells #[.slice none 0 0] _ _)at j8;replace hM:=nX.lt hM;have:=S.size;replace S:=S.aB nX;refine ab (aj (aj (ae (ad rfl rfl ?_))));refine aX rfl rfl ai3 (KF (bs:=bs) hM) (fun r2 w2 hc=>?_);obtain⟨bl,rfl,gl,kQ,s2⟩:=hc;have fl: ¬lE bl:=fun h=>by have:=hM _ h;omega
 have hk:Lb n ws bs bw bl lE w2:=by
  obtain⟨e,fr,ht⟩:=FE;have q:=S.aB s2;exact⟨⟨fl,fun hn=>hf.1 ((q.mem _ (ak h.s)).1 hn),fun hn=>hf.2.1 ((q.mem _ (ak h.w)).1 hn),fun hn=>hf.2.2 ((q.mem _ (ak ht)).1 hn)⟩,gl,⟨trivial,trivial,h.ne,q.aL h.s,q.aL h.w,h.len,h.ok,h.nn⟩,e,fr,q.aL ht⟩
 have:=ak j8;replace iV:=(s2.mem _ this).2 iV;replace j8:=s2.aL j8;replace hM:=s2.lt hM;have:=S.size;replace S:=S.aB s2;refine ab (aY ?_);refine T.range (gf:=154) (lb:=[.pointer (some ⟨bl,0,none⟩)].toArray) rfl ai4 (fun rec nU=>?_);obtain⟨D,hD⟩:∃D,D=w2.heap.size:=⟨_,rfl⟩;obtain⟨Mr,h0⟩:=aiC (A:=RT.int .i64) (e:=3) (T:=37) (C:=284) (K:=Lb n ws bs bw bl) (st:=rec .ready none) Lb.keeps hM S j8 iV hk (by omega);rw[←hD]at nU h0 ⊢;refine Spec.mono (HW (M:=fun _=>True) (J:=fun p Ma w=>Ma=(fun _=>True)∧∃M' vo,OH (RT.int .i64) 3 37 284 (Lb n ws bs bw bl) M w0 mT D (rec .ready none) vo (low ws p) M' w) (Jx:=fun _=>False) hb (fun p Ma w ⟨e,M',vo,h⟩=>by subst e;exact⟨h.k.l,h.k.s,h.k.t⟩) (fun p j Ma wr hJ YK hbj ko=>?_) ⟨rfl,Mr,_,h0⟩) (fun _ w3 h3=>?_)
 ·obtain⟨_,M',vo,h⟩:=hJ;have KZ:=hb j hbj;have X3:=h.k.s.nn;have Jy:=Jh ws p;refine mg (ps:=[7]) (vs:=[.int .i64 (j:Int)]) nU h.r rfl (by decide) (ae (ah rfl rfl (ab ?_)));refine⟨rfl,h.r,?_⟩;have h4:=h.na Lb.keeps (st':=rec .busy none);have s4:Step M' wr M' (wr.putObj (D+1) (.loop (rec .busy none))) (fun k=>k=D+1):=dZ h.mr;generalize wr.putObj (D+1) _=w4 at h4 s4 ⊢;refine aY (ae (aN ao rfl rfl rfl h4.o rfl (aU (v':=vo) rfl (ad rfl rfl ?_))));refine eu (A:=RT.int .i64) (hn:=by decide) (M:=M') ao I3 (by decide) rfl rfl h4.lt (yD.2 ⟨rfl,by show-9223372036854775808≤(j:Int)∧(j:Int)≤9223372036854775807;omega⟩) (.inr ⟨rfl,rfl⟩) (fun u5 w5 D9 s5=>?_);have h6:=h4.aO Lb.keeps s5;refine cV (M:=M') (base:=w0.heap.size) ao I3 rfl rfl rfl rfl h6.own D9 (aq _ _) (by simp;omega) (by simp;omega) h6.S.size (fun v6 M6 w6 uI s6=>?_);obtain⟨⟨go6,mo6⟩,Gw⟩:=h6.grow Lb.keeps (by decide) s6 uI;refine cw (M:=M6) jY rfl rfl go6 rfl (by obtain⟨_,_,he,_⟩:=uI.isSlice;rw[he];rfl) mo6 (fun w7 g7 s7=>?_);refine ab ?_;have h8:=(Gw s7 g7).na Lb.keeps (st':=rec .ready none);exact⟨(Gw s7 g7).r,true,rfl,fun _=>⟨_,rfl,M6,v6,by rw[low,if_pos hbj,uW YK ko];exact h8⟩,fun h=>by cases h⟩
 ·obtain⟨p,_,⟨_,M',vo,h⟩,qz⟩:=h3.resolve_right id;left;refine⟨h.r,?_⟩;have h5:=h.na Lb.keeps (st':=rec .exhausted none);generalize w3.putObj (D+1) _=wE at h5 ⊢;refine aj (ae (aN ao rfl rfl rfl h5.o rfl (aU (v':=vo) rfl (ah rfl rfl (ab (aP ?_))))));have sE:Step M' wE M' (wE.putObj D (.deferred none)) (fun k=>k=D):=dZ h5.md;have hz:=h5.z;have hS:=h5.S.cf sE (fun k (hk:k=D)=>by omega)
  have ho:=h5.own.step sE (fun b hb (hn:b=D)=>by
   obtain⟨cs,hc⟩:=h5.own.isCells hb;rw[hn,h5.d]at hc;cases hc)
  have e:low ws n=low ws p:=by
   rcases Nat.le_total p n with h1|h1
   ·exact uW h1 (fun t h2 _=>qz t h2)
   ·exact(uW h1 (fun t h2 _=>by
     cases Rp:bit ws t with
     |false=>rfl
     |true=>have:=hb t Rp;omega)).symm
  exact Ck rfl rfl h5.d ⟨M',by rw[e];exact ho,hS⟩
end Go.K
namespace Go.K
open Go.Proofs
namespace TKMay11
theorem HY:TI Tryz.prog 25 (.pointer none) 1 8:=by unfold TI;kernel_rfl
theorem Lc:TI Tryz.prog 47 (.pointer none) 1 8:=by unfold TI;kernel_rfl
theorem TW:Enters Tryz.prog 34:=enters Tryz.func34 rfl (by decide)
theorem ai5:Enters Tryz.prog 102:=enters Tryz.func102 rfl (by decide)
end TKMay11
open TKMay11
set_option maxRecDepth 10000
def HZ (M:aD) (w:World) (n:Nat) (ws:List Nat) (bs:Nat):Prop:=∃bw,jU 133 190 n ws (fun _=>True) w bs bw∧¬M bs∧¬M bw
theorem HZ.le {M M':aD} {w w':World} {n:Nat} {ws:List Nat} {bs:Nat} (hl:Le M w M' w') (h:HZ M w n ws bs):HZ M' w' n ws bs:=by
 obtain⟨bw,h1,h2,h3⟩:=h;obtain⟨a1,a2⟩:=hl bs (ak h1.s) h2;obtain⟨b1,b2⟩:=hl bw (ak h1.w) h3;exact⟨bw,⟨trivial,trivial,h1.ne,a2.trans h1.s,b2.trans h1.w,h1.len,h1.ok,h1.nn⟩,a1,b1⟩
theorem HZ.all {M:aD} {w:World} {n:Nat} {ws:List Nat} {bs:Nat} (h:HZ M w n ws bs):∃bw,jU 133 190 n ws (fun _=>True) w bs bw:=by
 obtain⟨bw,h1,_⟩:=h;exact⟨bw,h1⟩
def uX (M:aD) (w:World) (a:List Bool) (bs:Nat):Prop:=∃ws,HZ M w a.length ws bs∧∀j,bit ws j=true↔a[j]? =some true
theorem uX.le {M M':aD} {w w':World} {a:List Bool} {bs:Nat} (hl:Le M w M' w') (h:uX M w a bs):uX M' w' a bs:=by
 obtain⟨ws,h1,h2⟩:=h;exact⟨ws,h1.le hl,h2⟩
theorem yx (ws:List Nat):∀p,(low ws p).Pairwise (· < ·)
 |0=>List.Pairwise.nil
 |p+1=>by
  unfold low
  split
  ·refine iP.2 ⟨yx ws p,by simp,fun a ha b hb=>?_⟩;obtain⟨t,rfl,ht,_⟩:=(C3 ws p a).1 ha;rw[bS.1 hb];omega
  ·exact yx ws p
theorem H0 {ws:List Nat} {a:List Bool} (h:∀j,bit ws j=true↔a[j]? =some true):low ws a.length=gz a:=by
 refine uL (R:=fun a b=>a<b) (fun a b h1 h2=>by omega) (yx _ _) (uU _) ((yx _ _).imp fun h e=>by omega) ((uU _).imp fun h e=>by omega) fun x=> ?_
 rw[C3,lh];constructor
 ·rintro⟨t,rfl,_,h2⟩;exact⟨t,rfl,(h t).1 h2⟩
 ·rintro⟨t,rfl,h2⟩;exact⟨t,rfl,(an.1 h2).1,(h t).2 h2⟩
theorem FG {M:aD} {w0:World} {a:List Bool} {bs:Nat} (hM:Lt M w0) (h:uX M w0 a bs) (h0: ¬M 1) (FE:∃e fr,w0.heap[1]? =some (.cells (Iw.map fun(k:Nat)=>Value.int .u8 (k:Int)).toArray e fr)):Spec Tryz.prog 57 #[.pointer (some ⟨bs,0,none⟩)] w0 (fun v w=>((RT.int .i64).sl).V M w (gz a) v∧Step M w0 M w aC):=by
 obtain⟨ws,⟨bw,h1,h2,h3⟩,h4⟩:=h;refine(HX hM h1 (fun j hj=>(an.1 ((h4 j).1 hj)).1) ⟨h2,h3,h0⟩ FE).mono fun v w ⟨M',ho,s⟩=>?_
 rw[H0 h4]at ho;exact ho.HQ Ji s (aR _) hM (by have:=wN a;have:=h1.nn;omega)
theorem H2 {M:aD} {ss:List Se} {bs ns:List Nat} {v0 v1:Value} (w0:World) (hs:(((RT.se).ptr).sl).V M w0 ss v0) (hb:(RT.D1.sl).V M w0 bs v1) (hl:bs.length=ss.length) (hn:ns.length=ss.length) (cF:∀(i b n:Nat),bs[i]? =some b→ns[i]? =some n→∃ws,HZ M w0 n ws b):
  Spec Tryz.prog 56 #[v0,v1] w0 (fun v w=>v= .bool (decide (ss.map (fun s=>s.1.length)=ns))∧w=w0):=by
 have hlen:=dD hs;refine bg (args:=[_,_]) (fn:=Tryz.f56) Tryz.func56 rfl (n:=39) Tryz.ntmps56 (aj (ae (ah rfl rfl (ab (aj (aj (ae (ad rfl rfl (bN dW rfl hs rfl (ad rfl rfl (bN kR rfl hb rfl ?_)))))))))));refine eM rfl rfl rfl (ab (T.vP rfl ((fun h=>h (by rw[hl]))) (aT (aj (aj (ae (ad rfl rfl (bN dW rfl hs rfl (ad rfl rfl (ab (aY ?_)))))))))));refine dh (σ:=Nat) (fun i=>[(1,v1),(12,v0),(13,.int .i64 (ss.length:Int)),(14,.int .i64 (i:Int))]) (fun i w=>i≤ss.length∧(∀(j:Nat),j<i→∀(s:Se) (n:Nat),ss[j]? =some s→ns[j]? =some n→s.1.length=n)∧w=w0) (fun i=>ss.length-i) 0 (.cons rfl (.cons rfl (.cons rfl (.cons rfl .nil)))) ?_ ?_
 ·exact⟨bD _,(fun j h=>by omega),rfl⟩
 ·rintro i w ⟨hi,iA,rfl⟩;refine aj (ae (cg rfl rfl rfl (ab (aj ?_))));refine bM rfl (fun c4=>?_) (fun c4=>?_)
  ·refine aT (aj (aY (aj (ae (ad rfl rfl ?_)))));obtain⟨s,J4⟩:∃s,ss[i]? =some s:=⟨_,ar (by omega)⟩;refine cv (M:=M) dW HY rfl rfl rfl hs (aq _ _) (by omega) (fun u5 x_ iw D9=>?_);rw[ay]at iw;obtain rfl:=aF (J4.symm.trans iw);refine bU (M:=M) eF rfl rfl rfl rfl rfl D9 (aq _ _) (fun v5 ox=>?_);have hp5:=lX.1 ox;obtain⟨a5,rfl⟩:=hp5.fH;refine ah rfl rfl (ah rfl rfl (ab (aj (ae (ad rfl rfl (Rg.DT eF rfl ⟨_,rfl⟩ rfl rfl (ad rfl rfl (al rfl rfl (ad rfl rfl (al rfl rfl (ad rfl rfl ?_)))))))))));refine al rfl rfl ?_;obtain⟨b,QB⟩:∃b,bs[i]? =some b:=⟨_,ar (by omega)⟩;refine cv (M:=M) kR Lc rfl rfl rfl hb (aq _ _) (by omega) (fun u6 x_ iw GZ=>?_);rw[ay]at iw;obtain rfl:=aF (QB.symm.trans iw);refine al rfl rfl ?_;refine bU (M:=M) xe rfl rfl rfl rfl rfl GZ (aq _ _) (fun vb tV=>?_);obtain rfl:=yZ.1 tV;refine al rfl rfl (Rg.DT xe rfl ⟨_,rfl⟩ rfl rfl (aE rfl rfl rfl (ad rfl rfl (al rfl rfl (ad rfl rfl (al rfl rfl (ad rfl rfl (al rfl rfl ?_))))))));refine cv (M:=M) kR Lc rfl rfl rfl hb (aq _ _) (by omega) (fun as3 x_ iw abI=>?_);rw[ay]at iw;obtain rfl:=aF (QB.symm.trans iw);refine al rfl rfl ?_;refine bU (M:=M) xe rfl rfl rfl rfl rfl abI (aq _ _) (fun vb2 ai6=>?_);obtain rfl:=yZ.1 ai6;refine al rfl rfl ?_;obtain⟨nn,Sw⟩:∃n,ns[i]? =some n:=⟨_,ar (by omega)⟩;obtain⟨ws,Sr⟩:=cF i b nn QB Sw;obtain⟨bw,hsa⟩:=Sr.all;refine aX rfl rfl ai5 (KE hsa) (fun r6 w6 hc=>?_);obtain⟨rfl,rfl⟩:=hc;refine al rfl rfl (ad rfl rfl (al rfl rfl ?_));refine aX rfl rfl TW (rG _ hp5) (fun r7 w7 hc=>?_)
   obtain⟨rfl,rfl⟩:=hc;refine al rfl rfl (eM rfl rfl rfl (aE rfl rfl rfl (ab ?_)));refine bM rfl (fun c6=>?_) (fun c6=>?_)
   ·refine aj (ae (ah rfl rfl (ab (aP ?_))))
    exact aV rfl rfl ⟨congrArg Value.bool (dJ (decide_eq_false fun h=>c6 (by
     have h1:=congrArg (·[i]?) h;rw[bj,J4,Sw]at h1;have h9:s.1.length=nn:=aF h1;omega))),rfl⟩
   ·refine aT (ae (bG rfl rfl rfl (by omega) (ad rfl rfl (ab ?_))));refine⟨rfl,i+1,(.cons rfl (.cons rfl (.cons rfl (.cons rfl .nil)))),?_,?_⟩
    ·refine⟨by omega,fun j hj s' n' h1 h2=>?_,rfl⟩;rcases cE j i with h|h
     ·exact iA j h s' n' h1 h2
     ·obtain rfl:j=i:=by omega
      rw[J4]at h1;rw[Sw]at h2;cases h1;cases h2;omega
    ·omega
  ·refine cH (aj (ae (ah rfl rfl (ab (aP ?_)))))
   exact aV rfl rfl ⟨congrArg Value.bool (dJ (decide_eq_true (by
    apply fq;intro j;rw[bj];rcases cE j ss.length with h|h
    ·obtain⟨s,hs⟩:∃s,ss[j]? =some s:=⟨_,ar h⟩;obtain⟨n,J5⟩:∃n,ns[j]? =some n:=⟨_,ar (by omega)⟩;rw[hs,J5,cY,iA j (by omega) s n hs J5]
    ·rw[du h,du (by omega)];rfl))),rfl⟩
end Go.K
namespace Go.K
open Go.Proofs
set_option maxRecDepth 10000
theorem RH {M:aD} {w:World} {x:Po} {v:Value} (h:RT.po.V M w x v):∃u,v= .agg #[.int .i64 x.1,u]∧((RT.int .i64).sl).V M w x.2 u∧(-9223372036854775808≤x.1∧x.1≤9223372036854775807):=by
 obtain⟨vs,⟨va,vb,rfl,⟨rfl,hk⟩,hb⟩,rfl⟩:=h;obtain⟨a,cap,rfl,h2⟩:=hb;exact⟨.slice a x.2.length cap,rfl,⟨_,⟨a,cap,rfl,h2⟩,rfl⟩,hk⟩
theorem abJ {M:aD} {w:World} {x:Int} {ps:List Int} {u:Value} (hx: -9223372036854775808≤x∧x≤9223372036854775807) (hu:((RT.int .i64).sl).V M w ps u):RT.po.V M w (x,ps) (.agg #[.int .i64 x,u]):=fg (gv hx) hu rfl rfl rfl rfl
theorem H3 {M:aD} {l:List Po} {to:List Int} {v0 v1:Value} (w0:World) (hM:Lt M w0) (hv:(RT.po.sl).V M w0 l v0) (ht:((RT.int .i64).sl).V M w0 to v1) (hl:l.length≤1000000) (kE:∀p∈l,0≤p.1∧p.1<to.length):
  Spec Tryz.prog 63 #[v0,v1] w0 (fun v w=>∃M',Own RT.po 83 M' w w0.heap.size v (ll to l)∧Lt M' w∧Step M w0 M' w aC):=by
 have jO:=hM;refine bg (args:=[_,_]) (fn:=Tryz.f63) Tryz.func63 rfl (n:=33) Tryz.ntmps63 ?_;have S:Step M w0 M w0 aC:=(au _ _).cB (fun _ h=>h.elim) (fun _ h=>h.elim);refine aj (ae (ah rfl rfl (ab (aj (ae (ah rfl rfl (ab (aj (aj (ae (ad rfl rfl ?_)))))))))));refine bN bA rfl hv rfl (ad rfl rfl (ab (aY ?_)));refine dh (σ:=Nat×Value) (fun q=>[(1,v1),(5,q.2),(8,v0),(9,.int .i64 (l.length:Int)),(10,.int .i64 (q.1:Int))]) (fun q w=>q.1≤l.length∧∃M1,Lt M1 w∧(RT.po.sl).V M1 w l v0∧((RT.int .i64).sl).V M1 w to v1∧Own RT.po 83 M1 w w0.heap.size q.2 (ll to (l.take q.1))∧Step M w0 M1 w aC) (fun q=>l.length-q.1) (0,.slice none 0 0) (.cons rfl (.cons rfl (.cons rfl (.cons rfl (.cons rfl .nil))))) ?_ ?_
 ·exact⟨bD _,_,hM,hv,ht,dz _ _ _ _ _,S⟩
 ·clear hM hv ht S;rintro⟨i,u⟩ w ⟨hi,M1,hM,hv,ht,ho,S⟩;dsimp only at hi ho ⊢;have kZ:=fun b hb=>(ho.base b hb).2
  refine aj (ae (cg rfl rfl rfl (ab (aj ?_))));refine bM rfl (fun c3=>?_) (fun c3=>?_)
  ·refine aT (aj (aY (aj (ae ?_))));obtain⟨p,hk⟩:∃p,l[i]? =some p:=⟨_,ar (by omega)⟩;obtain⟨hp0,tS⟩:=kE p (az hk);have SO:l.take (i+1)=l.take i++[p]:=by rw[bI,hk];rfl
   have qy:=tO to (l.take i);have as5:(l.take i).length=i:=by rw[br];omega
   refine cv (M:=M1) bA l4 rfl rfl rfl hv (aq _ _) (by omega) (fun u40 y abK ai7=>?_);rw[ay]at abK;obtain rfl:=aF (hk.symm.trans abK);refine cT (M:=M1) (A:=RT.po) bK rfl l4 (by decide) rfl rfl rfl ai7 (aq _ _) (fun v41 yb=>?_);obtain⟨ux,rfl,Gh,hpr⟩:=RH yb;obtain⟨ua,uc,rfl,_,_,_⟩:=iz.1 Gh;refine dU M1 l4 rfl (fun RI QC as6 as7 l7 mQ=>?_);obtain⟨uY,OV⟩:∃M',M'=ins M1 RI:=⟨_,rfl⟩;rw[←OV]at mQ;have oa:uY RI:=by rw[OV];exact .inl rfl
   change QC.heap[RI]? =some (.cells #[.int .i64 0,.slice none 0 0] _ _)at l7;replace hv:=hv.le mQ.le;replace ht:=ht.le mQ.le;replace yb:=yb.le mQ.le;replace Gh:=Gh.le mQ.le;replace ho:=ho.aO mQ;replace hM:=mQ.lt hM;have:=S.size;replace S:=S.aB mQ;refine dI (M:=uY) (vs:=[.int .i64 p.1,.slice ua p.2.length uc]) l4 rfl rfl (wJ rfl yb) rfl rfl l7 oa (fun w43 g43 RJ=>?_);have:=ak l7;replace oa:=(RJ.mem _ this).2 oa;replace hv:=hv.le RJ.le;replace ht:=ht.le RJ.le;replace yb:=yb.le RJ.le;replace Gh:=Gh.le RJ.le;replace ho:=ho.step RJ (fun b hb hk=>by have hk:b=RI:=hk;have:=kZ b hb;omega);replace hM:=RJ.lt hM;have:=S.size;replace S:=S.trans RJ (fun k hk h=>by have h:_=_:=h;subst h;first|(exfalso;omega)|(show _≤_;omega)|exact⟨by first|omega|assumption,(S.mem _ hk).1 ((RJ.mem _ (ak l7)).1 oa)⟩|exact .inl rfl|exact .inr rfl|exact .inr (.inl rfl)|exact .inr (.inr rfl)|exact .inr (.inr (.inl rfl))|exact rfl);have TX:=g43;clear l7;have l7:=TX;clear TX;refine ab (aj (ae (ad rfl rfl (bJ (o':=0) bK rfl rfl I3 (by decide) rfl rfl (aN ax rfl rfl rfl l7 rfl (aU (v':= .int .i64 p.1) rfl ?_))))));refine cv (M:=uY) ao I3 rfl rfl rfl ht (aq _ _) (by omega) (fun u53 x53 ai8 ai9=>?_);refine bU (M:=uY) ax rfl rfl rfl rfl rfl ai9 (aq _ _) (fun v53 aja=>?_);obtain⟨rfl,ata⟩:=yD.1 aja;obtain rfl:to.getD p.1.toNat 0=x53:=by rw[aA,ai8];rfl
   refine ef rfl rfl rfl (ab ?_);refine bM rfl (fun c5=>?_) (fun c5=>?_)
   ·apply T.oG 9 [0] 1 aC mixed rfl rfl rfl rfl;intro wD6 RL;have tW:=RL uY;have:=ak l7;replace oa:=(tW.mem _ this).2 oa;replace l7:=tW.aL l7;replace hv:=hv.le tW.le;replace ht:=ht.le tW.le;replace yb:=yb.le tW.le;replace Gh:=Gh.le tW.le;replace ho:=ho.aO tW;replace hM:=tW.lt hM;have:=S.size;replace S:=S.aB tW;refine ad rfl rfl ?_;refine ab ⟨rfl,rfl,rfl,?_⟩;refine ad rfl rfl ?_;refine ab ⟨rfl,rfl,rfl,?_⟩;refine bJ (o':=0) bK rfl rfl I3 (by decide) rfl rfl ?_;refine ab ⟨rfl,rfl,rfl,?_⟩;refine aN ax rfl rfl rfl l7 rfl (aU (v':= .int .i64 p.1) rfl ?_);refine ab ⟨rfl,rfl,rfl,?_⟩;refine cv (M:=uY) ao I3 rfl rfl rfl ht (aq _ _) (by omega) (fun u64 x64 ajb ajc=>?_);refine ab ⟨rfl,rfl,rfl,?_⟩;refine bU (M:=uY) ax rfl rfl rfl rfl rfl ajc (aq _ _) (fun v64 ajd=>?_);obtain⟨rfl,aje⟩:=yD.1 ajd;obtain rfl:to.getD p.1.toNat 0=x64:=by rw[aA,ajb];rfl
    refine ab ⟨rfl,rfl,rfl,?_⟩;refine bJ (o':=1) bK rfl rfl jY (by decide) rfl rfl ?_;refine ab ⟨rfl,rfl,rfl,?_⟩;refine aN ao rfl rfl rfl l7 rfl (aU (v':= .slice ua p.2.length uc) rfl ?_);refine ab ⟨rfl,rfl,rfl,?_⟩;refine iM (places:=[(0,1),(1,1)]) bK l4 Y6 rfl ⟨_,_,rfl,rfl,_,_,rfl,rfl,rfl⟩ (out:=[_,_]) ⟨0,[_],rfl,rfl,by simp[Value.cells],1,[_],rfl,rfl,by simp[Value.cells],rfl⟩ ?_;refine ab ⟨rfl,rfl,rfl,?_⟩;refine eD ?_;refine⟨ik ⟨eW,trivial⟩,?_⟩;have kp:=jl aC wD6;refine eu (A:=RT.po) (hn:=by decide) (M:=uY) bA l4 (by decide) rfl rfl hM (abJ (ps:=p.2) aje Gh) (.inl rfl) (fun atc atd OW C4=>?_);have:=ak l7;replace oa:=(C4.mem _ this).2 oa;replace l7:=C4.aL l7;replace hv:=hv.le C4.le;replace ht:=ht.le C4.le;replace yb:=yb.le C4.le;replace Gh:=Gh.le C4.le;replace ho:=ho.aO C4;replace hM:=C4.lt hM;have:=S.size;replace S:=S.aB C4;refine(fun(kp:eJ _ _ _)=>ab ⟨rfl,rfl,fun _=>kp,?_⟩) (by first|exact kp|exact kp.ry (by assumption)|exact kp.goN (by assumption)|exact kp.go (by assumption) (fun _ _ h=>by first|exact h|exact h.elim));refine cV (M:=uY) (base:=w0.heap.size) bA l4 rfl rfl rfl rfl ho OW (aq _ _) (by show _+1≤_;omega) (by show(_+1)*_≤_;omega) (S.size) (fun abM anM anN W0 uZ=>?_);have:=ak l7;replace oa:=(uZ.mem _ this).2 oa;replace l7:=uZ.keep l7 (fun h=>by have:=kZ _ h;omega);replace hv:=hv.le uZ.le;replace ht:=ht.le uZ.le;replace yb:=yb.le uZ.le;replace Gh:=Gh.le uZ.le;replace OW:=OW.le uZ.le;replace hM:=uZ.lt hM;have:=S.size;replace S:=S.cX uZ ho (aR _);replace ho:=W0;refine ab ⟨rfl,rfl,fun h=>absurd rfl h,?_⟩;refine ah rfl rfl ?_;refine ab ⟨rfl,rfl,fun h=>absurd rfl h,?_⟩;refine lJ (ae (bG rfl rfl rfl (by omega) (ad rfl rfl (ab ?_))))
    refine⟨rfl,(i+1,abM),(.cons rfl (.cons rfl (.cons rfl (.cons rfl (.cons rfl .nil))))),?_,?_⟩
    ·exact⟨by dsimp only;omega,_,hM,hv,ht,by dsimp only;rw[SO,Aj,if_pos c5];exact ho,S⟩
    ·dsimp only;omega
   ·refine aT (ae (bG rfl rfl rfl (by omega) (ad rfl rfl (ab ?_))));refine⟨rfl,(i+1,u),(.cons rfl (.cons rfl (.cons rfl (.cons rfl (.cons rfl .nil))))),?_,?_⟩
    ·exact⟨by dsimp only;omega,_,hM,hv,ht,by dsimp only;rw[SO,Aj,if_neg c5];exact ho,S⟩
    ·dsimp only;omega
  ·refine cH (aj (ae (ad rfl rfl (ah rfl rfl (ab (aP ?_))))));rw[aW (by omega)]at ho;exact aV rfl rfl ⟨_,ho,hM,S⟩
end Go.K
namespace Go.Proofs
open Go.Shelf
def Tryz.H4:Go.Shelf.Ren:=⟨fun|6=>64|15=>115|14=>114|28=>172|29=>173|20=>164|21=>165|22=>166|23=>167|24=>168|25=>169|26=>170|27=>171|46=>217|47=>218|48=>219|49=>220|50=>221|57=>262|n=>n,fun|22=>80|24=>83|25=>129|3=>3|39=>189|0=>0|53=>257|55=>190|4=>4|46=>251|45=>250|50=>202|5=>5|9=>9|66=>296|70=>300|76=>327|77=>328|n=>n,fun|n=>n⟩
theorem Tryz.W2:Go.Proofs.SlLaysF0.n6 Tryz.prog Tryz.H4:={
 mixed:=by kernel_rfl
 f6:=⟨Tryz.f64.name,by decide,Tryz.func64.trans (congrArg some (by kernel_rfl))⟩
 f14:=⟨Tryz.f114.name,by decide,Tryz.func114.trans (congrArg some (by kernel_rfl))⟩
 f15:=Tryz.func115.trans (congrArg some (by kernel_rfl))
 f20:=⟨Tryz.f164.name,by decide,Tryz.func164.trans (congrArg some (by kernel_rfl))⟩
 f21:=⟨Tryz.f165.name,by decide,Tryz.func165.trans (congrArg some (by kernel_rfl))⟩
 f22:=⟨Tryz.f166.name,by decide,Tryz.func166.trans (congrArg some (by kernel_rfl))⟩
 f23:=⟨Tryz.f167.name,by decide,Tryz.func167.trans (congrArg some (by kernel_rfl))⟩
 f24:=⟨Tryz.f168.name,by decide,Tryz.func168.trans (congrArg some (by kernel_rfl))⟩
 f25:=⟨Tryz.f169.name,by decide,Tryz.func169.trans (congrArg some (by kernel_rfl))⟩
 f26:=⟨Tryz.f170.name,by decide,Tryz.func170.trans (congrArg some (by kernel_rfl))⟩
 f27:=⟨Tryz.f171.name,by decide,Tryz.func171.trans (congrArg some (by kernel_rfl))⟩
 f28:=Tryz.func172.trans (congrArg some (by kernel_rfl))
 f29:=Tryz.func173.trans (congrArg some (by kernel_rfl))
 f46:=⟨Tryz.f217.name,by decide,Tryz.func217.trans (congrArg some (by kernel_rfl))⟩
 f47:=Tryz.func218.trans (congrArg some (by kernel_rfl))
 f48:=Tryz.func219.trans (congrArg some (by kernel_rfl))
 f49:=⟨Tryz.f220.name,by decide,Tryz.func220.trans (congrArg some (by kernel_rfl))⟩
 f50:=⟨Tryz.f221.name,by decide,Tryz.func221.trans (congrArg some (by kernel_rfl))⟩
 f57:=⟨Tryz.f262.name,by decide,Tryz.func262.trans (congrArg some (by kernel_rfl))⟩
 t0:=fK
 a0:=lS
 z0:=kj
 v0:=gM
 t3:=ax
 a3:=lT
 z3:=km
 v3:=gN
 t4:=iX
 a4:=sk
 z4:=oB
 v4:=jG
 t5:=cC
 a5:=Tryz.isAgg5
 z5:=Tryz.sizeOf5
 v5:=tX
 t9:=aK
 a9:=lU
 z9:=kn
 v9:=gO
 t22:=bA
 a22:=Tryz.isAgg80
 z22:=Tryz.sizeOf80
 v22:=Tryz.zeroValue80
 t25:=Tryz.underlying129
 a25:=Tryz.isAgg129
 z25:=Tryz.sizeOf129
 v25:=Tryz.zeroValue129
 t39:=j4
 a39:=Tryz.isAgg189
 z39:=Tryz.sizeOf189
 v39:=Tryz.zeroValue189
 t45:=Tryz.underlying250
 a45:=Tryz.isAgg250
 z45:=Tryz.sizeOf250
 v45:=Tryz.zeroValue250
 t46:=Tryz.underlying251
 a46:=Tryz.isAgg251
 z46:=Tryz.sizeOf251
 v46:=Tryz.zeroValue251
 t50:=Tryz.underlying202
 a50:=Tryz.isAgg202
 z50:=Tryz.sizeOf202
 v50:=Tryz.zeroValue202
 t53:=Tryz.underlying257
 a53:=Tryz.isAgg257
 z53:=Tryz.sizeOf257
 v53:=Tryz.zeroValue257
 t55:=tg
 a55:=Tryz.isAgg190
 z55:=Tryz.sizeOf190
 v55:=Tryz.zeroValue190
 t66:=Tryz.underlying296
 a66:=Tryz.isAgg296
 z66:=Tryz.sizeOf296
 v66:=Tryz.zeroValue296
 t70:=Tryz.underlying300
 a70:=Tryz.isAgg300
 z70:=Tryz.sizeOf300
 v70:=Tryz.zeroValue300
 t76:=Tryz.underlying327
 a76:=Tryz.isAgg327
 z76:=Tryz.sizeOf327
 v76:=Tryz.zeroValue327
 t77:=Tryz.underlying328
 a77:=Tryz.isAgg328
 z77:=Tryz.sizeOf328
 v77:=Tryz.zeroValue328}
end Go.Proofs
namespace Go.K
open Go.Proofs
namespace TKSmall11
theorem E66:Enters Tryz.prog 66:=enters Tryz.func66 rfl (by decide)
theorem WM:Enters Tryz.prog 116:=enters Tryz.func116 rfl (by decide)
end TKSmall11
open TKSmall11
set_option maxRecDepth 10000
theorem Ao {w0:World} {x:Int}:
  Spec Tryz.prog 116 #[.int .i64 x] w0 (fun v' w'=>v'= .bool (decide False)∧w0=w'):=by
 refine bg (args:=[_]) (fn:=Tryz.f116) Tryz.func116 rfl (n:=6) Tryz.ntmps116 (aj (ae (ah rfl rfl (ab (aj (ae (ad rfl rfl (ad rfl rfl (eM rfl rfl rfl (ah rfl rfl (ab ?_)))))))))));refine aP ?_;exact aV rfl rfl ⟨congrArg Value.bool (by simp),rfl⟩
theorem vg {w0:World} {x y:Int}:
  Spec Tryz.prog 66 #[.int .i64 x,.int .i64 y] w0 (fun v' w'=>v'= .int .i64 (if x<y then-1 else if x>y then 1 else 0)∧w0=w'):=by
 refine bg (args:=[_,_]) (fn:=Tryz.f66) Tryz.func66 rfl (n:=20) Tryz.ntmps66 (aj (ae (ah rfl rfl (ab (aj (ae (ad rfl rfl ?_)))))));refine aX rfl rfl WM (Ao) (fun r wc h=>?_);obtain⟨rfl,rfl⟩:=h;refine ah rfl rfl (ab (aj (ae (ad rfl rfl ?_))));refine aX rfl rfl WM (Ao) (fun r wc h=>?_);obtain⟨rfl,rfl⟩:=h;refine ah rfl rfl (ab (aj (aj (ae (ad rfl rfl (ab (T.vP rfl ((fun h=>h)) (aT (aj (aj (ae ?_)))))))))));refine ad rfl rfl (ab (T.vP rfl ((fun h=>h)) (aT (aj (aj (ae (ad rfl rfl (ad rfl rfl (cg rfl rfl rfl (ab ?_))))))))));refine bM rfl (fun c9=>?_) (fun c9=>?_)
 ·refine aj (ae (ah rfl rfl (ab (aP ?_))));exact aV rfl rfl ⟨by rw[if_pos c9],rfl⟩
 ·refine aT (aj (aj (ae (ad rfl rfl (ad rfl rfl (jk rfl rfl rfl (ab ?_)))))));refine bM rfl (fun GV=>?_) (fun GV=>?_)
  ·refine aj (ae (ah rfl rfl (ab (aP ?_))));exact aV rfl rfl ⟨by rw[if_neg c9,if_pos GV],rfl⟩
  ·refine aT (aj (ae (ah rfl rfl (ab (aP ?_)))));exact aV rfl rfl ⟨by rw[if_neg c9,if_neg GV],rfl⟩
noncomputable instance {xs:List Int}:Decidable (∀i,i+1<xs.length→xs.getD i 0≤xs.getD (i+1) 0):=Classical.propDecidable _
theorem iD {l:List Int} {i:Nat} {x:Int} (h:l[i]? =some x):l.getD i 0=x:=by rw[aA,h];rfl
theorem A7 {M:aD} {w0:World} {v:Value} {xs:List Int} (hv:((RT.int .i64).sl).V M w0 xs v) (ud:0<xs.length):
  Spec Tryz.prog 157 #[v,.func (.func 66) #[] #[]] w0 (fun v' w'=>v'= .bool (decide (∀i,i+1<xs.length→xs.getD i 0≤xs.getD (i+1) 0))∧Step M w0 M w' aC):=by
 have hlen:=dD hv;refine bg (args:=[_,_]) (fn:=Tryz.f157) Tryz.func157 rfl (n:=25) Tryz.ntmps157 (aj (ae (ah rfl rfl (ab (aj (aj (ae (ad rfl rfl (bN ao rfl hv rfl (fv rfl rfl rfl (by omega) (aU (v':= .int .i64 ((xs.length-1:Nat):Int)) (congrArg _ (by omega)) ?_)))))))))));refine ah rfl rfl (ab (aY ?_));refine dh (σ:=Nat) (fun s=>[(0,v),(1,.func (.func 66) #[] #[]),(5,.int .i64 s)]) (fun s w=>s<xs.length∧(∀t,s≤t→t+1<xs.length→xs.getD t 0≤xs.getD (t+1) 0)∧Step M w0 M w aC) (fun s=>s) (xs.length-1) (.cons rfl (.cons rfl (.cons rfl .nil))) ?_ ?_
 ·exact⟨by omega,fun t h1 h2=>by omega,au _ _⟩
 ·rintro k w1 ⟨hk,hs,S⟩;refine aj (aj (ae (ad rfl rfl (jk rfl rfl rfl (ab ?_)))));refine bM rfl (fun c2=>?_) (fun c2=>?_)
  ·refine aT (aj (aY (aj ?_)));obtain⟨x,hx⟩:∃x,(xs)[k]? =some x:=⟨_,ar (by omega)⟩;obtain⟨y,hy⟩:∃x,(xs)[k-1]? =some x:=⟨_,ar (by omega)⟩;apply T.LD 10 mixed rfl rfl rfl rfl rfl;intro wD4 sA4;have BN:=sA4 M;refine ad rfl rfl ?_;refine ab ⟨rfl,rfl,rfl,?_⟩;refine ad rfl rfl ?_;refine ab ⟨rfl,rfl,rfl,?_⟩;refine ad rfl rfl ?_;refine ab ⟨rfl,rfl,rfl,?_⟩;refine cv (M:=M) ao I3 rfl rfl rfl ((hv.le S.le).le BN.le) (aq _ _) (by first|omega|decide) (fun U0 W3 OX abN=>?_);obtain rfl:x=W3:=dJ (aF (OX.symm.trans (by rw[ay];exact hx)));refine ab ⟨rfl,rfl,rfl,?_⟩;refine cd (M:=M) ax rfl rfl (by assumption) (by repeat (first|exact aq _ _|refine bc (bF (by assumption)) ?_)) (fun TY=>?_);refine aU (v':= .int .i64 (x)) rfl ?_;replace TY: -9223372036854775808≤(x:Int)∧x≤9223372036854775807:=TY;refine ab ⟨rfl,rfl,rfl,?_⟩;refine ad rfl rfl ?_;refine ab ⟨rfl,rfl,rfl,?_⟩;refine ad rfl rfl ?_;refine ab ⟨rfl,rfl,rfl,?_⟩;refine fv rfl rfl rfl (by omega) ?_;refine ab ⟨rfl,rfl,rfl,?_⟩;refine cv (M:=M) ao I3 rfl rfl rfl ((hv.le S.le).le BN.le) (aq _ _) (by first|omega|decide) (fun ate ajg abO anO=>?_);obtain rfl:y=ajg:=dJ (aF (abO.symm.trans (by rw[show((k:Int)-1).toNat=k-1 from by omega];exact hy)));refine ab ⟨rfl,rfl,rfl,?_⟩;refine cd (M:=M) ax rfl rfl (by assumption) (by repeat (first|exact aq _ _|refine bc (bF (by assumption)) ?_)) (fun TZ=>?_);refine aU (v':= .int .i64 (y)) rfl ?_;replace TZ: -9223372036854775808≤(y:Int)∧y≤9223372036854775807:=TZ;refine ab ⟨rfl,rfl,rfl,?_⟩;refine eD ?_;refine rO (first:=[]) (captured:=[]) rfl rfl rfl E66 vg (fun r w1 h=>?_);obtain⟨rfl,rfl⟩:=h;refine cg rfl rfl rfl (ab ?_);refine bM rfl (fun c4=>?_) (fun c4=>?_)
   ·have hgt: ¬(y≤x):=fun h=>by
     first
     |omega
     |(split at c4<;>first|omega|(split at c4<;>omega))
    refine aj (ae (ah rfl rfl (ab (aP ?_))))
    exact aV rfl rfl ⟨congrArg Value.bool (dJ (decide_eq_false fun h=>by
     have:=h (k-1) (by omega);rw[show k-1+1=k from by omega,iD hx,iD hy]at this;exact hgt this)),S.aB BN⟩
   ·have hle:y≤x:=by
     first
     |omega
     |(split at c4<;>first|omega|(split at c4<;>omega))
    refine aT (ae (ad rfl rfl (fv rfl rfl rfl (by omega) (ah rfl rfl (ab ?_)))));refine⟨rfl,k-1,(.cons rfl (.cons rfl (.cons (congrArg (fun z=>some (Value.int .i64 z)) (by omega)) .nil))),?_,?_⟩
    ·refine⟨by omega,fun t h1 h2=>?_,S.aB BN⟩;by_cases e:t=k-1
     ·subst e;rw[show k-1+1=k from by omega,iD hx,iD hy];exact hle
     ·exact hs t (by omega) h2
    ·show k-1<k;omega
  ·refine cH (aj (ae (ah rfl rfl (ab (aP ?_)))));exact aV rfl rfl ⟨congrArg Value.bool (dJ (decide_eq_true fun i hi=>hs i (by omega) hi)),S⟩
theorem FH {M:aD} {w0:World} {v:Value} {xs:List Int} (hM:Lt M w0) (hv:((RT.int .i64).sl).V M w0 xs v) (hl:xs.length≤1099511627776):
  Spec Tryz.prog 51 #[v] w0 (fun v' w'=>∃M',Own (RT.int .i64) 3 M' w' w0.heap.size v' xs∧Lt M' w'∧Step M w0 M' w' aC):=by
 obtain⟨a,cap,lG,hc,hlen,hs⟩:=iz.1 hv;refine bg (args:=[_]) (fn:=Tryz.f51) Tryz.func51 rfl (n:=8) Tryz.ntmps51 (aj (ae (ah rfl rfl (ab (aj (aj (ae (ad rfl rfl (aU (v':= .slice a xs.length cap) lG (Rg.uu ao rfl rfl rfl (ab ?_)))))))))));refine bM rfl (fun c1=>?_) (fun c1=>?_)
 ·refine aj (ae (ah rfl rfl (ab (aP ?_))))
  obtain rfl:xs=[]:=by
   rcases hs with h|⟨b,o,h,_⟩
   ·exact h
   ·rw[c1]at h;cases h
  exact aV rfl rfl ⟨M,dz _ _ _ _ _,hM,au _ _⟩
 ·refine aT (aj (ae ?_));refine Rg.Y1 ao I3 M rfl (fun g w1 z1 z1' g1 s1=>?_);have oy:=s1.lt hM;refine ad rfl rfl ?_;refine cV (M:=ins M g) (base:=w0.heap.size) ao I3 rfl rfl rfl rfl (Own.empty g1 z1 (.inl rfl)) (hv.le s1.le) (aq _ _) (by simp;omega) (by simp;omega) (by have:=s1.size;omega) (fun v2 M2 w2 tM s2=>?_);refine ah rfl rfl (ab (aP ?_));exact aV rfl rfl ⟨M2,by rw[fQ]at tM;exact tM,s2.lt oy,s1.cf s2 (fun b hb=>by have hb:b=g:=(aF hb).symm;rw[hb];exact z1)⟩
theorem C5 {M:aD} {w0:World} {base:Nat} {v:Value} {xs:List Int} (ho:Own (RT.int .i64) 3 M w0 base v xs) (hl:xs.length≤1099511627776):
  Spec Tryz.prog 158 #[v] w0 (fun v' w'=>∃a k cap,v'= .slice a k cap∧(k=xs.length↔(∀i,i+1<xs.length→xs.getD i 0≠xs.getD (i+1) 0))∧Step M w0 M w' (fD v)):=by
 refine bg (args:=[_]) (fn:=Tryz.f158) Tryz.func158 rfl (n:=61) Tryz.ntmps158 (aj (ae (ah rfl rfl (ab (aj (aj (ae (ad rfl rfl (fS ao rfl ho rfl (cg rfl rfl rfl (ab ?_)))))))))));refine bM rfl (fun c1=>?_) (fun c1=>?_)
 ·refine aj (ae (ad rfl rfl (ah rfl rfl (ab (aP ?_)))));obtain⟨a,cap,rfl,hc⟩:=ho.isSlice;exact aV rfl rfl ⟨a,xs.length,cap,rfl,⟨fun _ i hi=>by omega,fun _=>rfl⟩,(au _ _).cB (fun _ h=>h.elim) (fun b hb=>ho.mut_ b hb)⟩
 ·obtain⟨g,cap,cur,rfl,Ux,RA,Ft⟩:=ho.we (ho.CW (by omega));obtain⟨_,yH,wx,tT⟩:=ho.isSlice;simp only[fY]at wx;have lL:xs.length≤cap:=by omega
  have hN:∀b,b=g→fD (.slice (some ⟨g,0,none⟩) xs.length cap) b:=fun b hb=>by rw[hb];rfl
  refine aT (aj (aj (ae (ah rfl rfl (ab (aY ?_))))));refine dh (σ:=Nat) (fun s=>[(0,.slice (some ⟨g,0,none⟩) xs.length cap),(3,.int .i64 s)]) (fun s w=>1≤s∧s≤xs.length∧(∀i,i+1<s→xs.getD i 0≠xs.getD (i+1) 0)∧Step M w0 M w aC) (fun s=>xs.length-s) 1 (.cons rfl (.cons rfl .nil)) ?_ ?_
  ·exact⟨aR _,by omega,fun i hi=>by omega,au _ _⟩
  ·rintro k w1 ⟨uk,hk,ko,S⟩;refine aj (aj (ae (ad rfl rfl (ad rfl rfl (Rg.mM ao rfl rfl (cg rfl rfl rfl (ab ?_)))))));refine bM rfl (fun c4=>?_) (fun c4=>?_)
   ·refine aT (aj (aY (aj ?_)));obtain⟨a,hx⟩:∃x,(xs)[k]? =some x:=⟨_,ar (by omega)⟩;obtain⟨b,hy⟩:∃x,(xs)[k-1]? =some x:=⟨_,ar (by omega)⟩;apply nq mixed rfl rfl;intro wD6 RL;have tW:=RL M;refine ad rfl rfl ?_;refine ab ⟨rfl,rfl,rfl,?_⟩;refine ad rfl rfl ?_;refine ab ⟨rfl,rfl,rfl,?_⟩;refine xd (size:=1) ao I3 rfl rfl rfl (by omega) (q:=k) (by rw[ay];omega) ?_;refine ab ⟨rfl,rfl,rfl,?_⟩;refine cd (M:=fun b=>M b∧b≠g) ax rfl rfl (((ho.aO S).aO tW).LY hx) (aq _ _) (fun kE=>?_);refine ab ⟨rfl,rfl,rfl,?_⟩;refine ad rfl rfl ?_;refine ab ⟨rfl,rfl,rfl,?_⟩;refine ad rfl rfl ?_;refine ab ⟨rfl,rfl,rfl,?_⟩;refine fv rfl rfl rfl (by omega) ?_;refine ab ⟨rfl,rfl,rfl,?_⟩;refine xd (size:=1) ao I3 rfl rfl rfl (by omega) (q:=k-1) (by omega) ?_;refine ab ⟨rfl,rfl,rfl,?_⟩;refine cd (M:=fun b=>M b∧b≠g) ax rfl rfl (((ho.aO S).aO tW).LY hy) (aq _ _) (fun kE=>?_);refine ab ⟨rfl,rfl,rfl,?_⟩;refine tY rfl rfl rfl ?_;refine ab ⟨rfl,rfl,rfl,?_⟩;refine eD ?_;refine bM rfl (fun c6=>?_) (fun c6=>?_)
    ·refine aj (ae (ad rfl rfl (ad rfl rfl (Rg.LW ao I3 rfl rfl rfl (by omega) (aU (v':= .slice (some ⟨g,k,none⟩) (xs.length-k) (cap-k)) (by rw[ay,eU]) (ah rfl rfl (ab (aj (aj (ae (ah rfl rfl ?_)))))))))));refine ab (aY ?_);refine dh (σ:=Nat×Nat) (fun s=>[(0,.slice (some ⟨g,0,none⟩) xs.length cap),(3,.int .i64 s.2),(4,.slice (some ⟨g,k,none⟩) (xs.length-k) (cap-k)),(5,.int .i64 s.1)]) (fun s w=>1≤s.1∧s.1≤xs.length-k∧k≤s.2∧s.2+1≤k+s.1∧∃ys,Own (RT.int .i64) 3 M w base (.slice (some ⟨g,0,none⟩) xs.length cap) ys∧ys.length=xs.length∧Step M w0 M w (fD (.slice (some ⟨g,0,none⟩) xs.length cap))) (fun s=>xs.length-k-s.1) (1,k) (.cons rfl (.cons rfl (.cons rfl (.cons rfl .nil)))) ?_ ?_
     ·exact⟨aR _,by simp only;omega,aR _,aR _,xs,(ho.aO S).aO tW,rfl,(S.aB tW).cB (fun _ h=>h.elim) (fun b hb=>ho.mut_ b hb)⟩
     ·rintro⟨k2,kk⟩ w2 ⟨h21,h22,ajh,aji,ys,tM,GG,S2⟩;dsimp only at h21 h22 ajh aji tM ⊢;refine aj (aj (ae (ad rfl rfl (ad rfl rfl (Rg.mM ao rfl rfl (cg rfl rfl rfl (ab ?_)))))));refine bM rfl (fun c9=>?_) (fun c9=>?_)
      ·refine aT (aj (aY (aj ?_)));obtain⟨a2,hx⟩:∃x,(ys)[k+k2]? =some x:=⟨_,ar (by omega)⟩;obtain⟨b2,hy⟩:∃x,(ys)[k+k2-1]? =some x:=⟨_,ar (by omega)⟩;apply nq mixed rfl rfl;intro Hu Hv;have iq:=Hv M;refine ad rfl rfl ?_;refine ab ⟨rfl,rfl,rfl,?_⟩;refine ad rfl rfl ?_;refine ab ⟨rfl,rfl,rfl,?_⟩;refine xd (size:=1) ao I3 rfl rfl rfl (by omega) (q:=k+k2) (by rw[ay];omega) ?_;refine ab ⟨rfl,rfl,rfl,?_⟩;refine cd (M:=fun b=>M b∧b≠g) ax rfl rfl ((tM.aO iq).LY hx) (aq _ _) (fun kE=>?_);refine ab ⟨rfl,rfl,rfl,?_⟩;refine ad rfl rfl ?_;refine ab ⟨rfl,rfl,rfl,?_⟩;refine ad rfl rfl ?_;refine ab ⟨rfl,rfl,rfl,?_⟩;refine fv rfl rfl rfl (by omega) ?_;refine ab ⟨rfl,rfl,rfl,?_⟩;refine xd (size:=1) ao I3 rfl rfl rfl (by omega) (q:=k+k2-1) (by omega) ?_;refine ab ⟨rfl,rfl,rfl,?_⟩;refine cd (M:=fun b=>M b∧b≠g) ax rfl rfl ((tM.aO iq).LY hy) (aq _ _) (fun kE=>?_);refine ab ⟨rfl,rfl,rfl,?_⟩;refine eM rfl rfl rfl ?_;refine ab ⟨rfl,rfl,rfl,?_⟩;refine eD ?_;refine bM rfl (fun GV=>?_) (fun GV=>?_)
       ·refine aj (ae (ad rfl rfl (ad rfl rfl (ad rfl rfl (ad rfl rfl (xd (size:=1) ao I3 rfl rfl rfl (by omega) (q:=k+k2) (by rw[ay];omega) ?_))))));refine cd (M:=fun b=>M b∧b≠g) ax rfl rfl ((tM.aO iq).LY hx) (aq _ _) (fun kE=>?_);refine xd (size:=1) ao I3 rfl rfl rfl (by omega) (q:=kk) (by rw[ay];omega) ?_;refine Rg.LX (M:=M) I3 rfl rfl (tM.aO iq) (by omega) kE (fun w5 ho5 s5=>?_);refine ab (ae (ad rfl rfl (bG rfl rfl rfl (by omega) (ah rfl rfl (ab (ae (ad rfl rfl (bG rfl rfl rfl (by omega) (ah rfl rfl (ab ?_))))))))));refine⟨rfl,(k2+1,_),(.cons rfl (.cons rfl (.cons rfl (.cons rfl .nil)))),?_,?_⟩
        ·first
         |exact⟨by simp only;omega,by simp only;omega,by simp only;omega,by simp only;omega,_,ho5,by rw[eY];exact GG,(S2.aB iq).trans s5 (fun b _ hb=>hN b hb)⟩
         |exact⟨by simp only;omega,by simp only;omega,by simp only;omega,by simp only;omega,ys,tM.aO iq,GG,S2.aB iq⟩
        ·simp only;omega
       ·refine aT (ae (ad rfl rfl (bG rfl rfl rfl (by omega) (ah rfl rfl (ab ?_)))));refine⟨rfl,(k2+1,_),(.cons rfl (.cons rfl (.cons rfl (.cons rfl .nil)))),?_,?_⟩
        ·first
         |exact⟨by simp only;omega,by simp only;omega,by simp only;omega,by simp only;omega,_,ho5,by rw[eY];exact GG,(S2.aB iq).trans s5 (fun b _ hb=>hN b hb)⟩
         |exact⟨by simp only;omega,by simp only;omega,by simp only;omega,by simp only;omega,ys,tM.aO iq,GG,S2.aB iq⟩
        ·simp only;omega
      ·refine cH (aj (ae (ad rfl rfl (ad rfl rfl (Rg.LW ao I3 rfl rfl rfl (by omega) (aU (v':= .slice (some ⟨g,kk,none⟩) (xs.length-kk) (cap-kk)) (by rw[ay,eU]) ?_))))));refine Rg.UT (M:=M) ao I3 rfl tM (by omega) (by omega) (by decide) (fun w6 uI s6=>?_);refine ab (aj (ae (ad rfl rfl (ad rfl rfl (Rg.UQ ao I3 rfl rfl rfl (by omega) (aU (v':= .slice (some ⟨g,0,none⟩) kk cap) (by rw[ay]) (ah rfl rfl (ab (aP ?_)))))))));exact aV rfl rfl ⟨_,kk,cap,rfl,⟨fun h=>by omega,fun h=>absurd (h (k-1) (by omega)) (by rw[show k-1+1=k from by omega,iD hy,iD hx];exact fun h=>h c6.symm)⟩,S2.trans s6 (fun b _ hb=>hN b hb)⟩
    ·refine aT (ae (ad rfl rfl (bG rfl rfl rfl (by omega) (ah rfl rfl (ab ?_)))));refine⟨rfl,k+1,(.cons rfl (.cons rfl .nil)),?_,?_⟩
     ·refine⟨by omega,by omega,fun i hi=>?_,S.aB tW⟩;by_cases e:i+1=k
      ·rw[e,iD hx,show i=k-1 from by omega,iD hy];exact fun h=>c6 h.symm
      ·exact ko i (by omega)
     ·show xs.length-(k+1)<xs.length-k;omega
   ·refine cH (aj (ae (ad rfl rfl (ah rfl rfl (ab (aP ?_))))));exact aV rfl rfl ⟨_,xs.length,cap,rfl,⟨fun _ i hi=>ko i (by omega),fun _=>rfl⟩,S.cB (fun _ h=>h.elim) (fun b hb=>ho.mut_ b hb)⟩
end Go.K
namespace Go.K
open Go.Proofs
namespace TKSortP
theorem E65:Enters Tryz.prog 65:=enters Tryz.func65 rfl (by decide)
theorem E66:Enters Tryz.prog 66:=enters Tryz.func66 rfl (by decide)
end TKSortP
open TKSortP
set_option maxRecDepth 10000
open Go.Proofs Go.Sort
abbrev Ld (a:Int) (u:Value):Obj:= .cells #[.int .i64 a,u] 83 (0,0)
theorem RM {a b:Int} {u v:Value} (w0:World) (hu:u.oneCell'=true) (hv:v.oneCell'=true):
  Spec Tryz.prog 65 #[.agg #[.int .i64 a,u],.agg #[.int .i64 b,v]] w0 (fun r w=>r= .int .i64 (if a<b then-1 else if a>b then 1 else 0)∧w=(w0.alloc (Ld a u)).alloc (Ld b v)):=by
 refine bg (args:=[_,_]) (fn:=Tryz.f65) Tryz.func65 rfl (n:=10) Tryz.ntmps65 (aj (ae (Rg.Nj rfl rfl ?_)));change Rg _ _ _ _ _ _ _ (w0.alloc (Ld a u)) _;refine Rg.Nj rfl rfl ?_;change Rg _ _ _ _ _ _ _ ((w0.alloc (Ld a u)).alloc (Ld b v)) _;have ga:((w0.alloc (Ld a u)).alloc (Ld b v)).heap[w0.heap.size]? =some (Ld a u):=(cW aC _ _).aL (cj w0 _);have gb:=cj (w0.alloc (Ld a u)) (Ld b v);refine ah rfl rfl (ab (aj (ae (bJ (o':=0) bK rfl rfl I3 (by decide) rfl rfl (aN ax rfl rfl rfl ga rfl (aU (v':= .int .i64 a) rfl (bJ (o':=0) bK rfl rfl I3 (by decide) rfl rfl (aN ax rfl rfl rfl gb rfl (aU (v':= .int .i64 b) rfl ?_)))))))));refine aX rfl rfl E66 vg (fun r7 w7 hc=>?_);obtain⟨rfl,rfl⟩:=hc;refine ah rfl rfl (ab (aP ?_));exact aV rfl rfl ⟨rfl,rfl⟩
abbrev TP (ps:List (Po×Value)):Type:={q:Po×Value // q∈ps}
def yc {ps:List (Po×Value)} (x:TP ps):List Value:=[.int .i64 x.1.1.1,x.1.2]
def RN {ps:List (Po×Value)} (x y:TP ps):Int:=if x.1.1.1<y.1.1.1 then-1 else if x.1.1.1>y.1.1.1 then 1 else 0
theorem pU {ps:List (Po×Value)} (x y:TP ps):RN x y<0↔x.1.1.1<y.1.1.1:=by
 unfold RN;by_cases h:x.1.1.1<y.1.1.1
 ·rw[if_pos h];exact⟨fun _=>h,fun _=>by omega⟩
 ·rw[if_neg h];by_cases h2:x.1.1.1>y.1.1.1
  ·rw[if_pos h2];exact⟨fun h3=>by omega,fun h3=>absurd h3 h⟩
  ·rw[if_neg h2];exact⟨fun h3=>by omega,fun h3=>absurd h3 h⟩
theorem RO {ps:List (Po×Value)}:SWO (Go.Proofs.ltOf (RN (ps:=ps))) where
 irrefl x:=by simp only[Go.Proofs.ltOf,decide_eq_false_iff_not,pU];omega
 trans x y z h1 h2:=by simp only[Go.Proofs.ltOf,decide_eq_true_eq,pU]at*;omega
 ntrans x y z h1 h2:=by simp only[Go.Proofs.ltOf,decide_eq_false_iff_not,pU]at*;omega
theorem ajj (w:World):(isAgg 83).run Tryz.prog w= .ok true w:=by simp[isAgg,cq,run_underlying bK]
theorem abP (w:World):(Go.sizeOf 83).run Tryz.prog w= .ok 2 w:=by
 obtain⟨i,h1,_,h2,_⟩:=l4.get;simp[Go.sizeOf,typeInfo,cq,program,Sem.run,h1,h2]
theorem OY {ps:List (Po×Value)} [Inhabited (TP ps)] (h1:∀q∈ps,q.2.oneCell'=true) (fD off size:Nat) (w:World):CmpLays Tryz.prog 65 #[] (yc (ps:=ps)) 2 RN fD off size w:=fun m os dk hs x y=>
 (show Calls Tryz.prog 65 #[.agg #[.int .i64 x.1.1.1,x.1.2],.agg #[.int .i64 y.1.1.1,y.1.2]] (sortWorldK yc 2 w fD off m dk os) (fun e w'=>∃v,e= .returned v∧_∧_)from RM (a:=x.1.1.1) (b:=y.1.1.1) _ (h1 _ x.2) (h1 _ y.2)).mono fun e w' ⟨v,h1,h2,h3⟩=>⟨by rw[h1,h2];rfl,0,#[Ld x.1.1.1 x.1.2,Ld y.1.1.1 y.1.2],by rw[h3];simp only[zB,Go.Sort.grow_grow];rfl⟩
theorem abQ {ps:List (Po×Value)} [Inhabited (TP ps)] (h1:∀q∈ps,q.2.oneCell'=true) (W4:∀a∈ps,∀b∈ps,a.1.1=b.1.1→a=b) (fD off cap:Nat) (d:Array (TP ps)) (w:World) (hH:HoldsK yc 2 w fD off d) (hblk:fD<w.heap.size) (jW:d.size<4611686018427387904):
  Spec Tryz.prog 64 #[.slice (some ⟨fD,off,none⟩) d.size cap,.func (.func 65) #[] #[]] w (fun v w'=>v= .tuple #[]∧∃n os,w'=sortWorldK yc 2 w fD off n (d.toList.mergeSort fun x y=> !(Go.Proofs.ltOf RN) y x).toArray os):=by
 exact(Go.Proofs.AnyQ.slices_SortFunc_total Tryz.W2 2 ajj abP yc (fun _=>rfl) (fun x v hv=>by simp[yc]at hv;rcases hv with rfl|rfl<;>first|rfl|exact h1 _ x.2) RN RO 65 #[] fD off cap d w E65 (OY h1 fD off d.size w) hH hblk jW (fun x y h1 h2=>by
  simp only[Go.Proofs.ltOf,decide_eq_false_iff_not,pU]at h1 h2;exact Subtype.ext (W4 _ x.2 _ y.2 (by omega)))).mono fun e w' ⟨h1,h2⟩=>⟨_,h1,rfl,h2⟩
theorem Jj {M:aD} {w:World}:∀{l:List Po} {C:List Value},eg RT.po M w l C→∃ps:List (Po×Value),ps.map (·.1)=l∧C=ps.flatMap (fun q=>[.int .i64 q.1.1,q.2])∧∀q∈ps,RT.po.R M w q.1 [.int .i64 q.1.1,q.2]
 |[],C,h=>⟨[],rfl,h,fun q h=>by cases h⟩
 |x::l,C,⟨vs,r,h1,h2,h3⟩=>by
  obtain⟨ps,h4,h5,h6⟩:=Jj h3;obtain⟨va,vb,rfl,⟨rfl,hk⟩,hb⟩:=h2;have PJ:=hb;obtain⟨a,cap,rfl,_⟩:=hb;refine⟨(x,.slice a x.2.length cap)::ps,by simp[h4],by rw[h1,h5];rfl,fun q hq=>?_⟩;rcases ca.1 hq with rfl|hq
  ·exact⟨_,_,rfl,⟨rfl,hk⟩,PJ⟩
  ·exact h6 q hq
theorem FI {M:aD} {w:World}:∀{ps:List (Po×Value)},(∀q∈ps,RT.po.R M w q.1 [.int .i64 q.1.1,q.2])→eg RT.po M w (ps.map (·.1)) (ps.flatMap fun q=>[.int .i64 q.1.1,q.2])
 |[],_=>rfl
 |q::ps,h=>⟨_,_,rfl,h q (bH ..),FI fun q hq=>h q (b9 _ hq)⟩
theorem FJ {M:aD} {base:Nat} {v:Value} {l:List Po} (w0:World) (ho:Own RT.po 83 M w0 base v l) (eN:l.Pairwise fun a b=>a.1≠b.1) (h0:0<l.length) (hl:l.length≤100000000):
  Spec Tryz.prog 64 #[v,.func (.func 65) #[] #[]] w0 (fun r w=>r= .tuple #[]∧∃s:List Po,s.Perm l∧(s.Pairwise fun a b=>a.1≤b.1)∧Own RT.po 83 M w base v s∧Step M w0 M w (fD v)):=by
 have atj:=ho.mut_;obtain⟨⟨C,⟨hC,hr⟩,hA⟩,hm⟩:=ho;rcases hr with⟨rfl,h0'⟩|⟨g,cap,cur,rfl,hb,hg,hle,VQ,K5,rS⟩
 ·omega
 ·obtain⟨ps,rfl,rfl,ky⟩:=Jj hA;have tp:∀q∈ps,q.2.oneCell'=true:=fun q hq=>RT.po.one (ky q hq) _ (by simp)
  have P5:=cx.1 eN
  have W4:∀a∈ps,∀b∈ps,a.1.1=b.1.1→a=b:=fun a ha b hb e=>by
   obtain⟨i,hi,rfl⟩:=xO.1 ha;obtain⟨j,hj,rfl⟩:=xO.1 hb;rcases eR i j with h|h|h
   ·exact absurd e ((cn.1 P5) i j hi hj h)
   ·subst h;rfl
   ·exact absurd e.symm ((cn.1 P5) j i hj hi h)
  rw[aH]at h0 hl hle rS hC
  haveI:Inhabited (TP ps):=⟨⟨ps[0],vM _⟩⟩
  obtain⟨d,hd⟩:∃d:Array (TP ps),d.toList.map (·.1)=ps:=⟨ps.attach.toArray,by rw[List.toList_toArray];exact List.attach_map_subtype_val ps⟩;have jW:d.size=ps.length:=by have:=congrArg List.length hd;simpa using this
  have hk:∀x:TP ps,(yc x).length=2:=fun _=>rfl
  have Hi:∀t:List (TP ps),(t.map (·.1)).flatMap (fun q:Po×Value=>[Value.int .i64 q.1.1,q.2])=t.flatMap yc:=fun t=>by rw[List.flatMap_map];rfl
  have e2:RT.po.n=2:=rfl;rw[e2]at rS K5 hC;have hH:HoldsK yc 2 w0 g 0 d:=BD hk (by omega) hg (by rw[jW,rS,←Hi,hd]);have hs:=abQ tp W4 g 0 cap d w0 hH (ak hg) (by omega);rw[jW]at hs;rw[aH];refine hs.mono fun r w' ⟨h1,n,os,h2⟩=> ?_
  have hp:=jo d.toList fun x y=> !(ltOf RN) y x
  have RP:(d.toList.mergeSort fun x y=> !(ltOf RN) y x).Pairwise fun a b=>a.1.1.1≤b.1.1.1:=by
   refine(List.pairwise_mergeSort (fun a b c h1 h2=>?_) (fun a b=>?_) _).imp fun h=>?_
   ·simp only[ltOf,jc,decide_eq_false_iff_not,pU]at*;omega
   ·simp only[ltOf,qq,jc,decide_eq_false_iff_not,pU];omega
   ·simp only[ltOf,jc,decide_eq_false_iff_not,pU]at h;omega
  generalize (d.toList.mergeSort fun x y=> !(ltOf RN) y x)=us at hp RP h2;have K6:(us.map (·.1)).length=ps.length:=by rw[aH,hp.length_eq,AE,jW]
  have xS:us.toArray.size*2=ps.length*2:=by rw[←K6];simp
  have kM:Step M w0 M w' (fD (.slice (some ⟨g,0,none⟩) ps.length cap)):=by
   have hgm:M g:=hm g (by rw[aH];rfl);have s:=qd (enc:=yc (ps:=ps)) (k:=2) (w:=w0) (g:=g) (n:=n) (d:=us.toArray) (os:=os);rw[←h2]at s;exact⟨fun h b hb=>iE (h b hb) s.size,s.os,s.tape,s.output,s.size,fun _ _=>Iff.rfl,fun b hb hn=>s.same b hb (fun e=>hn (by have e:b=g:=e;subst e;rfl)),fun b hb=>by have hb:some g=some b:=hb;cases hb;exact hgm⟩
  refine⟨h1,(us.map (·.1)).map (·.1),?_,?_,⟨⟨(us.map (·.1)).flatMap (fun q:Po×Value=>[Value.int .i64 q.1.1,q.2]),⟨?_,.inr ⟨g,cap,putCells id 0 (flatK yc 2 us.toArray) cur,by rw[aH,K6],hb,by rw[h2];exact sK hg,by rw[aH,K6];exact hle,VQ,by rw[e2,←K5];simp[putCells],?_⟩⟩,?_⟩,fun b hb=>hm b (by rw[aH];exact hb)⟩,kM⟩
  ·have:=(hp.map (·.1)).map (·.1);rw[hd]at this;exact this
  ·exact cx.2 (cx.2 RP)
  ·rw[Hi,nI hk,aH,aH,e2]
  ·rw[Hi,aH,K6,e2,←xS,←size_flatK yc,sL (by rw[size_flatK,xS,K5];omega),uJ hk (by omega)]
  ·refine FI fun q hq=> ?_
   obtain⟨x,hx,rfl⟩:=bV.1 hq;exact RT.po.le (fun b hb yh=>⟨yh,kM.same b hb fun e=>yh (kM.sub b e)⟩) (ky x.1 x.2)
end Go.K
namespace Go.Proofs
open Go.Shelf
def Tryz.C6:Go.Shelf.Ren:=⟨fun|44=>163|n=>n,fun|25=>57|26=>9|3=>3|4=>4|0=>0|n=>n,fun|n=>n⟩
theorem Tryz.FK:Go.Proofs.SlLaysN.n44 Tryz.prog Tryz.C6:={
 mixed:=by kernel_rfl
 f44:=⟨Tryz.f163.name,by decide,Tryz.func163.trans (congrArg some (by kernel_rfl))⟩
 t0:=fK
 a0:=lS
 z0:=kj
 v0:=gM
 t3:=ax
 a3:=lT
 z3:=km
 v3:=gN
 t4:=iX
 a4:=sk
 z4:=oB
 v4:=jG
 t25:=aJ
 a25:=Tryz.isAgg57
 z25:=Tryz.sizeOf57
 v25:=Tryz.zeroValue57
 t26:=aK
 a26:=lU
 z26:=kn
 v26:=gO
 i26:=by kernel_rfl}
def Tryz.wT:Go.Shelf.Ren:=⟨fun|4=>216|n=>n,fun|22=>57|25=>9|3=>3|4=>4|9=>9|20=>20|0=>0|n=>n,fun|n=>n⟩
theorem Tryz.T0:Go.Proofs.Lays8.n4 Tryz.prog Tryz.wT:={
 mixed:=by kernel_rfl
 f4:=⟨Tryz.f216.name,by decide,Tryz.func216.trans (congrArg some (by kernel_rfl))⟩
 t0:=fK
 a0:=lS
 z0:=kj
 v0:=gM
 t3:=ax
 a3:=lT
 z3:=km
 v3:=gN
 t4:=iX
 a4:=sk
 z4:=oB
 v4:=jG
 t9:=aK
 a9:=lU
 z9:=kn
 v9:=gO
 t20:=Tryz.underlying20
 a20:=Tryz.isAgg20
 z20:=Tryz.sizeOf20
 v20:=Tryz.zeroValue20
 t22:=aJ
 a22:=Tryz.isAgg57
 z22:=Tryz.sizeOf57
 v22:=Tryz.zeroValue57}
end Go.Proofs
namespace Go.K
open Go.Sort Go.Proofs
section
variable {α:Type} [Inhabited α] {enc:α→Value}
theorem B3 {w:World} {g n:Nat} {cur:Array Value} {e:TypeId} {d:Array α} {os:Array Obj} (hg:w.heap[g]? =some (.cells cur e (0,0))):(grow (putRow enc (Go.Sort.ahead w n) g 0 d) os).heap[g]? =some (.cells (putCells enc 0 d cur) e (0,0)):=by
 have dY:g<w.heap.size:=ak hg
 have h1:(w.heap.modify g (onCells (putCells enc 0 d)))[g]? =some (.cells (putCells enc 0 d cur) e (0,0)):=by
  rw[jS,if_pos rfl,hg];rfl
 show((w.heap.modify g (onCells (putCells enc 0 d)))++os)[g]? =_;rw[Array.getElem?_append_left (by simpa using dY)];exact h1
theorem xF {w:World} {g n:Nat} {d:Array α} {os:Array Obj}:Step allM w allM (grow (putRow enc (Go.Sort.ahead w n) g 0 d) os) (fun b=>b=g):=
 ⟨fun h=>absurd (h w.heap.size trivial) (jC _),rfl,rfl,rfl,by show _≤((w.heap.modify g _)++os).size;simp,fun _ _=>Iff.rfl,fun b hb hn=>by
  have hn: ¬b=g:=hn;show((w.heap.modify g (onCells (putCells enc 0 d)))++os)[b]? =_;rw[Array.getElem?_append_left (by simpa using hb),jS,if_neg (fun h=>hn h.symm)],fun _ _=>trivial⟩
theorem qZ {d:Array α} {cur:Array Value} {m:Nat} (h:d.size≤cur.size) (hm:m≤d.size):(putCells enc 0 d cur).toList.take m=(d.toList.map enc).take m:=by
 apply fq;intro j;rw[ck,ck];by_cases hj:j<m
 ·have h1:j<d.size:=by omega
  have h2:j<cur.size:=by omega
  rw[if_pos hj,if_pos hj];simp[putCells,h1,h2]
 ·rw[if_neg hj,if_neg hj]
theorem holds_of {w:World} {g:Nat} {cur:Array Value} {e:TypeId} {d:Array α} (hg:w.heap[g]? =some (.cells cur e (0,0))) (hC:cur.toList.take d.size=d.toList.map enc):Holds enc w g 0 d:=fun j hj=>by
 have h1:(cur.toList.take d.size)[j]? =(d.toList.map enc)[j]? :=by rw[hC]
 rw[ck,if_pos hj,bj,Array.getElem?_toList,Array.getElem?_toList,Array.getElem?_eq_getElem hj,cY]at h1;constructor
 ·simp[World.cell?,hg,h1,hj]
 ·simp[World.frozen?,hg]
end
theorem Ap:∀{xs:List (List UInt8)} {C:List Value} {M:aD} {w:World},eg RT.str M w xs C→C=xs.map encStr∧∀x∈xs,x.length≤140737488355328
 |[],C,_,_,h=>⟨h,fun x hx=>by cases hx⟩
 |x::xs,C,_,_,⟨vs,r,h1,h2,h3⟩=>by
  obtain⟨h4,h5⟩:=Ap h3;obtain⟨h6,h7⟩:=h2;refine⟨by rw[h1,h4,h6];rfl,fun y hy=>?_⟩;rcases ca.1 hy with rfl|hy
  ·exact h7
  ·exact h5 y hy
theorem wU {M:aD} {w:World}:∀{xs:List (List UInt8)},(∀x∈xs,x.length≤140737488355328)→eg RT.str M w xs (xs.map encStr)
 |[],_=>rfl
 |x::xs,h=>⟨[encStr x],_,rfl,⟨rfl,h x (bH ..)⟩,wU fun y hy=>h y (b9 _ hy)⟩
theorem Ar {d:Array (List UInt8)} (hs:∀i j,i≤j→j<d.size→¬d[j]! <d[i]!):∀m,m≤d.size→(Go.Lib.compactUpTo d m).Pairwise (fun a b=>a<b)∧(∀x∈Go.Lib.compactUpTo d m,∃j,j<m∧x=d[j]!)∧∀j,j<m→d[j]! ∈Go.Lib.compactUpTo d m
 |0,_=>⟨List.Pairwise.nil,(fun x h=>by cases h),fun j h=>by omega⟩
 |m+1,hm=>by
  obtain⟨h1,h2,h3⟩:=Ar hs m (by omega);rw[Go.Lib.compactUpTo_succ]
  cases hk:Go.Lib.keeps d m with
  |true=>
   rw[if_pos rfl];have eN:m=0∨d[m]! ≠d[m-1]! :=by simpa[Go.Lib.keeps]using hk
   refine⟨iP.2 ⟨h1,by simp,fun a ha b hb=>?_⟩,fun x hx=>?_,fun j hj=>?_⟩
   ·rw[bS]at hb;subst hb;obtain⟨j,hj,rfl⟩:=h2 a ha;have h4:=hs j m (by omega) (by omega);rcases jZ d[j]! d[m]! with h|h|h
    ·exact h
    ·exfalso;have h5:=hs j (m-1) (by omega) (by omega);have h6:=hs (m-1) m (by omega) (by omega);rcases eN with h0|h0
     ·omega
     ·rcases jZ d[m-1]! d[m]! with h7|h7|h7
      ·rw[←h]at h7;exact h5 h7
      ·exact h0 h7.symm
      ·exact h6 h7
    ·exact absurd h h4
   ·rcases cr.1 hx with hx|hx
    ·obtain⟨j,hj,e⟩:=h2 x hx;exact⟨j,by omega,e⟩
    ·exact⟨m,by omega,bS.1 hx⟩
   ·rcases cE j m with h|h
    ·exact gC _ (h3 j h)
    ·obtain rfl:j=m:=by omega
     exact List.mem_append_right _ (bS.2 rfl)
  |false=>
   rw[if_neg (by simp),fT];have he:m≠0∧d[m]! =d[m-1]! :=by simpa[Go.Lib.keeps]using hk
   refine⟨h1,fun x hx=>?_,fun j hj=>?_⟩
   ·obtain⟨j,hj,e⟩:=h2 x hx;exact⟨j,by omega,e⟩
   ·rcases cE j m with h|h
    ·exact h3 j h
    ·obtain rfl:j=m:=by omega
     rw[he.2];exact h3 _ (by omega)
def jB (ks:List (List (List UInt8))):List (List UInt8):=Go.Lib.compact (ks.flatten.mergeSort fun x y=>decide (x≤y))
theorem As (ks:List (List (List UInt8))):(jB ks).Pairwise (fun a b=>a<b)∧∀x,x∈jB ks↔∃l∈ks,x∈l:=by
 have T1:(ks.flatten.mergeSort fun x y=>decide (x≤y)).Pairwise fun a b=>¬b<a:=by
  refine(List.pairwise_mergeSort (fun a b c h1 h2=>?_) (fun a b=>?_) _).imp fun h=>?_
  ·simp only[decide_eq_true_eq]at*
   intro h3;rcases jZ b c with h|h|h
   ·exact h1 (mq h h3)
   ·subst h;exact h1 h3
   ·exact h2 h
  ·simp only[qq,decide_eq_true_eq];rcases jZ a b with h|h|h
   ·exact .inl fun h'=>absurd h' (ja h)
   ·subst h;exact .inl (ji _)
   ·exact .inr fun h'=>absurd h' (ja h)
  ·simp only[decide_eq_true_eq]at h;exact h
 generalize hz:(ks.flatten.mergeSort fun x y=>decide (x≤y))=zs at T1
 have eV:∀x,x∈zs↔∃l∈ks,x∈l:=fun x=>by
  rw[←hz,(jo _ _).mem_iff,List.mem_flatten]
 obtain⟨h1,h2,h3⟩:=Ar (d:=zs.toArray) (fun i j jq hj=>by
  have SB:j<zs.length:=by simpa using hj
  have iy:i<zs.length:=by omega
  rw[getElem!_pos _ i (by simpa using iy),getElem!_pos _ j hj];rcases cE i j with h|h
  ·simpa using(cn.1 T1) i j iy SB h
  ·obtain rfl:i=j:=by omega
   exact ji _) zs.length (by simp)
 have e:jB ks=Go.Lib.compactUpTo zs.toArray zs.length:=by unfold jB Go.Lib.compact;rw[hz]
 rw[e];refine⟨h1,fun x=>?_⟩;rw[←eV];constructor
 ·intro hx;obtain⟨j,hj,rfl⟩:=h2 x hx;rw[getElem!_pos _ j (by simpa using hj)];simp
 ·intro hx;obtain⟨j,hj,rfl⟩:=xO.1 hx;have:=h3 j hj
  rwa [getElem!_pos _ j (by simpa using hj),List.getElem_toArray]at this
theorem KI (ks:List (List (List UInt8))):(jB ks).length≤ks.flatten.length:=by
 have h:=(As ks).1.imp (S:=fun a b=>a≠b) fun h e=>by subst e;exact ji _ h
 exact List.Nodup.length_le_of_subset h fun x hx=>by
  obtain⟨l,hl,hx⟩:=((As ks).2 x).1 hx;exact List.mem_flatten.2 ⟨l,hl,hx⟩
end Go.K
namespace Go.K
open Go.Proofs
set_option maxRecDepth 10000
open Go.Proofs Go.Sort
theorem nK:A5 RT.str:=fun _ _ _ _ _ _ h=>h
theorem KJ {base:Nat} {v:Value} {ts:List (List UInt8)} (w0:World) (ho:Own RT.str 9 allM w0 base v ts) (hl:ts.length≤100000000):
  Spec Tryz.prog 141 #[v] w0 (fun r w=>r= .tuple #[]∧Own RT.str 9 allM w base v (ts.mergeSort fun x y=>decide (x≤y))∧Step allM w0 allM w (nt v)):=by
 obtain⟨⟨C,⟨hC,hr⟩,hA⟩,hm⟩:=ho;rcases hr with⟨rfl,h0⟩|⟨g,cap,cur,rfl,hb,hg,hle,VQ,K5,rS⟩
 ·have LG:ts=[]:=cZ.1 h0;subst LG;exact(AnyM.slices_Sort_string_none Tryz.IW none 0 w0).mono fun e w' ⟨h1,h2⟩=>⟨_,h1,rfl,by rw[List.mergeSort_nil];exact dz _ _ _ _ _,by rw[h2];exact(au allM w0).cB (fun _ h=>h.elim) (fun _ _=>trivial)⟩
 ·obtain⟨rfl,jW⟩:=Ap hA;have e1:RT.str.n=1:=rfl;rw[e1,eU]at rS K5;have hH:Holds encStr w0 g 0 ts.toArray:=holds_of hg (by simpa using rS);refine(AnyM.slices_Sort_string Tryz.IW g 0 cap ts w0 hH (ak hg) (by omega)).mono fun e w' ⟨h1,n,os,h2⟩=>⟨_,h1,rfl,?_,?_⟩
  ·rw[h2];have hp:=jo ts fun x y=>decide (x≤y)
   generalize (ts.mergeSort fun x y=>decide (x≤y))=us at hp;have K6:us.length=ts.length:=hp.length_eq;refine⟨⟨us.map encStr,⟨by simp[e1],.inr ⟨g,cap,_,by rw[K6],hb,B3 hg,by omega,VQ,by rw[e1,eU,←K5];simp[putCells],?_⟩⟩,wU fun x hx=>jW x (hp.mem_iff.1 hx)⟩,fun _ _=>trivial⟩;rw[e1,eU,qZ (by simp;omega) (by simp),aW (by simp)]
  ·rw[h2];exact xF.cB (fun b hb=>by have hb:b=g:=hb;subst hb;rfl) (fun _ _=>trivial)
theorem KK {base:Nat} {v:Value} {ts:List (List UInt8)} (w0:World) (ho:Own RT.str 9 allM w0 base v ts) (hl:ts.length≤100000000):
  Spec Tryz.prog 163 #[v] w0 (fun r w=>Own RT.str 9 allM w base r (Go.Lib.compact ts)∧Step allM w0 allM w (nt v)):=by
 obtain⟨⟨C,⟨hC,hr⟩,hA⟩,hm⟩:=ho;rcases hr with⟨rfl,h0⟩|⟨g,cap,cur,rfl,hb,hg,hle,VQ,K5,rS⟩
 ·have LG:ts=[]:=cZ.1 h0;subst LG;exact(AnyG.slices_Compact_string_empty Tryz.FK none 0 w0).mono fun e w' ⟨h1,h2⟩=>⟨_,h1,dz _ _ _ _ _,by rw[h2];exact(au allM w0).cB (fun _ h=>h.elim) (fun _ _=>trivial)⟩
 ·obtain⟨rfl,jW⟩:=Ap hA;have e1:RT.str.n=1:=rfl;rw[e1,eU]at rS K5;have hH:Holds encStr w0 g 0 ts.toArray:=holds_of hg (by simpa using rS);have lL:=Go.Lib.compact_length_le ts;refine(AnyG.slices_Compact_string Tryz.FK g 0 cap ts w0 hH (by omega) hle).mono fun e w' ⟨h1,n,h2⟩=>⟨_,h1,?_,?_⟩
  ·have xT:w'=grow (putRow encStr (Go.Sort.ahead w0 n) g 0 (Go.Lib.compact ts++List.replicate (ts.length-(Go.Lib.compact ts).length) []).toArray) #[]:=by rw[grow_empty];exact h2
   rw[xT];refine⟨⟨(Go.Lib.compact ts).map encStr,⟨by simp[e1],.inr ⟨g,cap,_,rfl,hb,B3 hg,by omega,VQ,by rw[e1,eU,←K5];simp[putCells],?_⟩⟩,wU fun x hx=>jW x ?_⟩,fun _ _=>trivial⟩
   ·rw[e1,eU,qZ (by simp;omega) (by simp)];simp
   ·unfold Go.Lib.compact Go.Lib.compactUpTo at hx;obtain⟨j,hj,rfl⟩:=bV.1 hx;have hj:=tj.1 (fU.1 hj).1;rw[getElem!_pos _ j (by simpa using hj)];simp
  ·have xT:w'=grow (putRow encStr (Go.Sort.ahead w0 n) g 0 (Go.Lib.compact ts++List.replicate (ts.length-(Go.Lib.compact ts).length) []).toArray) #[]:=by rw[grow_empty];exact h2
   rw[xT];exact xF.cB (fun b hb=>by have hb:b=g:=hb;subst hb;rfl) (fun _ _=>trivial)
theorem KL {n:Nat} (w0:World) (hn:n≤1000000000):Spec Tryz.prog 216 #[.slice none 0 0,.int .i64 n] w0 (fun r w=>Own RT.str 9 allM w w0.heap.size r []∧Step allM w0 allM w aC):=by
 rcases Nat.eq_zero_or_pos n with rfl|h
 ·exact(Any8.slices_Grow_room Tryz.T0 none 0 0 0 w0 (aR _) (by omega) (by omega) (aR _)).mono fun e w' ⟨h1,h2⟩=>⟨_,h1,dz _ _ _ _ _,by rw[h2];exact au _ _⟩
 ·obtain⟨i0,hi,hz,hs,hb⟩:=I9.get;refine(Any8.slices_Grow_grow Tryz.T0 i0 _ hi hz (by omega) none 0 0 n [] w0 (aR _) (by omega) (by rw[hb];omega) (by omega) (by simp) (fun _=>rfl) (fun a h=>by cases h)).mono fun e w' ⟨h1,h2⟩=>⟨_,h1,?_,?_⟩
  ·have hG:n≤grownCap w0 n 0 (Tryz.wT.t 25):=grownCap_ge w0 _ _ _;have hm:=grownCap_le_maxLen w0 (0+n) 0 9 (by unfold maxLen;omega);rw[h2];refine⟨⟨[],⟨rfl,.inr ⟨w0.heap.size,_,_,rfl,aR _,by exact cj w0.drew _,bD _,hm,?_,by simp⟩⟩,rfl⟩,fun _ _=>trivial⟩;show _=grownCap w0 (0+n) 0 (Tryz.wT.t 25)*1;simp[Builtin.zeroCells,Value.cells];omega
  ·rw[h2];exact(me allM w0).aB (cW allM w0.drew _)
end Go.K
namespace Go.K
open Go.Proofs
namespace TKJoinB
theorem ajk:Enters Tryz.prog 113:=enters Tryz.func113 rfl (by decide)
theorem ajl:Enters Tryz.prog 141:=enters Tryz.func141 rfl (by decide)
theorem ajm:Enters Tryz.prog 162:=enters Tryz.func162 rfl (by decide)
theorem ajn:Enters Tryz.prog 163:=enters Tryz.func163 rfl (by decide)
theorem ajo:Enters Tryz.prog 216:=enters Tryz.func216 rfl (by decide)
end TKJoinB
open TKJoinB
set_option maxRecDepth 10000
theorem FL {ks:List (List (List UInt8))} {i:Nat} {l:List (List UInt8)} (h:ks[i]? =some l):((ks.take (i+1)).flatten).length=(ks.take i).flatten.length+l.length∧(ks.take (i+1)).flatten=(ks.take i).flatten++l:=by
 rw[bI,h,cJ,List.flatten_append,a8];simp
theorem C7 (ks:List (List (List UInt8))) (i:Nat):(ks.take i).flatten.length≤ks.flatten.length:=by
 conv=>rhs;rw[←vH i ks,List.flatten_append,a8]
 omega
theorem C8 {M:aD} {ks:List (List (List UInt8))} {v0:Value} (w0:World) (hM:Lt M w0) (hv:((RT.str.sl).sl).V M w0 ks v0) (hl:ks.flatten.length≤100000000):
  Spec Tryz.prog 162 #[v0] w0 (fun v w=>∃M',Own RT.str 9 M' w w0.heap.size v ks.flatten∧Lt M' w∧Step M w0 M' w aC):=by
 have hlen:=dD hv;have jO:=hM;refine bg (args:=[_]) (fn:=Tryz.f162) Tryz.func162 rfl (n:=36) Tryz.ntmps162 ?_;have S:Step M w0 M w0 aC:=(au _ _).cB (fun _ h=>h.elim) (fun _ h=>h.elim);refine aj (ae (ah rfl rfl (ab (aj (ae (ah rfl rfl (ab (aj (aj (ae (ad rfl rfl ?_)))))))))));refine bN Tryz.underlying120 rfl hv rfl (ad rfl rfl (ab (aY ?_)));refine dh (σ:=Nat) (fun i=>[(0,v0),(3,.int .i64 ((ks.take i).flatten.length:Int)),(9,v0),(10,.int .i64 (ks.length:Int)),(11,.int .i64 (i:Int))]) (fun i w=>i≤ks.length∧Lt M w∧((RT.str.sl).sl).V M w ks v0∧Step M w0 M w aC) (fun i=>ks.length-i) 0 (.cons rfl (.cons rfl (.cons rfl (.cons rfl (.cons rfl .nil))))) ?_ ?_
 ·exact⟨bD _,hM,hv,S⟩
 ·clear hM hv S;rintro i w ⟨hi,hM,hv,S⟩;have nT:=C7 ks i;refine aj (ae (cg rfl rfl rfl (ab (aj ?_))));refine bM rfl (fun c3=>?_) (fun c3=>?_)
  ·refine aT (aj (aY (aj (ae ?_))));obtain⟨l,hk⟩:∃l,ks[i]? =some l:=⟨_,ar (by omega)⟩;obtain⟨uk,Cf⟩:=FL hk;have hk3:=C7 ks (i+1);refine cv (M:=M) Tryz.underlying120 yo rfl rfl rfl hv (aq _ _) (by omega) (fun u4 x xo Ge=>?_);rw[ay]at xo;obtain rfl:=aF (hk.symm.trans xo);refine bU (M:=M) aJ rfl rfl rfl rfl rfl Ge (aq _ _) (fun v4 nv=>?_);refine ah rfl rfl (ab (aj (ae (ad rfl rfl (ad rfl rfl (bN aJ rfl nv rfl (bG rfl rfl rfl (by omega) (aU (v':= .int .i64 (((ks.take (i+1)).flatten.length:Nat):Int)) (congrArg _ (by rw[uk];omega)) (ah rfl rfl (ab (aj ?_)))))))))));refine ae (ad rfl rfl (cg rfl rfl rfl (ab (T.vP rfl ((by omega)) (aT (ae (bG rfl rfl rfl (by omega) (ad rfl rfl (ab ?_)))))))));refine⟨rfl,i+1,(.cons rfl (.cons rfl (.cons rfl (.cons rfl (.cons rfl .nil))))),?_,?_⟩
   ·exact⟨by omega,hM,hv,S⟩
   ·omega
  ·refine cH (aj (ae (ad rfl rfl ?_)));have hie:i=ks.length:=by omega
   refine aU (v':= .int .i64 ((ks.flatten.length:Nat):Int)) (by rw[hie,aW (aR _)]) ?_;refine aX rfl rfl ajo (KL w (n:=ks.flatten.length) (by omega)) (fun r9 w9 hc=>?_);obtain⟨Rj,s9⟩:=hc;obtain⟨ho,s9'⟩:=Rj.OM (M:=allM) nK s9 (aR _) M;replace ho:=ho.nS S.size;have Tz:=s9'.lt hM;have Er:=hv.le s9'.le;have S9:=S.aB s9';refine ah rfl rfl (ab (aj (aj (ae (ad rfl rfl (bN Tryz.underlying120 rfl Er rfl (ad rfl rfl (ab (aY ?_)))))))));refine dh (σ:=Nat×Value) (fun q=>[(6,q.2),(25,v0),(26,.int .i64 (ks.length:Int)),(27,.int .i64 (q.1:Int))]) (fun q w=>q.1≤ks.length∧∃M1,Lt M1 w∧((RT.str.sl).sl).V M1 w ks v0∧Own RT.str 9 M1 w w0.heap.size q.2 (ks.take q.1).flatten∧Step M w0 M1 w aC) (fun q=>ks.length-q.1) (0,r9) (.cons rfl (.cons rfl (.cons rfl (.cons rfl .nil)))) ?_ ?_
   ·exact⟨bD _,_,Tz,Er,(by simpa using ho),S9⟩
   ·clear hM hv S Tz Er ho S9;rintro⟨i,u⟩ w ⟨hi,M1,hM,hv,ho,S⟩;dsimp only at hi ho ⊢;have nT:=C7 ks i;refine aj (ae (cg rfl rfl rfl (ab (aj ?_))));refine bM rfl (fun GV=>?_) (fun GV=>?_)
    ·refine aT (aj (aY (aj (ae ?_))));obtain⟨l,hk⟩:∃l,ks[i]? =some l:=⟨_,ar (by omega)⟩;obtain⟨uk,Cf⟩:=FL hk;have hk3:=C7 ks (i+1);refine cv (M:=M1) Tryz.underlying120 yo rfl rfl rfl hv (aq _ _) (by omega) (fun u4 x xo Ge=>?_);rw[ay]at xo;obtain rfl:=aF (hk.symm.trans xo);refine bU (M:=M1) aJ rfl rfl rfl rfl rfl Ge (aq _ _) (fun anQ W5=>?_);refine ah rfl rfl (ab (ae (ad rfl rfl (ad rfl rfl ?_))));refine cV (M:=M1) (base:=w0.heap.size) aJ I9 rfl rfl rfl rfl ho W5 (aq _ _) (by omega) (by omega) (S.size) (fun abR anR anS W6 OZ=>?_);replace hv:=hv.le OZ.le;replace hM:=OZ.lt hM;have:=S.size;replace S:=S.cX OZ ho (aR _);replace ho:=W6;refine ah rfl rfl (ab (ae (bG rfl rfl rfl (by omega) (ad rfl rfl (ab ?_)))));refine⟨rfl,(i+1,abR),(.cons rfl (.cons rfl (.cons rfl (.cons rfl .nil)))),?_,?_⟩
     ·exact⟨by dsimp only;omega,_,hM,hv,by dsimp only;rw[Cf];exact ho,S⟩
     ·dsimp only;omega
    ·refine cH (aj (ae (ad rfl rfl (ah rfl rfl (ab (aP ?_))))));rw[aW (by omega)]at ho;exact aV rfl rfl ⟨_,ho,hM,S⟩
theorem C9 {M:aD} {ks:List (List (List UInt8))} {v0:Value} (w0:World) (hM:Lt M w0) (hv:((RT.str.sl).sl).V M w0 ks v0) (hl:ks.flatten.length≤100000000):
  Spec Tryz.prog 113 #[v0] w0 (fun v w=>∃M',Own RT.str 9 M' w w0.heap.size v (jB ks)∧Lt M' w∧Step M w0 M' w aC):=by
 refine bg (args:=[_]) (fn:=Tryz.f113) Tryz.func113 rfl (n:=10) Tryz.ntmps113 (aj (ae (ah rfl rfl (ab (aj (ae (ad rfl rfl ?_)))))));refine aX rfl rfl ajm (C8 w0 hM hv hl) (fun r1 w1 hc=>?_);obtain⟨M1,V2,oy,s1⟩:=hc;refine ah rfl rfl (ab (aj (ae (ad rfl rfl ?_))));refine aX rfl rfl ajl (KJ w1 (V2.RF nK (M':=allM) fun _ _=>trivial) hl) (fun r2 w2 hc=>?_);obtain⟨rfl,tM,s2⟩:=hc;refine ab (aj (ae (ad rfl rfl ?_)));refine aX rfl rfl ajn (KK w2 tM (by rw[(jo _ _).length_eq];exact hl)) (fun r3 w3 hc=>?_);obtain⟨zM,s3⟩:=hc;have hbk:∀b,r1.ownBlock=some b→w0.heap.size≤b:=fun b hb=>(V2.base b hb).1
 have xy:Step allM w0 allM w3 aC:=(s1.all.trans s2 (fun b hb h=>by have:=hbk b h;omega)).trans s3 (fun b hb h=>by have:=hbk b h;omega);obtain⟨qu,s4⟩:=zM.OM nK xy (aR _) M;refine ah rfl rfl (ab (aP ?_));exact aV rfl rfl ⟨_,qu,s4.lt hM,s4⟩
theorem KM {M:aD} {ks:List (List (List UInt8))} {v0:Value} (w0:World) (hM:Lt M w0) (hv:((RT.str.sl).sl).V M w0 ks v0) (hl:ks.flatten.length≤100000000):
  Spec Tryz.prog 62 #[v0] w0 (fun v w=>∃M',Own RT.str 9 M' w w0.heap.size v (jB ks)∧Lt M' w∧Step M w0 M' w aC):=by
 refine bg (args:=[_]) (fn:=Tryz.f62) Tryz.func62 rfl (n:=5) Tryz.ntmps62 (aj (ae (ah rfl rfl (ab (aj (ae (ad rfl rfl ?_)))))));refine aX rfl rfl ajk (C9 w0 hM hv hl) (fun r1 w1 hc=>?_);refine ah rfl rfl (ab (aP ?_));exact aV rfl rfl hc
end Go.K
namespace Go.K
open Go.Proofs
namespace TKHeads
theorem abS:TI Tryz.prog 180 (.slice none 0 0) 1 24:=by unfold TI;kernel_rfl
theorem mc:TI Tryz.prog 183 (.agg #[(.int .i64 0),(.int .i64 0),(.int .i64 0)]) 3 24:=by unfold TI;kernel_rfl
end TKHeads
open TKHeads
set_option maxRecDepth 10000
theorem abT:qD Tryz.prog 178 "Len" 110 false:=by unfold qD;kernel_rfl
theorem FM:qD Tryz.prog 178 "Less" 328 false:=by unfold qD;kernel_rfl
theorem FN:qD Tryz.prog 178 "Swap" 331 false:=by unfold qD;kernel_rfl
theorem abU:qD Tryz.prog 178 "Push" 330 true:=by unfold qD;kernel_rfl
theorem ajq:qD Tryz.prog 178 "Pop" 329 true:=by unfold qD;kernel_rfl
theorem wV {M:aD} {w0:World} {base:Nat} {v:Value} {hs:List Hd} (ho:Own RT.hd 183 M w0 base v hs):
  Spec Tryz.prog 110 #[v] w0 (fun v' w'=>v'= .int .i64 hs.length∧w0=w'):=by
 refine bg (args:=[_]) (fn:=Tryz.f110) Tryz.func110 rfl (n:=5) Tryz.ntmps110 (aj (ae (ah rfl rfl (ab (aj (ae (ad rfl rfl (fS bY rfl ho rfl (ah rfl rfl (ab (aP ?_)))))))))));exact aV rfl rfl ⟨rfl,rfl⟩
theorem oY {M:aD} {w0:World} {v:Value} {hs:List Hd} {i j:Nat} (hv:((RT.hd).sl).V M w0 hs v) (hi:i<hs.length) (hj:j<hs.length):
  Spec Tryz.prog 328 #[v,.int .i64 i,.int .i64 j] w0 (fun v' w'=>v'= .bool (decide (hn hs i<hn hs j))∧Step M w0 M w' aC):=by
 have hlen:=dD hv;obtain⟨⟨a1,a2,a3⟩,hx⟩:∃x,hs[i]? =some x:=⟨_,ar hi⟩;obtain⟨⟨b1,b2,b3⟩,hy⟩:∃x,hs[j]? =some x:=⟨_,ar hj⟩;refine bg (args:=[_,_,_]) (fn:=Tryz.f328) Tryz.func328 rfl (n:=18) Tryz.ntmps328 (aj (ae (ah rfl rfl (ab (aj ?_)))));apply nq mixed rfl rfl;intro Gf Mm;have mj:=Mm M;refine ad rfl rfl ?_;refine ab ⟨rfl,rfl,rfl,?_⟩;refine ad rfl rfl ?_;refine ab ⟨rfl,rfl,rfl,?_⟩;refine cv (M:=M) bY mc rfl rfl rfl (hv.le mj.le) (aq _ _) (by first|omega|decide) (fun Hr ajr abV oR=>?_);obtain rfl:(a1,a2,a3)=ajr:=dJ (aF (abV.symm.trans (by rw[ay];exact hx)));refine ab ⟨rfl,rfl,rfl,?_⟩;refine aQ (M:=M) (A:=RT.hd) (B:=RT.int .i64) dO rfl rfl I3 (by decide) (TR) rfl rfl (by decide) (by assumption) (by repeat (first|exact aq _ _|refine bc (bF (by assumption)) ?_)) (fun QG kU=>?_);refine ab ⟨rfl,rfl,rfl,?_⟩;refine cd (M:=M) ax rfl rfl (by assumption) (by repeat (first|exact aq _ _|refine bc (bF (by assumption)) ?_)) (fun T2=>?_);refine aU (v':= .int .i64 (a1)) rfl ?_;replace T2: -9223372036854775808≤(a1:Int)∧a1≤9223372036854775807:=T2;refine ab ⟨rfl,rfl,rfl,?_⟩;refine ad rfl rfl ?_;refine ab ⟨rfl,rfl,rfl,?_⟩;refine ad rfl rfl ?_;refine ab ⟨rfl,rfl,rfl,?_⟩;refine cv (M:=M) bY mc rfl rfl rfl (hv.le mj.le) (aq _ _) (by first|omega|decide) (fun atm ajs abW anT=>?_);obtain rfl:(b1,b2,b3)=ajs:=dJ (aF (abW.symm.trans (by rw[ay];exact hy)));refine ab ⟨rfl,rfl,rfl,?_⟩;refine aQ (M:=M) (A:=RT.hd) (B:=RT.int .i64) dO rfl rfl I3 (by decide) (TR) rfl rfl (by decide) (by assumption) (by repeat (first|exact aq _ _|refine bc (bF (by assumption)) ?_)) (fun atn anU=>?_);refine ab ⟨rfl,rfl,rfl,?_⟩
 refine cd (M:=M) ax rfl rfl (by assumption) (by repeat (first|exact aq _ _|refine bc (bF (by assumption)) ?_)) (fun T3=>?_);refine aU (v':= .int .i64 (b1)) rfl ?_;replace T3: -9223372036854775808≤(b1:Int)∧b1≤9223372036854775807:=T3;refine ab ⟨rfl,rfl,rfl,?_⟩;refine cg rfl rfl rfl ?_;refine ab ⟨rfl,rfl,rfl,?_⟩;refine ah rfl rfl ?_;refine ab ⟨rfl,rfl,rfl,?_⟩;refine eD (aP ?_);exact aV rfl rfl ⟨by rw[TS hx,TS hy],mj⟩
set_option maxHeartbeats 4000000 in
theorem oZ {M:aD} {w0:World} {base:Nat} {v:Value} {hs:List Hd} {i j:Nat} (h:Own RT.hd 183 M w0 base v hs) (hv:v≠ .slice none 0 0) (hi:i<hs.length) (hj:j<hs.length):
  Spec Tryz.prog 331 #[v,.int .i64 i,.int .i64 j] w0 (fun v' w'=>Own RT.hd 183 M w' base v (swp hs i j)∧Step M w0 M w' (fD v)):=by
 obtain⟨g,cap,cur,rfl,Ux,RA,Ft⟩:=h.we hv;obtain⟨⟨x1,x2,x3⟩,hx⟩:∃x,hs[i]? =some x:=⟨_,ar hi⟩;obtain⟨⟨y1,y2,y3⟩,hy⟩:∃x,hs[j]? =some x:=⟨_,ar hj⟩;obtain⟨vx,rV⟩:∃vx,RT.hd.V M w0 (x1,x2,x3) vx:=h.val hx;obtain⟨vy,SK⟩:∃vy,RT.hd.V M w0 (y1,y2,y3) vy:=h.val hy;obtain⟨rfl,rx1,rx2,rx3⟩:=tL rV;obtain⟨rfl,ry1,ry2,ry3⟩:=tL SK;refine bg (args:=[_,_,_]) (fn:=Tryz.f331) Tryz.func331 rfl (n:=20) Tryz.ntmps331 ?_;apply T.Su (M:=M) mixed [(13,fun k=>k=g),(15,fun k=>k=g)] [cG.eq _,cG.eq _,cG.eq _,cG.eq _,cG.eq _,cG.eq _,cG.eq (.pointer (some ⟨g,j*3,none⟩)),cG.eq (.agg #[.int .i64 y1,.int .i64 y2,.int .i64 y3]),cG.eq _,cG.eq _,cG.eq (.pointer (some ⟨g,i*3,none⟩)),cG.eq (.agg #[.int .i64 x1,.int .i64 x2,.int .i64 x3]),cG.eq (.pointer (some ⟨g,i*3,none⟩)),(cG.mk' (fun _ w=>Own RT.hd 183 M w base (.slice (some ⟨g,0,none⟩) hs.length cap) (hs.set i (y1,y2,y3))∨Own RT.hd 183 M w base (.slice (some ⟨g,0,none⟩) hs.length cap) (swp hs i j)) (fun h s=>h.imp (fun h=>h.aO s) (fun h=>h.aO s))),cG.eq (.pointer (some ⟨g,j*3,none⟩)),(cG.mk' (fun _ w=>Own RT.hd 183 M w base (.slice (some ⟨g,0,none⟩) hs.length cap) (swp hs i j)) (fun h s=>h.aO s))]
 ·rfl
 ·intro p hp b hb;simp only[ca,dR,or_false]at hp;rcases hp with rfl|rfl<;>(have hb:b=g:=hb;subst hb;exact RA)
 ·refine yJ.of [(13,15)] ?_ ?_
  ·exact⟨fun _ _ _ _=>trivial,⟨fun _ _ _ _=>trivial,⟨fun _ _ _ _=>trivial,⟨fun _ _ _ _=>trivial,⟨fun _ _ _ _=>trivial,⟨fun _ _ _ _=>trivial,⟨fun _ _ _ _=>trivial,⟨fun _ _ _ _=>trivial,⟨fun _ _ _ _=>trivial,⟨fun _ _ _ _=>trivial,⟨fun _ _ _ _=>trivial,⟨fun _ _ _ _=>trivial,⟨fun _ _ _ _=>trivial,⟨fun p hp=>(dR (show p∈([]:List (Nat×aD))from hp)).elim,⟨fun _ _ _ _=>trivial,⟨fun p hp=>(dR (show p∈([]:List (Nat×aD))from hp)).elim,trivial⟩⟩⟩⟩⟩⟩⟩⟩⟩⟩⟩⟩⟩⟩⟩⟩
  ·intro x hx s sj h1 h2 v vj w w' hp st hq;obtain rfl:=bS.1 hx;obtain rfl:=aF h1;obtain rfl:=aF h2;exact Or.inr hq
 ·refine bQ ?_ ?_
  ·intro wD E sD;replace sD:Step M _ M wD aC:=sD;refine ad rfl rfl ?_;exact ab ⟨rfl,rfl,_,rfl,rfl,au _ _⟩
  refine bQ ?_ ?_
  ·intro wD E sD;replace sD:Step M _ M wD aC:=sD;refine ad rfl rfl ?_;exact ab ⟨rfl,rfl,_,rfl,rfl,au _ _⟩
  refine bQ ?_ ?_
  ·intro wD E sD;replace sD:Step M _ M wD (fun k=>k=g):=sD;refine ad rfl rfl ?_;exact ab ⟨rfl,rfl,_,rfl,rfl,au _ _⟩
  refine bQ ?_ ?_
  ·intro wD E sD;replace sD:Step M _ M wD (fun k=>k=g):=sD;refine ad rfl rfl ?_;exact ab ⟨rfl,rfl,_,rfl,rfl,au _ _⟩
  refine bQ ?_ ?_
  ·intro wD E sD;replace sD:Step M _ M wD aC:=sD;refine ad rfl rfl ?_;exact ab ⟨rfl,rfl,_,rfl,rfl,au _ _⟩
  refine bQ ?_ ?_
  ·intro wD E sD;replace sD:Step M _ M wD aC:=sD;refine ad rfl rfl ?_;exact ab ⟨rfl,rfl,_,rfl,rfl,au _ _⟩
  refine bQ ?_ ?_
  ·intro wD E sD;replace sD:Step M _ M wD aC:=sD;refine aM (aM (xd (size:=3) bY mc rfl rfl rfl (by omega) (q:=j*3) (by rw[ay,fR]) ?_));exact ab ⟨rfl,rfl,_,rfl,rfl,au _ _⟩
  refine bQ ?_ ?_
  ·intro wD E sD;replace sD:Step M _ M wD aC:=sD;refine aM ?_;refine cT (M:=fun k=>M k∧k≠g) (A:=RT.hd) dO rfl mc (by decide) rfl rfl rfl ((h.aO sD).ptr hy) (aq _ _) (fun va lG=>?_);obtain⟨rfl,_,_,_⟩:=tL lG;exact ab ⟨rfl,rfl,_,rfl,rfl,au _ _⟩
  refine bQ ?_ ?_
  ·intro wD E sD;replace sD:Step M _ M wD (fun k=>k=g):=sD;refine ad rfl rfl ?_;exact ab ⟨rfl,rfl,_,rfl,rfl,au _ _⟩
  refine bQ ?_ ?_
  ·intro wD E sD;replace sD:Step M _ M wD (fun k=>k=g):=sD;refine ad rfl rfl ?_;exact ab ⟨rfl,rfl,_,rfl,rfl,au _ _⟩
  refine bQ ?_ ?_
  ·intro wD E sD;replace sD:Step M _ M wD (fun k=>k=g):=sD;refine aM (aM (xd (size:=3) bY mc rfl rfl rfl (by omega) (q:=i*3) (by rw[ay,fR]) ?_));exact ab ⟨rfl,rfl,_,rfl,rfl,au _ _⟩
  refine bQ ?_ ?_
  ·intro wD E sD;replace sD:Step M _ M wD aC:=sD;refine aM ?_;refine cT (M:=fun k=>M k∧k≠g) (A:=RT.hd) dO rfl mc (by decide) rfl rfl rfl ((h.aO sD).ptr hx) (aq _ _) (fun va lG=>?_);obtain⟨rfl,_,_,_⟩:=tL lG;exact ab ⟨rfl,rfl,_,rfl,rfl,au _ _⟩
  refine bQ ?_ ?_
  ·intro wD E sD;replace sD:Step M _ M wD aC:=sD;refine aM (aM (aM (aM (aM (aM (aM (aM (aM (xd (size:=3) bY mc rfl rfl rfl (by omega) (q:=i*3) (by rw[ay,fR]) ?_)))))))));exact ab ⟨rfl,rfl,_,rfl,rfl,au _ _⟩
  refine bQ ?_ ?_
  ·intro wD E sD;replace sD:Step M _ M wD aC:=sD;refine aM (aM (aM (aM (aM (aM (aM (aM (aM ?_))))))));refine Rg.GK (A:=RT.hd) (M:=M) mc rfl rfl rfl (h.aO sD) hi (OO ry1 ry2 ry3) (fun w' fV s'=>?_);exact ab ⟨rfl,rfl,undef,rfl,.inl fV,s'⟩
  refine bQ ?_ ?_
  ·intro wD E sD;replace sD:Step M _ M wD (fun k=>k=g):=sD;refine aM (aM (aM (aM (aM (aM (aM (aM (aM (aM (aM (aM ?_)))))))))));refine aM (aM (aM ?_));intro K8 Au;refine xd (size:=3) bY mc rfl rfl rfl (by omega) (q:=j*3) (by rw[ay,fR]) ?_;exact ab ⟨rfl,rfl,_,rfl,rfl,au _ _⟩
  refine bQ ?_ ?_
  ·intro wD E sD;replace sD:Step M _ M wD (fun k=>k=g):=sD;refine aM (aM ?_);intro K8 Au;refine aM (aM (aM (aM (aM (aM (aM (aM (aM (aM (aM (aM ?_)))))))))));refine aM ?_;intro K8 Au;rcases Au with ho|ho
   ·refine Rg.GK (A:=RT.hd) (M:=M) mc rfl rfl rfl ho (by rw[eY];exact hj) (OO rx1 rx2 rx3) (fun w' fV s'=>?_);exact ab ⟨rfl,rfl,undef,rfl,by rw[Jc hx hy];exact fV,s'⟩
   ·refine Rg.GK (A:=RT.hd) (M:=M) mc rfl rfl rfl ho (by rw[l9];exact hj) (OO rx1 rx2 rx3) (fun w' fV s'=>?_);exact ab ⟨rfl,rfl,undef,rfl,by rw[Kz hx hy]at fV;exact fV,s'⟩
  exact dA.nil
 ·intro wD0 W7;replace W7:Step M _ M wD0 (fun b=>(fun k=>k=g) b∨(fun k=>k=g) b):=W7;refine aM (aM (aM (aM (aM (aM (aM (aM (aM (aM (aM (aM ?_)))))))))));refine aM ?_;intro anY aju;refine aM ?_;intro anZ W8
  first|refine rN ?_|simp+decide only[rQ,jJ,if_true,if_false]|skip
  exact gj rfl ⟨W8,W7.cB (fun b hb=>by rcases hb with hb|hb<;>(have hb:b=g:=hb;subst hb;rfl)) (fun b hb=>by have hb:b=g:=(aF hb).symm;subst hb;exact RA)⟩
theorem H5 {M:aD} {w0:World} {bh base:Nat} {v:Value} {hs:List Hd} {a b c:Int} (hM:Lt M w0) (h:rY 180 183 M w0 bh base v hs) (ra:ma a) (rb:ma b) (rc:ma c) (hl:hs.length≤1099511627776):
  Spec Tryz.prog 330 #[.pointer (some ⟨bh,0,none⟩),.iface 183 (.agg #[.int .i64 a,.int .i64 b,.int .i64 c])] w0 (fun v' w'=>∃M' v2,rY 180 183 M' w' bh base v2 (hs++[(a,b,c)])∧Lt M' w'∧Step M w0 M' w' (NB 183 M w0 bh base)):=by
 have hbh:=h.h;obtain⟨g,cap,cur,hvg,Ux,RA,Ft⟩:=h.o.we h.nn;have T4:=ak Ft;refine bg (args:=[_,_]) (fn:=Tryz.f330) Tryz.func330 rfl (n:=13) Tryz.ntmps330 ?_;apply T.Bk (M:=M) mixed [(7,fD v)] [cG.eq _,cG.eq _,cG.eq _,cG.eq _,cG.eq _,cG.eq _,cG.V ((RT.hd).sl) [(a,b,c)],(cG.mk' (fun v w=>∃M2,(∀b,b<w0.heap.size→(M2 b↔M b))∧Lt M2 w∧Own RT.hd 183 M2 w base v (hs++[(a,b,c)])) (fun⟨M2,h1,h2,h3⟩ s=>⟨M2,h1,(s.any M2).lt h2,h3.aO (s.any M2)⟩))] 8
 ·rfl
 ·rfl
 ·rfl
 ·rfl
 ·rfl
 ·intro p hp b hb;obtain rfl:=bS.1 hp;exact h.o.mut_ b hb
 ·exact⟨fun _ _ _ _=>trivial,⟨fun _ _ _ _=>trivial,⟨fun _ _ _ _=>trivial,⟨fun _ _ _ _=>trivial,⟨fun _ _ _ _=>trivial,⟨fun _ _ _ _=>trivial,⟨fun _ _ _ _=>trivial,⟨fun p hp=>(dR (show p∈([]:List (Nat×aD))from hp)).elim,trivial⟩⟩⟩⟩⟩⟩⟩⟩
 ·refine aG ?_ ?_
  ·intro wD E sD;replace sD:Step M _ M wD (fD v):=sD;refine ad rfl rfl ?_;exact ab ⟨rfl,rfl,_,rfl,rfl,au _ _⟩
  refine aG ?_ ?_
  ·intro wD E sD;replace sD:Step M _ M wD (fD v):=sD;refine ad rfl rfl ?_;exact ab ⟨rfl,rfl,_,rfl,rfl,au _ _⟩
  refine aG ?_ ?_
  ·intro wD E sD;replace sD:Step M _ M wD (fD v):=sD;refine aM (bT rfl ⟨_,rfl⟩ rfl ?_);exact ab ⟨rfl,rfl,_,rfl,rfl,au _ _⟩
  refine aG ?_ ?_
  ·intro wD E sD;replace sD:Step M _ M wD aC:=sD;refine aM (aN bY rfl rfl rfl (de sD (by assumption)) rfl ?_);exact ab ⟨rfl,rfl,_,rfl,rfl,au _ _⟩
  refine aG ?_ ?_
  ·intro wD E sD;replace sD:Step M _ M wD (fD v):=sD;refine ad rfl rfl ?_;exact ab ⟨rfl,rfl,_,rfl,rfl,au _ _⟩
  refine aG ?_ ?_
  ·intro wD E sD;replace sD:Step M _ M wD (fD v):=sD;refine aM (Rg.Iu dO rfl rfl rfl ?_);exact ab ⟨rfl,rfl,_,rfl,rfl,au _ _⟩
  refine aG ?_ ?_
  ·intro wD E sD;replace sD:Step M _ M wD aC:=sD;refine aM ?_;refine eu (A:=RT.hd) (hn:=by decide) (M:=M) bY mc (by decide) rfl rfl (sD.lt hM) (OO ra rb rc) (.inl rfl) (fun u6 w6 GZ s6=>?_);exact ab ⟨rfl,rfl,_,rfl,GZ,s6⟩
  refine aG ?_ ?_
  ·intro wD E sD;replace sD:Step M _ M wD aC:=sD;refine aM ?_;intro v6 rD;refine cV (M:=M) (base:=base) bY mc rfl rfl rfl rfl (h.o.aO sD) rD (aq _ _) (by simp;omega) (by simp;omega) (by have:=sD.size;omega) (fun v7 M7 w7 nE s7=>?_);exact ab ⟨rfl,rfl,_,rfl,⟨M7,fun b hb=>(s7.mem b (iE hb sD.size)),s7.lt (sD.lt hM),nE⟩,s7.back⟩
  exact ti
 ·intro wD0 W7;replace W7:Step M _ M wD0 (fD v):=W7;refine aM (aM (aM (aM (aM (aM ?_)))));intro atr an0;intro ajv abX;obtain⟨M7,hm7,hl7,nE⟩:=abX;have s7:=W7.abv hm7 hl7;have hb7:=s7.keep h.h (fun hk=>h.apart bh hk rfl);have mb7:M7 bh:=(hm7 bh (ak h.h)).2 h.mh;refine bT rfl ⟨_,rfl⟩ rfl ?_;refine cw (M:=M7) (u:=v) abS rfl rfl hb7 rfl (by obtain⟨_,_,he,_⟩:=nE.isSlice;rw[he];rfl) mb7 (fun w9 h9 s9=>?_);refine ab ?_
  first|refine rN ?_|simp+decide only[rQ,jJ,if_true,if_false]|skip
  refine gj rfl ⟨M7,ajv,⟨h9,mb7,nE.step s9 (fun k hk=>nE.apart hb7 h.ne k hk),nE.CW (by simp),h.ne⟩,s9.lt hl7,?_⟩;exact(s7.nbw h).trans s9 (fun b hb he=>⟨he▸h.mh,.inl he⟩)
theorem KN {M:aD} {w0:World} {bh base:Nat} {v:Value} {hs:List Hd} {a b c:Int} (hM:Lt M w0) (h:rY 180 183 M w0 bh base v hs) (hx:hs[hs.length-1]? =some (a,b,c)):
  Spec Tryz.prog 329 #[.pointer (some ⟨bh,0,none⟩)] w0 (fun v' w'=>v'= .iface 183 (.agg #[.int .i64 a,.int .i64 b,.int .i64 c])∧∃M' v2,rY 180 183 M' w' bh base v2 (hs.take (hs.length-1))∧Lt M' w'∧Step M w0 M' w' (NB 183 M w0 bh base)):=by
 obtain⟨g,cap,cur,rfl,Ux,RA,Ft⟩:=h.o.we h.nn;have hbh:=h.h;have hlen:=h.o.ltM;have ud:=(an.1 hx).1;obtain⟨vx,rV⟩:=h.o.val hx;obtain⟨rfl,ra,rb,rc⟩:=tL rV;obtain⟨_,YB,abY,an5⟩:=h.o.isSlice;simp only[fY]at abY;have lL:hs.length≤cap:=by omega
 refine bg (args:=[_]) (fn:=Tryz.f329) Tryz.func329 rfl (n:=27) Tryz.ntmps329 (aj (ae (ah rfl rfl (ab (aj ?_)))));apply T.Bk (M:=M) mixed [] [cG.eq _,cG.eq _,cG.eq _,cG.eq _,cG.eq _,cG.eq _,cG.eq _,cG.eq _,cG.eq (.pointer (some ⟨g,(hs.length-1)*3,none⟩)),cG.eq (.agg #[.int .i64 a,.int .i64 b,.int .i64 c]),(cG.mk' (fun v w=>∃b:Nat,v= .pointer (some ⟨b,0,none⟩)∧w0.heap.size≤b∧b<w.heap.size∧w.heap[b]? =some (.cells #[.int .i64 0,.int .i64 0,.int .i64 0] 183 (0,0))) (fun⟨b,h1,h2,h3,h4⟩ s=>⟨b,h1,h2,iE h3 s.size,s.aL h4⟩))] 11
 ·rfl
 ·rfl
 ·rfl
 ·rfl
 ·rfl
 ·exact fun p hp=>by cases hp
 ·exact vT.none
 ·refine aG ?_ ?_
  ·intro wD E sD;refine ad rfl rfl ?_;exact ab ⟨rfl,rfl,_,rfl,rfl,au _ _⟩
  refine aG ?_ ?_
  ·intro wD E sD;refine aM (bT rfl ⟨_,rfl⟩ rfl ?_);exact ab ⟨rfl,rfl,_,rfl,rfl,au _ _⟩
  refine aG ?_ ?_
  ·intro wD E sD;refine aM (aN bY rfl rfl rfl (de sD (by assumption)) rfl ?_);exact ab ⟨rfl,rfl,_,rfl,rfl,au _ _⟩
  refine aG ?_ ?_
  ·intro wD E sD;refine ad rfl rfl ?_;exact ab ⟨rfl,rfl,_,rfl,rfl,au _ _⟩
  refine aG ?_ ?_
  ·intro wD E sD;refine aM (bT rfl ⟨_,rfl⟩ rfl ?_);exact ab ⟨rfl,rfl,_,rfl,rfl,au _ _⟩
  refine aG ?_ ?_
  ·intro wD E sD;refine aM (aN bY rfl rfl rfl (de sD (by assumption)) rfl ?_);exact ab ⟨rfl,rfl,_,rfl,rfl,au _ _⟩
  refine aG ?_ ?_
  ·intro wD E sD;refine aM (Rg.mM bY rfl rfl ?_);exact ab ⟨rfl,rfl,_,rfl,rfl,au _ _⟩
  refine aG ?_ ?_
  ·intro wD E sD;refine aM (fv rfl rfl rfl (by omega) ?_);exact ab ⟨rfl,rfl,_,rfl,rfl,au _ _⟩
  refine aG ?_ ?_
  ·intro wD E sD;refine aM (aM (xd (size:=3) bY mc rfl rfl rfl (by omega) (q:=(hs.length-1)*3) (by rw[show((hs.length:Int)-1).toNat=hs.length-1 from by omega,fR]) ?_));exact ab ⟨rfl,rfl,_,rfl,rfl,au _ _⟩
  refine aG ?_ ?_
  ·intro wD E sD;refine aM ?_;refine cT (M:=fun k=>M k∧k≠g) (A:=RT.hd) dO rfl mc (by decide) rfl rfl rfl ((h.o.aO sD).ptr hx) (aq _ _) (fun va lG=>?_);obtain⟨rfl,_,_,_⟩:=tL lG;exact ab ⟨rfl,rfl,_,rfl,rfl,au _ _⟩
  refine aG ?_ ?_
  ·intro wD E sD;refine dU M mc rfl (fun b7 w7 z7 z7' g7 s7=>?_);exact ab ⟨rfl,rfl,_,rfl,⟨b7,rfl,ez sD.size z7,z7',g7⟩,s7.any M⟩
  exact ti
 ·intro Gf mj;refine aM (aM (aM (aM (aM (aM (aM (aM (aM (aM ?_)))))))));intro an6 W9;obtain⟨b7,rfl,z7,z7',g7⟩:=W9;have s7:=mj.own z7 z7';refine dI (M:=ins M b7) (vs:=[.int .i64 a,.int .i64 b,.int .i64 c]) mc rfl rfl (by intro u hu;simp only[ca,dR,or_false]at hu;rcases hu with rfl|rfl|rfl<;>rfl) rfl rfl g7 (.inl rfl) (fun w8 g8 s8=>?_);have S8:=s7.cf s8 (fun b hb=>by have hb:b=b7:=hb;rw[hb];exact z7);have Nv:=ak hbh;have ajx:=S8.aL hbh;clear hbh;refine ab (aj ?_);apply T.Bk (M:=ins M b7) mixed [] [cG.eq _,cG.eq _,cG.eq _,cG.eq _,cG.eq _,cG.eq _,cG.eq _,cG.eq _,cG.eq _,cG.eq (.slice (some ⟨g,0,none⟩) (hs.length-1) cap)] 10
  ·rfl
  ·rfl
  ·rfl
  ·rfl
  ·rfl
  ·exact fun p hp=>by cases hp
  ·exact vT.none
  ·refine aG ?_ ?_
   ·intro wD E sD;refine ad rfl rfl ?_;exact ab ⟨rfl,rfl,_,rfl,rfl,au _ _⟩
   refine aG ?_ ?_
   ·intro wD E sD;refine ad rfl rfl ?_;exact ab ⟨rfl,rfl,_,rfl,rfl,au _ _⟩
   refine aG ?_ ?_
   ·intro wD E sD;refine aM (bT rfl ⟨_,rfl⟩ rfl ?_);exact ab ⟨rfl,rfl,_,rfl,rfl,au _ _⟩
   refine aG ?_ ?_
   ·intro wD E sD;refine aM (aN bY rfl rfl rfl (de sD (by assumption)) rfl ?_);exact ab ⟨rfl,rfl,_,rfl,rfl,au _ _⟩
   refine aG ?_ ?_
   ·intro wD E sD;refine ad rfl rfl ?_;exact ab ⟨rfl,rfl,_,rfl,rfl,au _ _⟩
   refine aG ?_ ?_
   ·intro wD E sD;refine aM (bT rfl ⟨_,rfl⟩ rfl ?_);exact ab ⟨rfl,rfl,_,rfl,rfl,au _ _⟩
   refine aG ?_ ?_
   ·intro wD E sD;refine aM (aN bY rfl rfl rfl (de sD (by assumption)) rfl ?_);exact ab ⟨rfl,rfl,_,rfl,rfl,au _ _⟩
   refine aG ?_ ?_
   ·intro wD E sD;refine aM (Rg.mM bY rfl rfl ?_);exact ab ⟨rfl,rfl,_,rfl,rfl,au _ _⟩
   refine aG ?_ ?_
   ·intro wD E sD;refine aM (fv rfl rfl rfl (by omega) ?_);exact ab ⟨rfl,rfl,_,rfl,rfl,au _ _⟩
   refine aG ?_ ?_
   ·intro wD E sD;refine aM (aM (Rg.UQ bY mc rfl rfl rfl (by omega) (aU (v':= .slice (some ⟨g,0,none⟩) (hs.length-1) cap) (by rw[show((hs.length:Int)-1).toNat=hs.length-1 from by omega]) ?_)));exact ab ⟨rfl,rfl,_,rfl,rfl,au _ _⟩
   exact ti
  ·intro wD2 Kv;refine aM (aM (aM (aM (aM (aM (aM (aM (aM (aM (bT rfl ⟨_,rfl⟩ rfl ?_))))))))));refine cw (M:=ins M b7) (u:= .slice (some ⟨g,0,none⟩) hs.length cap) abS rfl rfl (Kv.aL ajx) rfl rfl (.inr h.mh) (fun w9 h9 s9=>?_);have g9:=s9.keep (Kv.aL g8) (fun e=>by have e:b7=bh:=e;omega);refine ab (aj (ae (fL (vs:=[.int .i64 a,.int .i64 b,.int .i64 c]) dO rfl mc rfl rfl rfl g9 (Rg.yn dO rfl rfl rfl (ah rfl rfl (ab (aP ?_)))))));have Rj:Own RT.hd 183 (ins M b7) w9 base (.slice (some ⟨g,0,none⟩) hs.length cap) hs:=((h.o.aO S8).aO Kv).step s9 (fun k hk e=>h.apart k hk e);have S9:=(S8.aB Kv).cB (N':=NB 183 M w0 bh base) (fun _ h=>h.elim) (fun _ h=>h.1);exact aV rfl rfl ⟨rfl,ins M b7,_,⟨h9,.inr h.mh,Rj.cut (by omega),by simp,h.ne⟩,s9.lt (Kv.lt (S8.lt hM)),S9.trans s9 (fun b hb he=>⟨he▸h.mh,.inl he⟩)⟩
end Go.K
namespace Go.K
open Go.Proofs
namespace TKHeap11
theorem RQ:Enters Tryz.prog 110:=enters Tryz.func110 rfl (by decide)
theorem ajy:Enters Tryz.prog 159:=enters Tryz.func159 rfl (by decide)
theorem ajz:Enters Tryz.prog 160:=enters Tryz.func160 rfl (by decide)
theorem O0:Enters Tryz.prog 328:=enters Tryz.func328 rfl (by decide)
theorem ajA:Enters Tryz.prog 329:=enters Tryz.func329 rfl (by decide)
theorem ajB:Enters Tryz.prog 330:=enters Tryz.func330 rfl (by decide)
theorem O1:Enters Tryz.prog 331:=enters Tryz.func331 rfl (by decide)
end TKHeap11
open TKHeap11
set_option maxRecDepth 10000
theorem RR {M:aD} {w0:World} {bh base:Nat} {v:Value} {hs:List Hd} {j:Nat} (h0:rY 180 183 M w0 bh base v hs) (dx:PW hs j) (YG:j<hs.length) (hl:hs.length≤140737488355328):
  Spec Tryz.prog 159 #[.iface 178 (.pointer (some ⟨bh,0,none⟩)),.int .i64 j] w0 (fun v' w'=>∃rH,rY 180 183 M w' bh base v rH∧qo rH∧rH.Perm hs∧Step M w0 M w' (fD v)):=by
 refine bg (args:=[_,_]) (fn:=Tryz.f159) Tryz.func159 rfl (n:=23) Tryz.ntmps159 (aY ?_);refine dh (σ:=Nat×List Hd) (fun s=>[(0,.iface 178 (.pointer (some ⟨bh,0,none⟩))),(1,.int .i64 s.1)]) (fun s w=>rY 180 183 M w bh base v s.2∧PW s.2 s.1∧s.1<s.2.length∧s.2.length=hs.length∧s.2.Perm hs∧Step M w0 M w (fD v)) (fun s=>s.1) (j,hs) (.cons rfl (.cons rfl .nil)) ?_ ?_
 ·exact⟨h0,dx,YG,rfl,List.Perm.refl _,(au _ _).cB (fun _ h=>h.elim) (fun b hb=>h0.o.mut_ b hb)⟩
 ·rintro⟨k,xs⟩ w1 ⟨h,hu,hk,ru,hp,S⟩;dsimp only at h hu hk ru hp ⊢;refine aY (aj (ae (ad rfl rfl (fv rfl rfl rfl (by omega) (Rg.par rfl rfl rfl (by omega) ?_)))));obtain⟨i,hi⟩:∃i:Nat,i=(k-1)/2:=⟨_,rfl⟩;rw[←hi];refine ah rfl rfl (ab (aj (aj (ae (ad rfl rfl (ad rfl rfl (tY rfl rfl rfl (ad rfl rfl ?_))))))));refine aS (g:=11) rfl (fun lF=>?_) (fun lF=>?_)
  ·refine aw rfl rfl rfl rfl (aw rfl rfl rfl rfl (aw rfl rfl rfl rfl (aw rfl rfl rfl rfl (aw rfl rfl rfl rfl (aZ rfl rfl rfl (ab (ot rfl (cH ?_))))))))
   first|refine rN ?_|simp+decide only[rQ,jJ,if_true,if_false]|skip
   first
   |exact gj rfl ⟨xs,h,hu.done (.inl (by omega)),hp,S⟩
   |exact gj rfl ⟨xs,h,hu.done (.inr (by rw[←hi];omega)),hp,S⟩
  ·refine al rfl rfl (ad rfl rfl (al rfl rfl (ad rfl rfl (al rfl rfl (ad rfl rfl (al rfl rfl ?_))))));refine nr rfl rfl rfl (FM.load dq bY rfl h.h rfl) O0 (oY (i:=k) (j:=i) (h.view (by omega)) (by omega) (by omega)) (fun r w2 hq=>?_);obtain⟨rfl,sq⟩:=hq;have h:=h.aO (sq.any M);replace S:=S.aB (sq.any M);refine al rfl rfl (lY rfl rfl (aU (v':= .bool (decide (¬(hn xs k<hn xs i)))) (by rw[decide_not]) (aE rfl rfl rfl (ab ?_))));refine bM rfl (fun c1=>?_) (fun c1=>?_)
   ·refine cH ?_
    first|refine rN ?_|simp+decide only[rQ,jJ,if_true,if_false]|skip
    first
    |exact gj rfl ⟨xs,h,hu.done (.inl (by omega)),hp,S⟩
    |exact gj rfl ⟨xs,h,hu.done (.inr (by rw[←hi];omega)),hp,S⟩
   ·have dY:=cP.1 c1;refine aT (aj (ae (ad rfl rfl (ad rfl rfl (ad rfl rfl ?_)))));refine nr rfl rfl rfl (FN.load dq bY rfl h.h rfl) O1 (oZ (i:=i) (j:=k) h.o h.nn (by omega) (by omega)) (fun r w3 hq=>?_);obtain⟨ho,sq⟩:=hq;have h2:=h.wrote sq ho;have S2:=S.trans sq (fun _ _ h=>h);refine ab (ae (ad rfl rfl (ah rfl rfl (ab ?_))));refine⟨rfl,(i,swp xs i k),(.cons rfl (.cons rfl .nil)),?_,?_⟩
    ·refine⟨h2,?_,by rw[l9];simp only;omega,by rw[l9];exact ru,(qX (by omega) hk).trans hp,S2⟩;simp only;rw[hi];exact hu.swap hk (by omega) (by rw[←hi];exact dY)
    ·simp only;omega
theorem KO {M:aD} {w0:World} {bh base:Nat} {v:Value} {hs:List Hd} {n:Nat} (h0:rY 180 183 M w0 bh base v hs) (TR:La hs n 0) (hn0:n≤hs.length) (hl:hs.length≤140737488355328):
  Spec Tryz.prog 160 #[.iface 178 (.pointer (some ⟨bh,0,none⟩)),.int .i64 0,.int .i64 n] w0 (fun v' w'=>∃rH,rY 180 183 M w' bh base v rH∧(∀k,0<k→k<n→hn rH ((k-1)/2)≤hn rH k)∧rH.Perm hs∧(∀k,n≤k→rH.getD k (0,0,0)=hs.getD k (0,0,0))∧Step M w0 M w' (fD v)):=by
 refine bg (args:=[_,_,_]) (fn:=Tryz.f160) Tryz.func160 rfl (n:=48) Tryz.ntmps160 (aj (ae (ah rfl rfl (ab (aj (ae (ad rfl rfl (ah rfl rfl (ab (aj (aY ?_)))))))))));refine dh (σ:=Nat×List Hd) (fun s=>[(0,.iface 178 (.pointer (some ⟨bh,0,none⟩))),(1,.int .i64 0),(2,.int .i64 n),(7,.int .i64 s.1)]) (fun s w=>rY 180 183 M w bh base v s.2∧La s.2 n s.1∧s.1≤n∧s.2.length=hs.length∧s.2.Perm hs∧(∀k,n≤k→s.2.getD k (0,0,0)=hs.getD k (0,0,0))∧Step M w0 M w (fD v)) (fun s=>n-s.1) (0,hs) (.cons rfl (.cons rfl (.cons rfl (.cons rfl .nil)))) ?_ ?_
 ·exact⟨h0,TR,bD _,rfl,List.Perm.refl _,fun _ _=>rfl,(au _ _).cB (fun _ h=>h.elim) (fun b hb=>h0.o.mut_ b hb)⟩
 ·rintro⟨i,xs⟩ w1 ⟨h,hd,kE,ru,hp,hk,S⟩;dsimp only at h hd kE ru hp hk ⊢;refine aY (aj (ae (ad rfl rfl (Rg.P9 rfl rfl rfl (by omega) (bG rfl rfl rfl (by omega) (aU (v':= .int .i64 ((2*i+1:Nat):Int)) (congrArg _ (by omega)) (ah rfl rfl (ab (aj (aj (ae ?_)))))))))));refine ad rfl rfl (ad rfl rfl (ef rfl rfl rfl (ad rfl rfl ?_)));refine aS (g:=18) rfl (fun ajC=>?_) (fun ajC=>?_)
  ·refine aw rfl rfl rfl rfl (aw rfl rfl rfl rfl (aZ rfl rfl rfl (ab (ot rfl (cH (aj (ae (ad rfl rfl (ad rfl rfl (jk rfl rfl rfl (ah rfl rfl ?_)))))))))));refine ab (aP ?_)
   first
   |exact aV rfl rfl ⟨xs,h,hd.leaf (by omega),hp,hk,S⟩
   |exact aV rfl rfl ⟨xs,h,hd.stay Da LV (by omega),hp,hk,S⟩
  ·refine al rfl rfl (ad rfl rfl (al rfl rfl (cg rfl rfl rfl (aE rfl rfl rfl (ab (T.vP rfl ((by omega)) (aT (aj (ae (ad rfl rfl (ah rfl rfl ?_)))))))))));refine ab (aj (aj (ae (ad rfl rfl (bG rfl rfl rfl (by omega) (aU (v':= .int .i64 ((2*i+2:Nat):Int)) (congrArg _ (by omega)) (ah rfl rfl (ab (aj (ae (ad rfl rfl ?_)))))))))));refine ad rfl rfl (cg rfl rfl rfl (ad rfl rfl ?_));refine aS (g:=28) rfl (fun oN=>?_) (fun oN=>?_)
   ·refine al rfl rfl (ad rfl rfl (al rfl rfl (ad rfl rfl (al rfl rfl (ad rfl rfl (al rfl rfl ?_))))));refine nr rfl rfl rfl (FM.load dq bY rfl h.h rfl) O0 (oY (i:=2*i+2) (j:=2*i+1) (h.view (by omega)) (by omega) (by omega)) (fun r w2 hq=>?_);obtain⟨rfl,sq⟩:=hq;have h:=h.aO (sq.any M);replace S:=S.aB (sq.any M);refine aZ rfl rfl rfl (ab ?_);refine bM rfl (fun c6=>?_) (fun c6=>?_)
    ·obtain⟨j,hj⟩:∃j:Nat,j=2*i+2:=⟨_,rfl⟩;have Da:j=2*i+1∨j=2*i+2:=by omega
     have KZ:j<n:=by omega
     have LV:∀k,(k=2*i+1∨k=2*i+2)→k<n→hn xs j≤hn xs k:=fun k hk Hz=>by
      rcases hk with e|e
      ·rw[e,hj];omega
      ·rw[e,hj];exact Int.le_refl _
     refine ae (ad rfl rfl (ah rfl rfl (ab (aj (aj (ae (ad rfl rfl (ad rfl rfl (aU (v':= .int .i64 (j:Int)) (congrArg _ (by omega)) (ad rfl rfl ?_))))))))));refine nr rfl rfl rfl (FM.load dq bY rfl h.h rfl) O0 (oY (i:=j) (j:=i) (h.view (by omega)) (by omega) (by omega)) (fun r w3 hq=>?_);obtain⟨rfl,sq⟩:=hq;have h:=h.aO (sq.any M);replace S:=S.aB (sq.any M);refine lY rfl rfl (aU (v':= .bool (decide (¬(hn xs j<hn xs i)))) (by rw[decide_not]) (ab ?_));refine bM rfl (fun c8=>?_) (fun c8=>?_)
     ·refine cH (aj (ae (ad rfl rfl (ad rfl rfl (jk rfl rfl rfl (ah rfl rfl (ab (aP ?_))))))))
      first
      |exact aV rfl rfl ⟨xs,h,hd.leaf (by omega),hp,hk,S⟩
      |exact aV rfl rfl ⟨xs,h,hd.stay Da LV (by omega),hp,hk,S⟩
     ·have dY:=cP.1 c8;refine aT (aj (ae (ad rfl rfl (ad rfl rfl (ad rfl rfl (aU (v':= .int .i64 (j:Int)) (congrArg _ (by omega)) ?_))))));refine nr rfl rfl rfl (FN.load dq bY rfl h.h rfl) O1 (oZ (i:=i) (j:=j) h.o h.nn (by omega) (by omega)) (fun r w4 hq=>?_);obtain⟨ho,sq⟩:=hq;have h2:=h.wrote sq ho;have S2:=S.trans sq (fun _ _ h=>h);refine ab (ae (ad rfl rfl (aU (v':= .int .i64 (j:Int)) (congrArg _ (by omega)) (ah rfl rfl (ab ?_)))));refine⟨rfl,(j,swp xs i j),(.cons rfl (.cons rfl (.cons rfl (.cons rfl .nil)))),?_,?_⟩
      ·refine⟨h2,hd.swap (by omega) KZ Da LV dY,by simp only;omega,by simp only;rw[l9];exact ru,(qX (by omega) (by omega)).trans hp,fun k Hz=>?_,S2⟩;simp only;rw[qW (by omega) (by omega),if_neg (by omega),if_neg (by omega)];exact hk k Hz
      ·simp only;omega
    ·obtain⟨j,hj⟩:∃j:Nat,j=2*i+1:=⟨_,rfl⟩;have Da:j=2*i+1∨j=2*i+2:=by omega
     have KZ:j<n:=by omega
     have LV:∀k,(k=2*i+1∨k=2*i+2)→k<n→hn xs j≤hn xs k:=fun k hk Hz=>by
      rcases hk with e|e
      ·rw[e,hj];exact Int.le_refl _
      ·rw[e,hj];exact Int.not_lt.1 c6
     refine aT (aj (aj (ae (ad rfl rfl (ad rfl rfl (aU (v':= .int .i64 (j:Int)) (congrArg _ (by omega)) (ad rfl rfl ?_)))))));refine nr rfl rfl rfl (FM.load dq bY rfl h.h rfl) O0 (oY (i:=j) (j:=i) (h.view (by omega)) (by omega) (by omega)) (fun r w3 hq=>?_);obtain⟨rfl,sq⟩:=hq;have h:=h.aO (sq.any M);replace S:=S.aB (sq.any M);refine lY rfl rfl (aU (v':= .bool (decide (¬(hn xs j<hn xs i)))) (by rw[decide_not]) (ab ?_));refine bM rfl (fun c8=>?_) (fun c8=>?_)
     ·refine cH (aj (ae (ad rfl rfl (ad rfl rfl (jk rfl rfl rfl (ah rfl rfl (ab (aP ?_))))))))
      first
      |exact aV rfl rfl ⟨xs,h,hd.leaf (by omega),hp,hk,S⟩
      |exact aV rfl rfl ⟨xs,h,hd.stay Da LV (by omega),hp,hk,S⟩
     ·have dY:=cP.1 c8;refine aT (aj (ae (ad rfl rfl (ad rfl rfl (ad rfl rfl (aU (v':= .int .i64 (j:Int)) (congrArg _ (by omega)) ?_))))));refine nr rfl rfl rfl (FN.load dq bY rfl h.h rfl) O1 (oZ (i:=i) (j:=j) h.o h.nn (by omega) (by omega)) (fun r w4 hq=>?_);obtain⟨ho,sq⟩:=hq;have h2:=h.wrote sq ho;have S2:=S.trans sq (fun _ _ h=>h);refine ab (ae (ad rfl rfl (aU (v':= .int .i64 (j:Int)) (congrArg _ (by omega)) (ah rfl rfl (ab ?_)))));refine⟨rfl,(j,swp xs i j),(.cons rfl (.cons rfl (.cons rfl (.cons rfl .nil)))),?_,?_⟩
      ·refine⟨h2,hd.swap (by omega) KZ Da LV dY,by simp only;omega,by simp only;rw[l9];exact ru,(qX (by omega) (by omega)).trans hp,fun k Hz=>?_,S2⟩;simp only;rw[qW (by omega) (by omega),if_neg (by omega),if_neg (by omega)];exact hk k Hz
      ·simp only;omega
   ·obtain⟨j,hj⟩:∃j:Nat,j=2*i+1:=⟨_,rfl⟩;have Da:j=2*i+1∨j=2*i+2:=by omega
    have KZ:j<n:=by omega
    have LV:∀k,(k=2*i+1∨k=2*i+2)→k<n→hn xs j≤hn xs k:=fun k hk Hz=>by
     rcases hk with e|e
     ·rw[e,hj];exact Int.le_refl _
     ·omega
    refine aw rfl rfl rfl rfl (aw rfl rfl rfl rfl (aw rfl rfl rfl rfl (aw rfl rfl rfl rfl (aE rfl rfl rfl (ab (jD rfl (aT (aj (aj (ae (ad rfl rfl ?_)))))))))));refine ad rfl rfl (aU (v':= .int .i64 (j:Int)) (congrArg _ (by omega)) (ad rfl rfl ?_));refine nr rfl rfl rfl (FM.load dq bY rfl h.h rfl) O0 (oY (i:=j) (j:=i) (h.view (by omega)) (by omega) (by omega)) (fun r w3 hq=>?_);obtain⟨rfl,sq⟩:=hq;have h:=h.aO (sq.any M);replace S:=S.aB (sq.any M);refine lY rfl rfl (aU (v':= .bool (decide (¬(hn xs j<hn xs i)))) (by rw[decide_not]) (ab ?_));refine bM rfl (fun c8=>?_) (fun c8=>?_)
    ·refine cH (aj (ae (ad rfl rfl (ad rfl rfl (jk rfl rfl rfl (ah rfl rfl (ab (aP ?_))))))))
     first
     |exact aV rfl rfl ⟨xs,h,hd.leaf (by omega),hp,hk,S⟩
     |exact aV rfl rfl ⟨xs,h,hd.stay Da LV (by omega),hp,hk,S⟩
    ·have dY:=cP.1 c8;refine aT (aj (ae (ad rfl rfl (ad rfl rfl (ad rfl rfl (aU (v':= .int .i64 (j:Int)) (congrArg _ (by omega)) ?_))))));refine nr rfl rfl rfl (FN.load dq bY rfl h.h rfl) O1 (oZ (i:=i) (j:=j) h.o h.nn (by omega) (by omega)) (fun r w4 hq=>?_);obtain⟨ho,sq⟩:=hq;have h2:=h.wrote sq ho;have S2:=S.trans sq (fun _ _ h=>h);refine ab (ae (ad rfl rfl (aU (v':= .int .i64 (j:Int)) (congrArg _ (by omega)) (ah rfl rfl (ab ?_)))));refine⟨rfl,(j,swp xs i j),(.cons rfl (.cons rfl (.cons rfl (.cons rfl .nil)))),?_,?_⟩
     ·refine⟨h2,hd.swap (by omega) KZ Da LV dY,by simp only;omega,by simp only;rw[l9];exact ru,(qX (by omega) (by omega)).trans hp,fun k Hz=>?_,S2⟩;simp only;rw[qW (by omega) (by omega),if_neg (by omega),if_neg (by omega)];exact hk k Hz
     ·simp only;omega
theorem KP {M:aD} {w0:World} {bh base:Nat} {v:Value} {hs:List Hd} {a b c:Int} (hM:Lt M w0) (h:rY 180 183 M w0 bh base v hs) (hh:qo hs) (ra:ma a) (rb:ma b) (rc:ma c) (hl:hs.length≤1099511627776):
  Spec Tryz.prog 109 #[.iface 178 (.pointer (some ⟨bh,0,none⟩)),.iface 183 (.agg #[.int .i64 a,.int .i64 b,.int .i64 c])] w0 (fun v' w'=>∃M' v2 rH,rY 180 183 M' w' bh base v2 rH∧qo rH∧rH.Perm (hs++[(a,b,c)])∧Lt M' w'∧Step M w0 M' w' (NB 183 M w0 bh base)):=by
 refine bg (args:=[_,_]) (fn:=Tryz.f109) Tryz.func109 rfl (n:=12) Tryz.ntmps109 (aj (ae (ad rfl rfl (ad rfl rfl ?_))));refine nr rfl rfl rfl (abU.ptr dq _) ajB (H5 hM h ra rb rc hl) (fun r w1 hq=>?_);obtain⟨M1,v1,h1,oy,s1⟩:=hq;refine ab (ae (ad rfl rfl (ad rfl rfl ?_)));refine nr rfl rfl rfl (abT.load dq bY rfl h1.h rfl) RQ (wV h1.o) (fun r w2 hq=>?_);obtain⟨rfl,rfl⟩:=hq;have Jy:(hs++[(a,b,c)]).length=hs.length+1:=by simp
 refine fv rfl rfl rfl (by omega) (aU (v':= .int .i64 (hs.length:Int)) (congrArg _ (by omega)) ?_);refine aX rfl rfl ajy (RR h1 (PW.push hh _) (by omega) (by omega)) (fun r2 w3 h=>?_);obtain⟨rH,h2,hh2,It,s2⟩:=h;refine ab ?_
 first|refine rN ?_|simp+decide only[rQ,jJ,if_true,if_false]|skip
 exact gj rfl ⟨M1,v1,rH,h2,hh2,It,s2.lt oy,s1.nb (s2.nbw h1)⟩
theorem O2 {M:aD} {w0:World} {bh base:Nat} {v:Value} {hs:List Hd} (hM:Lt M w0) (h:rY 180 183 M w0 bh base v hs) (hh:qo hs) (ud:0<hs.length) (hl:hs.length≤1099511627776):
  Spec Tryz.prog 111 #[.iface 178 (.pointer (some ⟨bh,0,none⟩))] w0 (fun v' w'=>∃a b c M' v2 rH,v'= .iface 183 (.agg #[.int .i64 a,.int .i64 b,.int .i64 c])∧(ma a∧ma b∧ma c)∧rY 180 183 M' w' bh base v2 rH∧qo rH∧((a,b,c)::rH).Perm hs∧(∀x∈hs,a≤x.1)∧Lt M' w'∧Step M w0 M' w' (NB 183 M w0 bh base)):=by
 refine bg (args:=[_]) (fn:=Tryz.f111) Tryz.func111 rfl (n:=15) Tryz.ntmps111 (aj (ae (ah rfl rfl (ab (aj (ae (ad rfl rfl ?_)))))));refine nr rfl rfl rfl (abT.load dq bY rfl h.h rfl) RQ (wV h.o) (fun r w1 hq=>?_);obtain⟨rfl,rfl⟩:=hq;refine fv rfl rfl rfl (by omega) (aU (v':= .int .i64 ((hs.length-1:Nat):Int)) (congrArg _ (by omega)) (ah rfl rfl (ab (aj (ae (ad rfl rfl (ad rfl rfl ?_)))))));refine nr rfl rfl rfl (FN.load dq bY rfl h.h rfl) O1 (oZ (i:=0) (j:=hs.length-1) h.o h.nn (by omega) (by omega)) (fun r w2 hq=>?_);obtain⟨tM,s2⟩:=hq;have h2:=h.wrote s2 tM;have nT:=l9 hs 0 (hs.length-1);refine ab (aj (ae (ad rfl rfl (ad rfl rfl ?_))));refine aX rfl rfl ajz (KO h2 (La.pop hh ud) (by omega) (by omega)) (fun r3 w3 h=>?_);obtain⟨ys,h3,Jv,hp3,hk3,s3⟩:=h;have hpp:=hp3.trans (qX (xs:=hs) (i:=0) (j:=hs.length-1) (by omega) (by omega));have GG:=hpp.length_eq;have ju:ys.getD (hs.length-1) (0,0,0)=hs.getD 0 (0,0,0):=by rw[hk3 _ (aR _),qW (by omega) (by omega),if_pos rfl]
 obtain⟨⟨a,b,c⟩,Kn⟩:∃x,ys[ys.length-1]? =some x:=⟨_,ar (by omega)⟩;obtain⟨x,hxe,hpx⟩:=Rx ud hpp ju;have ajD:x=(a,b,c):=by rw[←hxe,aA,←GG,Kn];rfl
 subst ajD;obtain⟨vx,rV⟩:=h3.o.val Kn;obtain⟨_,ra,rb,rc⟩:=tL rV;refine ab (aj (ae (ad rfl rfl ?_)));refine nr rfl rfl rfl (ajq.ptr dq _) ajA (KN (s3.lt (s2.lt hM)) h3 Kn) (fun r w4 hq=>?_);obtain⟨rfl,M4,v4,h4,hM4,s4⟩:=hq;refine ah rfl rfl (ab (aP ?_));rw[GG]at h4
 have ON:∀x∈hs,a≤x.1:=fun x hx=>by
  obtain⟨k,hk,_,Cf⟩:=WX hx;have:=hh.min k hk;have e0:hn hs 0=a:=by unfold hn;rw[←ju,hxe]
  omega
 have sS:=((s2.trans s3 (fun _ _ h=>h)).nbw h).nb s4;exact aV rfl rfl ⟨a,b,c,M4,v4,_,rfl,⟨ra,rb,rc⟩,h4,qo.take (by omega) Jv,hpx,ON,hM4,sS⟩
end Go.K
namespace Go.K
open Go.Proofs
namespace TKPut11
theorem mc:TI Tryz.prog 183 (.agg #[(.int .i64 0),(.int .i64 0),(.int .i64 0)]) 3 24:=by unfold TI;kernel_rfl
theorem ajE:placesOf Tryz.prog 183=[(0,1),(1,1),(2,1)].map some:=by kernel_rfl
theorem ajF:Enters Tryz.prog 109:=enters Tryz.func109 rfl (by decide)
end TKPut11
open TKPut11
set_option maxRecDepth 10000
theorem FO {M:aD} {w0:World} {bl b4 bh base:Nat} {vl v:Value} {ls:List (List Int)} {hs:List Hd} {i k:Nat} (hM:Lt M w0) (kQ:w0.heap[bl]? =some (.cells #[vl] 119 (0,0))) (rW:w0.heap[b4]? =some (.cells #[.pointer (some ⟨bh,0,none⟩)] 178 (0,0))) (hv:(((RT.int .i64).sl).sl).V M w0 ls vl) (h:rY 180 183 M w0 bh base v hs) (hh:qo hs) (hi:i<ls.length) (hk:k≤1099511627776) (hl:hs.length≤1099511627776):
  Spec Tryz.prog 108 #[.int .i64 i,.int .i64 k,.pointer (some ⟨bl,0,none⟩),.pointer (some ⟨b4,0,none⟩)] w0 (fun v' w'=>∃M' v2 rH,rY 180 183 M' w' bh base v2 rH∧qo rH∧rH.Perm (hs++Ky ls i k)∧Lt M' w'∧Step M w0 M' w' (NB 183 M w0 bh base)):=by
 have hlen:=dD hv;obtain⟨li,hli⟩:∃x,ls[i]? =some x:=⟨_,ar hi⟩;have pH:ls.getD i []=li:=by rw[aA,hli];rfl
 refine bg (args:=[_,_,_,_]) (fn:=Tryz.f108) Tryz.func108 rfl (n:=27) Tryz.ntmps108 (aj (ae (ad rfl rfl (aN cQ rfl rfl rfl kQ rfl (ad rfl rfl ?_)))));refine cv (M:=M) cQ jY rfl rfl rfl (hv) (aq _ _) (by first|omega|decide) (fun att ajH ab0 an8=>?_);obtain rfl:li=ajH:=dJ (aF (ab0.symm.trans (by rw[ay];exact hli)));refine bU (M:=M) ao rfl rfl rfl rfl rfl (by assumption) (by repeat (first|exact aq _ _|refine bc (bF (by assumption)) ?_)) (fun ajI O3=>?_);replace O3:(((RT.int .i64).sl)).V M _ li ajI:=O3
 first|refine bN ao rfl (by assumption) rfl ?_|refine fS ao rfl (by assumption) rfl ?_
 refine cg rfl rfl rfl (ab ?_);refine bM rfl (fun c0=>?_) (fun c0=>?_)
 ·obtain⟨n,hn⟩:∃x,li[k]? =some x:=⟨_,ar (by omega)⟩;have rn:ma n:=B9 O3 hn;have Vm:Ky ls i k=[(n,(i:Int),(k:Int))]:=by unfold Ky;rw[pH,hn]
  apply T.Bk (M:=M) mixed [] [cG.eq _,cG.eq (.iface 178 (.pointer (some ⟨bh,0,none⟩))),cG.eq _,cG.eq _,cG.ptr (((RT.int .i64).sl)) li,cG.V (((RT.int .i64).sl)) li,cG.eq _,cG.ptr (RT.int .i64) n,cG.eq (.int .i64 n),cG.eq _,cG.eq _,cG.eq (.agg #[.int .i64 n,.int .i64 i,.int .i64 k]),cG.eq (.iface 183 (.agg #[.int .i64 n,.int .i64 i,.int .i64 k]))] 13
  ·rfl
  ·rfl
  ·rfl
  ·rfl
  ·rfl
  ·exact fun p hp=>by cases hp
  ·exact vT.none
  ·refine aG ?_ ?_
   ·intro wD E sD;refine aN dq rfl rfl rfl (sD.aL rW) rfl ?_;exact ab ⟨rfl,rfl,_,rfl,rfl,au _ _⟩
   refine aG ?_ ?_
   ·intro wD E sD;refine aM (Rg.yn dq rfl rfl rfl ?_);exact ab ⟨rfl,rfl,_,rfl,rfl,au _ _⟩
   refine aG ?_ ?_
   ·intro wD E sD;refine aN cQ rfl rfl rfl (sD.aL kQ) rfl ?_;exact ab ⟨rfl,rfl,_,rfl,rfl,au _ _⟩
   refine aG ?_ ?_
   ·intro wD E sD;refine ad rfl rfl ?_;exact ab ⟨rfl,rfl,_,rfl,rfl,au _ _⟩
   refine aG ?_ ?_
   ·intro wD E sD;refine aM (aM ?_);refine cv (M:=M) cQ jY rfl rfl rfl (hv.le sD.le) (aq _ _) (by omega) (fun ui ai l8 hui=>?_);obtain rfl:li=ai:=dJ (aF (l8.symm.trans (by rw[ay];exact hli)));exact ab ⟨rfl,rfl,_,rfl,hui,au _ _⟩
   refine aG ?_ ?_
   ·intro wD E sD;intro v4 nv;refine bU (M:=M) ao rfl rfl rfl rfl rfl (show cO (((RT.int .i64).sl)) M wD v4 li from nv) (aq _ _) (fun va lG=>?_);exact ab ⟨rfl,rfl,_,rfl,lG,au _ _⟩
   refine aG ?_ ?_
   ·intro wD E sD;refine ad rfl rfl ?_;exact ab ⟨rfl,rfl,_,rfl,rfl,au _ _⟩
   refine aG ?_ ?_
   ·intro wD E sD;intro v5 ox;refine aM ?_;refine cv (M:=M) ao I3 rfl rfl rfl ((show((RT.int .i64).sl).V M wD li v5 from ox)) (aq _ _) (by omega) (fun ui ai l8 hui=>?_);obtain rfl:n=ai:=dJ (aF (l8.symm.trans (by rw[ay];exact hn)));exact ab ⟨rfl,rfl,_,rfl,hui,au _ _⟩
   refine aG ?_ ?_
   ·intro wD E sD;intro v7 Hb;refine cd (M:=M) ax rfl rfl (show cO (RT.int .i64) M wD v7 n from Hb) (aq _ _) (fun kE=>?_);exact ab ⟨rfl,rfl,_,rfl,rfl,au _ _⟩
   refine aG ?_ ?_
   ·intro wD E sD;refine ad rfl rfl ?_;exact ab ⟨rfl,rfl,_,rfl,rfl,au _ _⟩
   refine aG ?_ ?_
   ·intro wD E sD;refine ad rfl rfl ?_;exact ab ⟨rfl,rfl,_,rfl,rfl,au _ _⟩
   refine aG ?_ ?_
   ·intro wD E sD;refine aM (aM (aM (iM (places:=[(0,1),(1,1),(2,1)]) dO mc ajE rfl ⟨_,_,rfl,rfl,_,_,rfl,rfl,_,_,rfl,rfl,rfl⟩ (out:=[_,_,_]) ⟨0,[_],rfl,rfl,by simp[Value.cells],1,[_],rfl,rfl,by simp[Value.cells],2,[_],rfl,rfl,by simp[Value.cells],rfl⟩ ?_)));exact ab ⟨rfl,rfl,_,rfl,rfl,au _ _⟩
   refine aG ?_ ?_
   ·intro wD E sD;refine aM (Rg.yn dO rfl rfl rfl ?_);exact ab ⟨rfl,rfl,_,rfl,rfl,au _ _⟩
   exact ti
  ·intro Gf mj;refine aM (aM (aM (aM ?_)));intro ajK ab1;intro atu an9;refine aM ?_;intro aaF TA;refine aM (aM (aM (aM (aM ?_))));refine aX rfl rfl ajF (KP (mj.lt hM) (h.aO mj) hh rn (by unfold ma;omega) (by unfold ma;omega) hl) (fun r w1 hq=>?_);obtain⟨M1,v1,rH,h1,hh1,PT,oy,s1⟩:=hq;refine ab ?_
   first|refine rN ?_|simp+decide only[rQ,jJ,if_true,if_false]|skip
   exact gj rfl ⟨M1,v1,rH,h1,hh1,by rw[Vm];exact PT,oy,mj.nb0.nb s1⟩
 ·have Vm:Ky ls i k=[]:=by unfold Ky;rw[pH,du (by omega)]
  refine aT ?_
  first|refine rN ?_|simp+decide only[rQ,jJ,if_true,if_false]|skip
  exact gj rfl ⟨M,v,hs,h,hh,by rw[Vm,fT],hM,(au _ _).nb0⟩
end Go.K
namespace Go.K
open Go.Proofs
namespace TKRises11
theorem Re:Enters Tryz.prog 51:=enters Tryz.func51 rfl (by decide)
theorem ajL:Enters Tryz.prog 106:=enters Tryz.func106 rfl (by decide)
theorem ajM:Enters Tryz.prog 107:=enters Tryz.func107 rfl (by decide)
theorem ajN:Enters Tryz.prog 156:=enters Tryz.func156 rfl (by decide)
theorem ajO:Enters Tryz.prog 157:=enters Tryz.func157 rfl (by decide)
theorem ajP:Enters Tryz.prog 158:=enters Tryz.func158 rfl (by decide)
end TKRises11
open TKRises11
set_option maxRecDepth 10000
theorem FP {M:aD} {w0:World} {v:Value} {l:List Int} (hM:Lt M w0) (hv:((RT.int .i64).sl).V M w0 l v) (hl:l.length≤1099511627776):
  Spec Tryz.prog 107 #[v] w0 (fun v' w'=>v'= .bool (eG (-1) l)∧Step M w0 M w' aC):=by
 refine bg (args:=[_]) (fn:=Tryz.f107) Tryz.func107 rfl (n:=25) Tryz.ntmps107 (aj (ae (ah rfl rfl (ab (aj (ae (ad rfl rfl (bN ao rfl hv rfl (tY rfl rfl rfl (ad rfl rfl ?_))))))))));refine aS (g:=6) rfl (fun lF=>?_) (fun lF=>?_)
 ·refine aw rfl rfl rfl rfl (aw rfl rfl rfl rfl (aw rfl rfl rfl rfl (aw rfl rfl rfl rfl (aw rfl rfl rfl rfl (cu rfl rfl rfl (cu rfl rfl rfl (aw rfl rfl rfl rfl (aw rfl rfl rfl rfl (cu rfl rfl rfl (cu rfl rfl rfl (cu rfl rfl rfl ?_)))))))))));refine cu rfl rfl rfl (cu rfl rfl rfl (cu rfl rfl rfl (cu rfl rfl rfl (aw rfl rfl rfl rfl (aZ rfl rfl rfl (ah rfl rfl (ab (aP ?_))))))))
  first
  |(obtain rfl:l=[]:=cZ.1 (by omega)
    exact aV rfl rfl ⟨rfl,au _ _⟩)
  |exact aV rfl rfl ⟨congrArg Value.bool (by
    rw[lZ,ij (by omega),decide_eq_true_iff,iD hx];exact⟨fun h=>⟨Db,vh,PY.1 (by omega)⟩,fun h=>by have:=PY.2 h.2.2;omega⟩),(s1.aB S3.back)⟩
  |exact aV rfl rfl ⟨congrArg Value.bool (dJ (by
    rw[dd];intro h;exact vh ((ij (by omega)).1 h).2.1)),s1⟩
  |exact aV rfl rfl ⟨congrArg Value.bool (dJ (by
    rw[dd];intro h;have:=((ij (by omega)).1 h).1;rw[iD hx]at this;exact Db this)),au _ _⟩
 ·refine al rfl rfl (ad rfl rfl (al rfl rfl ?_));obtain⟨x,hx⟩:∃x,(l)[0]? =some x:=⟨_,ar (by omega)⟩;refine cv (M:=M) ao I3 rfl rfl rfl (hv) (aq _ _) (by first|omega|decide) (fun atv ajQ ab2 aoa=>?_);obtain rfl:x=ajQ:=dJ (aF (ab2.symm.trans hx));refine al rfl rfl ?_;refine cd (M:=M) ax rfl rfl (by assumption) (by repeat (first|exact aq _ _|refine bc (bF (by assumption)) ?_)) (fun T5=>?_);refine aU (v':= .int .i64 (x)) rfl ?_;replace T5: -9223372036854775808≤(x:Int)∧x≤9223372036854775807:=T5;refine al rfl rfl (ef rfl rfl rfl (al rfl rfl (ad rfl rfl ?_)));refine aS (g:=11) rfl (fun Db=>?_) (fun Db=>?_)
  ·refine al rfl rfl (ad rfl rfl (al rfl rfl ?_));refine aX rfl rfl ajO (A7 hv (by omega)) (fun r1 w1 h=>?_);obtain⟨rfl,s1⟩:=h;refine al rfl rfl (aZ rfl rfl rfl (al rfl rfl (ad rfl rfl ?_)));refine aS (g:=15) rfl (fun vh=>?_) (fun vh=>?_)
   ·refine al rfl rfl (ad rfl rfl (al rfl rfl ?_));refine aX rfl rfl Re (FH (s1.lt hM) (hv.le s1.le) hl) (fun r2 w2 h=>?_);obtain⟨M2,tM,Gg,s2⟩:=h;refine al rfl rfl ?_;refine aX rfl rfl ajP (C5 tM hl) (fun r3 w3 h=>?_);obtain⟨ac,kc,cc,rfl,PY,s3⟩:=h;have S3:=s2.cf s3 (fun b hb=>(tM.base b hb).1);refine al rfl rfl (Rg.mM ao rfl rfl (al rfl rfl (ad rfl rfl (al rfl rfl (bN ao rfl hv rfl (al rfl rfl (tY rfl rfl rfl (al rfl rfl (aZ rfl rfl rfl (aE rfl rfl rfl (ah rfl rfl ?_)))))))))));refine ab (aP ?_)
    first
    |(obtain rfl:l=[]:=cZ.1 (by omega)
      exact aV rfl rfl ⟨rfl,au _ _⟩)
    |exact aV rfl rfl ⟨congrArg Value.bool (by
      rw[lZ,ij (by omega),decide_eq_true_iff,iD hx];exact⟨fun h=>⟨Db,vh,PY.1 (by omega)⟩,fun h=>by have:=PY.2 h.2.2;omega⟩),(s1.aB S3.back)⟩
    |exact aV rfl rfl ⟨congrArg Value.bool (dJ (by
      rw[dd];intro h;exact vh ((ij (by omega)).1 h).2.1)),s1⟩
    |exact aV rfl rfl ⟨congrArg Value.bool (dJ (by
      rw[dd];intro h;have:=((ij (by omega)).1 h).1;rw[iD hx]at this;exact Db this)),au _ _⟩
   ·refine aw rfl rfl rfl rfl (aw rfl rfl rfl rfl (aw rfl rfl rfl rfl (aw rfl rfl rfl rfl (aw rfl rfl rfl rfl (aw rfl rfl rfl rfl (aw rfl rfl rfl rfl (al rfl rfl (aE rfl rfl rfl (aE rfl rfl rfl (ah rfl rfl (ab ?_)))))))))));refine aP ?_
    first
    |(obtain rfl:l=[]:=cZ.1 (by omega)
      exact aV rfl rfl ⟨rfl,au _ _⟩)
    |exact aV rfl rfl ⟨congrArg Value.bool (by
      rw[lZ,ij (by omega),decide_eq_true_iff,iD hx];exact⟨fun h=>⟨Db,vh,PY.1 (by omega)⟩,fun h=>by have:=PY.2 h.2.2;omega⟩),(s1.aB S3.back)⟩
    |exact aV rfl rfl ⟨congrArg Value.bool (dJ (by
      rw[dd];intro h;exact vh ((ij (by omega)).1 h).2.1)),s1⟩
    |exact aV rfl rfl ⟨congrArg Value.bool (dJ (by
      rw[dd];intro h;have:=((ij (by omega)).1 h).1;rw[iD hx]at this;exact Db this)),au _ _⟩
  ·refine aw rfl rfl rfl rfl (aw rfl rfl rfl rfl (al rfl rfl (aE rfl rfl rfl (al rfl rfl (ad rfl rfl (aw rfl rfl rfl rfl (aw rfl rfl rfl rfl (aw rfl rfl rfl rfl (aw rfl rfl rfl rfl (aw rfl rfl rfl rfl (aw rfl rfl rfl rfl ?_)))))))))));refine aw rfl rfl rfl rfl (al rfl rfl (aE rfl rfl rfl (aE rfl rfl rfl (ah rfl rfl (ab (aP ?_))))))
   first
   |(obtain rfl:l=[]:=cZ.1 (by omega)
     exact aV rfl rfl ⟨rfl,au _ _⟩)
   |exact aV rfl rfl ⟨congrArg Value.bool (by
     rw[lZ,ij (by omega),decide_eq_true_iff,iD hx];exact⟨fun h=>⟨Db,vh,PY.1 (by omega)⟩,fun h=>by have:=PY.2 h.2.2;omega⟩),(s1.aB S3.back)⟩
   |exact aV rfl rfl ⟨congrArg Value.bool (dJ (by
     rw[dd];intro h;exact vh ((ij (by omega)).1 h).2.1)),s1⟩
   |exact aV rfl rfl ⟨congrArg Value.bool (dJ (by
     rw[dd];intro h;have:=((ij (by omega)).1 h).1;rw[iD hx]at this;exact Db this)),au _ _⟩
theorem FQ {M:aD} {w0:World} {v:Value} {l:List Int} (hM:Lt M w0) (hv:((RT.int .i64).sl).V M w0 l v) (hl:l.length≤1099511627776):
  Spec Tryz.prog 106 #[v] w0 (fun v' w'=>v'= .bool (decide (eG (-1) l=false))∧Step M w0 M w' aC):=by
 refine bg (args:=[_]) (fn:=Tryz.f106) Tryz.func106 rfl (n:=6) Tryz.ntmps106 (aj (ae (ah rfl rfl (ab (aj (ae (ad rfl rfl ?_)))))));refine aX rfl rfl ajM (FP hM hv hl) (fun r1 w1 h=>?_);obtain⟨rfl,s1⟩:=h;refine lY rfl rfl (aU (v':= .bool (decide (eG (-1) l=false))) (congrArg Value.bool (by cases eG (-1) l<;>rfl)) (ah rfl rfl (ab (aP ?_))));exact aV rfl rfl ⟨rfl,s1⟩
theorem FR {M:aD} {w0:World} {v:Value} {ls:List (List Int)} (hM:Lt M w0) (hv:(((RT.int .i64).sl).sl).V M w0 ls v) (hl:∀l∈ls,l.length≤1099511627776):
  Spec Tryz.prog 156 #[v,.func (.func 106) #[] #[]] w0 (fun v' w'=>(∃r:Int,v'= .int .i64 r∧(r≥0↔∃l∈ls,eG (-1) l=false))∧Step M w0 M w' aC):=by
 have hlen:=dD hv;refine bg (args:=[_,_]) (fn:=Tryz.f156) Tryz.func156 rfl (n:=19) Tryz.ntmps156 (aj (ae (ah rfl rfl (ab (aj (aj (ae (ad rfl rfl (bN cQ rfl hv rfl (ad rfl rfl (ab ?_)))))))))));refine aY ?_;refine dh (σ:=Nat) (fun s=>[(0,v),(1,.func (.func 106) #[] #[]),(7,.int .i64 ls.length),(8,.int .i64 s)]) (fun s w=>s≤ls.length∧(∀t,t<s→∀l,ls[t]? =some l→eG (-1) l=true)∧Step M w0 M w aC) (fun s=>ls.length-s) 0 (.cons rfl (.cons rfl (.cons rfl (.cons rfl .nil)))) ?_ ?_
 ·exact⟨bD _,fun t h=>by omega,au _ _⟩
 ·rintro k w2 ⟨hk,ko,S⟩;refine aj (ae (cg rfl rfl rfl (ab (aj ?_))));refine bM rfl (fun c2=>?_) (fun c2=>?_)
  ·refine aT (aj (aY (aj (ae (ad rfl rfl (ah rfl rfl (ab (aj (ae (ad rfl rfl (ad rfl rfl ?_)))))))))));refine ad rfl rfl ?_;obtain⟨l,hx⟩:∃x,(ls)[k]? =some x:=⟨_,ar (by omega)⟩;refine cv (M:=M) cQ jY rfl rfl rfl (hv.le S.le) (aq _ _) (by first|omega|decide) (fun U0 W3 OX abN=>?_);obtain rfl:l=W3:=dJ (aF (OX.symm.trans (by rw[ay];exact hx)));refine bU (M:=M) ao rfl rfl rfl rfl rfl (by assumption) (by repeat (first|exact aq _ _|refine bc (bF (by assumption)) ?_)) (fun ajR O4=>?_);replace O4:(((RT.int .i64).sl)).V M _ l ajR:=O4;refine rO (first:=[]) (captured:=[]) rfl rfl rfl ajL (FQ (S.lt hM) O4 (hl _ (az hx))) (fun r w1 h=>?_);obtain⟨rfl,s1⟩:=h;refine ab ?_;refine bM rfl (fun c4=>?_) (fun c4=>?_)
   ·refine aj (ae (ad rfl rfl (ah rfl rfl (ab (aP ?_)))));exact aV rfl rfl ⟨⟨k,rfl,⟨fun _=>⟨l,az hx,c4⟩,fun _=>by omega⟩⟩,S.aB s1⟩
   ·refine aT (ae (bG rfl rfl rfl (by omega) (ad rfl rfl (ab ?_))));refine⟨rfl,k+1,(.cons rfl (.cons rfl (.cons rfl (.cons rfl .nil)))),?_,?_⟩
    ·refine⟨by omega,fun t ht l' hl'=>?_,S.aB s1⟩;rcases cE t k with h|h
     ·exact ko t h l' hl'
     ·rw[show t=k from by omega,hx]at hl';cases hl';simpa using c4
    ·show _-(k+1)<_-k;omega
  ·refine cH (aj (ae (ah rfl rfl (ab (aP ?_)))));refine aV rfl rfl ⟨⟨-1,rfl,⟨fun h=>by omega,fun⟨l,hm,hf⟩=>?_⟩⟩,S⟩;obtain⟨t,ht⟩:=bz.1 hm;have:=ko t (by have:=(an.1 ht).1;omega) l ht;rw[this]at hf;cases hf
theorem Av {M:aD} {w0:World} {v:Value} {ls:List (List Int)} (hM:Lt M w0) (hv:(((RT.int .i64).sl).sl).V M w0 ls v) (hl:∀l∈ls,l.length≤1099511627776):
  Spec Tryz.prog 105 #[v,.func (.func 106) #[] #[]] w0 (fun v' w'=>v'= .bool (decide (¬Up ls))∧Step M w0 M w' aC):=by
 refine bg (args:=[_,_]) (fn:=Tryz.f105) Tryz.func105 rfl (n:=9) Tryz.ntmps105 (aj (ae (ah rfl rfl (ab (aj (ae (ad rfl rfl (ad rfl rfl ?_))))))));refine aX rfl rfl ajN (FR hM hv hl) (fun r1 w1 h=>?_);obtain⟨⟨r0,rfl,hr⟩,s1⟩:=h;refine ef rfl rfl rfl (ah rfl rfl (ab (aP ?_)));refine aV rfl rfl ⟨congrArg Value.bool (decide_eq_decide.2 (hr.trans ?_)),s1⟩;unfold Up;constructor
 ·rintro⟨l,hm,hf⟩ h;rw[h l hm]at hf;cases hf
 ·intro h;refine Classical.byContradiction fun hn=>h fun l hm=> ?_
  cases mz:eG (-1) l with
  |true=>rfl
  |false=>exact absurd ⟨l,hm,mz⟩ hn
end Go.K
namespace Go.K
open Go.Proofs
namespace TKOrder11
theorem kG:TI Tryz.prog 124 (.agg #[(.int .i64 0),(.int .i64 0)]) 2 16:=by unfold TI;kernel_rfl
theorem ab3:TI Tryz.prog 178 (.pointer none) 1 8:=by unfold TI;kernel_rfl
theorem mc:TI Tryz.prog 183 (.agg #[(.int .i64 0),(.int .i64 0),(.int .i64 0)]) 3 24:=by unfold TI;kernel_rfl
theorem ajT:Enters Tryz.prog 105:=enters Tryz.func105 rfl (by decide)
theorem ab4:Enters Tryz.prog 108:=enters Tryz.func108 rfl (by decide)
theorem RQ:Enters Tryz.prog 110:=enters Tryz.func110 rfl (by decide)
theorem ajU:Enters Tryz.prog 111:=enters Tryz.func111 rfl (by decide)
end TKOrder11
open TKOrder11
set_option maxRecDepth 10000
theorem Aw {M:aD} {w0:World} {v:Value} {ls:List (List Int)} (hM:Lt M w0) (hv:(((RT.int .i64).sl).sl).V M w0 ls v) (Jy:ls.length≤1099511627776) (hl:∀l∈ls,l.length≤1099511627776) (Wv:sG ls≤1099511627776):
  Spec Tryz.prog 59 #[v] w0 (fun v' w'=>∃M',Lt M' w'∧Step M w0 M' w' aC∧∃vo:Value,∃e:Int,v'= .tuple #[vo,.int .i64 e]∧((¬Up ls∧e=1∧vo= .slice none 0 0)∨(Up ls∧∃r,rX ls r∧((r=none∧e=5∧vo= .slice none 0 0)∨∃out,r=some out∧e=0∧(ed out).length≤1099511627776∧Own RT.fo 124 M' w' w0.heap.size vo (ed out))))):=by
 have hlen:=dD hv;refine bg (args:=[_]) (fn:=Tryz.f59) Tryz.func59 rfl (n:=55) Tryz.ntmps59 (aj (ae ?_));refine xM M rfl rfl (fun bl wb zb zb' gb sb=>?_);have gb:wb.heap[bl]? =some (.cells #[v] 119 (0,0)):=by rw[gb];obtain⟨a,cap,rfl,_⟩:=iz.1 hv;rfl
 refine ah rfl rfl (ah rfl rfl (ab (aj (aj (ae (aN cQ rfl rfl rfl gb rfl ?_))))));refine aX rfl rfl ajT (Av (M:=ins M bl) (sb.lt hM) (hv.le sb.le) hl) (fun rc wc h=>?_);obtain⟨rfl,sc⟩:=h;have kQ:=sc.aL gb;have Sc:=sb.aB sc;clear gb;refine ab ?_;refine bM rfl (fun c1=>?_) (fun c1=>?_)
 ·refine aj (ae (ah rfl rfl (ah rfl rfl (ab (aP ?_)))));exact fp rfl rfl rfl ⟨_,Sc.lt hM,Sc,_,1,rfl,.inl ⟨c1,rfl,rfl⟩⟩
 ·refine aT (aj (ae ?_));have DA:Up ls:=Classical.byContradiction c1;refine Rg.Y1 bY mc (ins M bl) rfl (fun g wg zg zg' gg sg=>?_);have Sg:=Sc.aB sg;have ab5:=sg.aL kQ;clear kQ;refine xM (ins (ins M bl) g) rfl rfl (fun bh wh zh zh' gh sh=>?_);have gh:wh.heap[bh]? =some (.cells #[.slice (some ⟨g,0,none⟩) 0 0] 180 (0,0)):=gh;have Sh:=Sg.aB sh;have ab6:=sh.aL ab5;have ggh:=sh.aL gg;clear ab5 gg;refine dU (ins (ins (ins M bl) g) bh) ab3 rfl (fun b4 w4 z4 z4' g4 s4=>?_);have S4:=Sh.aB s4;have KQ:=s4.aL ab6;have gg4:=s4.aL ggh;have gh4:=s4.aL gh;clear ab6 ggh gh;refine cw (M:=ins (ins (ins (ins M bl) g) bh) b4) (u:= .pointer none) ab3 rfl rfl g4 rfl rfl (.inl rfl) (fun w5 g5 s5=>?_);have rW:w5.heap[b4]? =some (.cells #[.pointer (some ⟨bh,0,none⟩)] 178 (0,0)):=g5;have hz:=Sc.size;have z2:=sg.size;have z3:=sh.size;have hz5:=ak KQ;have kQ:=s5.keep KQ (fun e=>by have e:bl=b4:=e;have:=ak KQ;have:=Sh.size;rw[e]at KQ;rw[g4]at KQ;simp at KQ);have gg5:=s5.keep gg4 (fun e=>by have e:g=b4:=e;omega);have gh5:=s5.keep gh4 (fun e=>by have e:bh=b4:=e;omega);have S5:=S4.cf s5 (fun b hb=>by have hb:b=b4:=hb;omega);have hM5:=S5.lt hM;have hp5:rY 180 183 (ins (ins (ins (ins M bl) g) bh) b4) w5 bh w0.heap.size (.slice (some ⟨g,0,none⟩) 0 0) []:=⟨gh5,.inr (.inl rfl),Own.empty gg5 (by omega) (.inr (.inr (.inl rfl))),by simp,by decide⟩;refine ab (aj (ae (kr (xs:=[]) (ys:=[.tmp 1,.tmp 4]) rfl rfl rfl (ah rfl rfl (ab (aj (aj (ae (aN cQ rfl rfl rfl kQ rfl (bN cQ rfl (hv.le S5.le) rfl (ad rfl rfl ?_)))))))))));refine ab (aY ?_);refine dh (σ:=Nat×List Hd) (fun s=>[(1,.pointer (some ⟨bl,0,none⟩)),(2,.slice none 0 0),(3,.int .i64 0),(4,.pointer (some ⟨b4,0,none⟩)),(5,.func (.func 108) #[] #[.pointer (some ⟨bl,0,none⟩),.pointer (some ⟨b4,0,none⟩)]),(16,.int .i64 ls.length),(17,.int .i64 s.1)]) (fun s w=>s.1≤ls.length∧oW ls (fun _=>0) s.1 s.2∧qo s.2∧(∃M1 v1,Lt M1 w∧rY 180 183 M1 w bh w0.heap.size v1 s.2∧Step M w0 M1 w aC∧w.heap[bl]? =some (.cells #[v] 119 (0,0))∧w.heap[b4]? =some (.cells #[.pointer (some ⟨bh,0,none⟩)] 178 (0,0)))) (fun s=>ls.length-s.1) (0,[]) (.cons rfl (.cons rfl (.cons rfl (.cons rfl (.cons rfl (.cons rfl (.cons rfl .nil))))))) ?_ ?_
  ·exact⟨bD _,oW.zero ls,fun k h0 hk=>by simp at hk,_,_,hM5,hp5,S5,kQ,rW⟩
  ·rintro⟨i,hs⟩ w1 ⟨hi,Lg,hh,M1,v1,oy,h,S,kQ,rW⟩;dsimp only at hi Lg hh h ⊢;clear hp5;refine aj (ae (cg rfl rfl rfl (ab (aj ?_))));refine bM rfl (fun c6=>?_) (fun c6=>?_)
   ·refine aT (aj (aY (aj (ae (ad rfl rfl (ah rfl rfl (ab (ae (ad rfl rfl (ad rfl rfl ?_))))))))));refine rO (first:=[]) (captured:=[.pointer (some ⟨bl,0,none⟩),.pointer (some ⟨b4,0,none⟩)]) rfl rfl rfl ab4 (FO (i:=i) (k:=0) oy kQ rW (hv.le S.le) h hh (by omega) (by omega) (by have:=Lg.len;omega)) (fun rp w2 hq=>?_);obtain⟨M2,v2,Gr,h2,hh2,It,Gg,s2⟩:=hq;have kQ:=s2.keep kQ (NB.not ⟨_,_,kQ⟩ (by decide) (fun e=>by subst e;have:=kQ.symm.trans h.h;simp at this));have rW:=s2.keep rW (NB.not ⟨_,_,rW⟩ (by decide) (fun e=>by subst e;have:=rW.symm.trans h.h;simp at this));refine ab (ae (bG rfl rfl rfl (by omega) (ad rfl rfl (ab ?_))));refine⟨rfl,(i+1,Gr),(.cons rfl (.cons rfl (.cons rfl (.cons rfl (.cons rfl (.cons rfl (.cons rfl .nil))))))),?_,?_⟩
    ·exact⟨by simp only;omega,Lg.fill (by omega) It,hh2,M2,v2,Gg,h2,S.cf s2 (fun b hb=>hb.2.elim (fun e=>by have e:b=bh:=e;omega) (fun h=>h.1)),kQ,rW⟩
    ·show ls.length-(i+1)<ls.length-i;omega
   ·refine cH (aj (ae (ah rfl rfl (ab (aj (aj (ae (ah rfl rfl (ab (aY ?_))))))))));obtain rfl:i=ls.length:=by omega
    refine dh (σ:=(Nat→Nat)×List Hd×Int×Value×List Hd) (fun s=>[(1,.pointer (some ⟨bl,0,none⟩)),(4,.pointer (some ⟨b4,0,none⟩)),(5,.func (.func 108) #[] #[.pointer (some ⟨bl,0,none⟩),.pointer (some ⟨b4,0,none⟩)]),(7,s.2.2.2.1),(8,.int .i64 s.2.2.1)]) (fun s w=>Af ls s.1 s.2.1 s.2.2.1∧oW ls s.1 ls.length s.2.2.2.2∧qo s.2.2.2.2∧ma s.2.2.1∧(∃M1 v1,Lt M1 w∧rY 180 183 M1 w bh w0.heap.size v1 s.2.2.2.2∧Step M w0 M1 w aC∧w.heap[bl]? =some (.cells #[v] 119 (0,0))∧w.heap[b4]? =some (.cells #[.pointer (some ⟨bh,0,none⟩)] 178 (0,0))∧Own RT.fo 124 M1 w w0.heap.size s.2.2.2.1 (ed s.2.1))) (fun s=>rem ls s.1) (fun _=>0,[],-1,_,hs) (.cons rfl (.cons rfl (.cons rfl (.cons rfl (.cons rfl .nil))))) ?_ ?_
    ·exact⟨Af.zero ls DA,Lg,hh,⟨by simp only;decide,by simp only;decide⟩,M1,v1,oy,h,S,kQ,rW,dz _ _ _ _ _⟩
    ·clear h kQ rW S oy;rintro⟨at_,out,last,vo,hs⟩ w1 ⟨T6,Lg,hh,hlr,M1,v1,oy,h,S,kQ,rW,ho⟩;dsimp only at T6 Lg hh hlr h ho ⊢;refine aj (aj (ae (aN dq rfl rfl rfl rW rfl (bT rfl ⟨_,rfl⟩ rfl (aN bY rfl rfl rfl h.h rfl ?_)))));refine aX rfl rfl RQ (wV h.o) (fun rl wl h=>?_);obtain⟨rfl,rfl⟩:=h;refine jk rfl rfl rfl (ab ?_);refine bM rfl (fun U5=>?_) (fun U5=>?_)
     ·refine aT (aY (aj (ae (aN dq rfl rfl rfl rW rfl (Rg.yn dq rfl rfl rfl ?_)))));refine aX rfl rfl ajU (O2 oy h hh (by omega) (by have:=Lg.len;omega)) (fun rp w2 h=>?_);obtain⟨a,b,c,M2,v2,Gr,rfl,⟨ra,rb,rc⟩,h2,hh2,It,ON,Gg,s2⟩:=h;have kQ:=s2.keep kQ (NB.not ⟨_,_,kQ⟩ (by decide) (fun e=>by subst e;have:=kQ.symm.trans h.h;simp at this));have rW:=s2.keep rW (NB.not ⟨_,_,rW⟩ (by decide) (fun e=>by subst e;have:=rW.symm.trans h.h;simp at this));have S2:=S.cf s2 (fun b hb=>hb.2.elim (fun e=>by have e:b=bh:=e;omega) (fun h=>h.1));have tM:=ho.step s2 (fun k hk=>NB.not (ho.bt k hk) (by decide) (ho.apart h.h (by decide) k hk));obtain⟨i,n,hi,kE,xh⟩:=(Lg.2 _).1 (It.mem_iff.1 (bH ..));simp only[ej]at kE;obtain⟨rfl,rfl,rfl⟩:=kE;have N6:=xh.lt.2
      have dY:qY ls i≤1099511627776:=by
       obtain⟨l,Sy,_⟩:=xh;unfold qY;rw[aA,Sy];exact hl _ (az Sy)
      have T7:∀j m,Tr ls j (at_ j) m→a≤m:=fun j m hj=>ON _ ((Lg.2 (m,(j:Int),((at_ j:Nat):Int))).2 ⟨j,m,hj.lt.1,rfl,hj⟩)
      have Kn:RT.hd.V M2 w2 (a,(i:Int),((at_ i:Nat):Int)) _:=OO ra rb rc;clear h s2;refine Rg.Iu dO rfl rfl rfl ?_;refine yf (A:=RT.hd) (M:=M2) mc rfl rfl rfl rfl rfl Kn (aq _ _) Gg (fun u3 w3 J6 s3 z3=>?_);have kQ:=s3.aL kQ;have rW:=s3.aL rW;have h3:=h2.aO s3;have zM:=tM.aO s3;have S3:=S2.aB s3;have hM3:=s3.lt Gg;have hz3:=S3.size;refine ab (aj (aj (ae ?_)));refine aQ (M:=M2) (A:=RT.hd) (B:=RT.int .i64) dO rfl rfl I3 (by decide) (TR) rfl rfl (by decide) (by assumption) (by repeat (first|exact aq _ _|refine bc (bF (by assumption)) ?_)) (fun aaY Oh=>?_);refine cd (M:=M2) ax rfl rfl (by assumption) (by repeat (first|exact aq _ _|refine bc (bF (by assumption)) ?_)) (fun O5=>?_);refine aU (v':= .int .i64 (a)) rfl ?_;replace O5: -9223372036854775808≤(a:Int)∧a≤9223372036854775807:=O5;refine ad rfl rfl (tY rfl rfl rfl (ab ?_));refine bM rfl (fun K3=>?_) (fun K3=>?_)
      ·refine aj (ae (ah rfl rfl (ah rfl rfl (ab (aP ?_)))));exact fp rfl rfl rfl ⟨_,hM3,S3,_,5,rfl,.inr ⟨DA,none,T6.abu DA xh K3,.inl ⟨rfl,rfl,rfl⟩⟩⟩
      ·refine aT (aj (ae (ad rfl rfl ?_)));refine aQ (M:=M2) (A:=RT.hd) (B:=RT.int .i64) dO rfl rfl I3 (by decide) (yr) rfl rfl (by decide) (by assumption) (by repeat (first|exact aq _ _|refine bc (bF (by assumption)) ?_)) (fun aoc ajV=>?_);refine cd (M:=M2) ax rfl rfl (by assumption) (by repeat (first|exact aq _ _|refine bc (bF (by assumption)) ?_)) (fun O6=>?_);refine aU (v':= .int .i64 ((i:Int))) rfl ?_;replace O6: -9223372036854775808≤((i:Int):Int)∧(i:Int)≤9223372036854775807:=O6;refine aQ (M:=M2) (A:=RT.hd) (B:=RT.int .i64) dO rfl rfl I3 (by decide) (Ag) rfl rfl (by decide) (by assumption) (by repeat (first|exact aq _ _|refine bc (bF (by assumption)) ?_)) (fun aod ajW=>?_);refine cd (M:=M2) ax rfl rfl (by assumption) (by repeat (first|exact aq _ _|refine bc (bF (by assumption)) ?_)) (fun O7=>?_);refine aU (v':= .int .i64 (((at_ i:Nat):Int))) rfl ?_;replace O7: -9223372036854775808≤(((at_ i:Nat):Int):Int)∧((at_ i:Nat):Int)≤9223372036854775807:=O7;refine Rg.Qs cA kG I3 rfl rfl rfl ?_;refine eu (A:=RT.fo) (hn:=by decide) (M:=M2) fa kG (by decide) rfl rfl hM3 (aeF rb rc) (.inl rfl) (fun u6 w6 GZ s6=>?_);have kQ:=s6.aL kQ;have rW:=s6.aL rW;have h6:=h3.aO s6;have S6:=S3.aB s6;have Km:=s6.lt hM3;have hz6:=S6.size;have hal:=T6.f;have hlo:(ed out).length=out.length:=by unfold ed;simp
       refine cV (M:=M2) (base:=w0.heap.size) fa kG rfl rfl rfl rfl (zM.aO s6) GZ (aq _ _) (by rw[hlo];simp;omega) (by rw[hlo];simp;omega) (by omega) (fun vo7 M7 w7 nE s7=>?_);have tU:∀k,vo.ownBlock=some k→k≠bl∧k≠b4∧k≠bh:=fun k hk=>⟨fun e=>(zM.aO s6).apart kQ (by decide) k hk e,fun e=>(zM.aO s6).apart rW (by decide) k hk e,fun e=>(zM.aO s6).apart h6.h (by decide) k hk e⟩
       have kQ:=s7.keep kQ (fun hk=>(tU _ hk).1 rfl);have rW:=s7.keep rW (fun hk=>(tU _ hk).2.1 rfl);have h7:=h6.keep s7 (fun hk=>(tU _ hk).2.2 rfl) (fun k hk Cf=>(BT.ne ((zM.aO s6).bt k Cf) (h6.o.bt k hk) (by decide)) rfl);have S7:=S6.cf s7 (fun b hb=>(zM.base b hb).1);have hM7:=s7.lt Km;have hu7:=J6.le (by decide) (s6.le.trans s7.le);clear h2 h3 h6 tM zM;refine ah rfl rfl (ab (aj (ae ?_)));refine aQ (M:=M7) (A:=RT.hd) (B:=RT.int .i64) dO rfl rfl I3 (by decide) (TR) rfl rfl (by decide) (by assumption) (by repeat (first|exact aq _ _|refine bc (bF (by assumption)) ?_)) (fun aoe ajX=>?_);refine cd (M:=M7) ax rfl rfl (by assumption) (by repeat (first|exact aq _ _|refine bc (bF (by assumption)) ?_)) (fun O8=>?_);refine aU (v':= .int .i64 (a)) rfl ?_;replace O8: -9223372036854775808≤(a:Int)∧a≤9223372036854775807:=O8;refine ah rfl rfl (ab (ae (ad rfl rfl ?_)));refine aQ (M:=M7) (A:=RT.hd) (B:=RT.int .i64) dO rfl rfl I3 (by decide) (yr) rfl rfl (by decide) (by assumption) (by repeat (first|exact aq _ _|refine bc (bF (by assumption)) ?_)) (fun aof ajY=>?_);refine cd (M:=M7) ax rfl rfl (by assumption) (by repeat (first|exact aq _ _|refine bc (bF (by assumption)) ?_)) (fun O9=>?_);refine aU (v':= .int .i64 ((i:Int))) rfl ?_;replace O9: -9223372036854775808≤((i:Int):Int)∧(i:Int)≤9223372036854775807:=O9;refine aQ (M:=M7) (A:=RT.hd) (B:=RT.int .i64) dO rfl rfl I3 (by decide) (Ag) rfl rfl (by decide) (by assumption) (by repeat (first|exact aq _ _|refine bc (bF (by assumption)) ?_)) (fun aog ajZ=>?_);refine cd (M:=M7) ax rfl rfl (by assumption) (by repeat (first|exact aq _ _|refine bc (bF (by assumption)) ?_)) (fun Pb=>?_);refine aU (v':= .int .i64 (((at_ i:Nat):Int))) rfl ?_
       replace Pb: -9223372036854775808≤(((at_ i:Nat):Int):Int)∧((at_ i:Nat):Int)≤9223372036854775807:=Pb;refine bG rfl rfl rfl (by omega) (aU (v':= .int .i64 ((at_ i+1:Nat):Int)) (congrArg _ (by omega)) ?_);refine rO (first:=[]) (captured:=[.pointer (some ⟨bl,0,none⟩),.pointer (some ⟨b4,0,none⟩)]) rfl rfl rfl ab4 (FO (i:=i) (k:=at_ i+1) hM7 kQ rW (hv.le S7.le) h7 hh2 hi (by omega) (by have h1:=It.length_eq;have h2:=Lg.len;rw[cI]at h1;omega)) (fun rp w8 hq=>?_);obtain⟨M8,v8,H6,h8,hh8,hp8,hM8,s8⟩:=hq;have atG:=kQ;have kQ:=s8.keep kQ (NB.not ⟨_,_,kQ⟩ (by decide) (fun e=>by subst e;have:=kQ.symm.trans h7.h;simp at this));have rW:=s8.keep rW (NB.not ⟨_,_,rW⟩ (by decide) (fun e=>by subst e;have:=rW.symm.trans h7.h;simp at this));have ho8:=nE.step s8 (fun k hk=>NB.not (nE.bt k hk) (by decide) (nE.apart h7.h (by decide) k hk));have S8:=S7.cf s8 (fun b hb=>hb.2.elim (fun e=>by have e:b=bh:=e;omega) (fun h=>h.1));refine ab ?_;refine⟨rfl,(Fl at_ i,out++[(a,(i:Int),((at_ i:Nat):Int))],a,vo7,H6),(.cons rfl (.cons rfl (.cons rfl (.cons rfl (.cons rfl .nil))))),?_,?_⟩
       ·refine⟨T6.step DA xh T7 K3,Lg.next It hi hp8,hh8,ra,M8,v8,hM8,h8,S8,kQ,rW,?_⟩;unfold ed at ho8 ⊢;rw[ec];exact ho8
       ·show rem ls (Fl at_ i)<rem ls at_;have h1:=(T6.step DA xh T7 K3).f;have h2:=T6.f;rw[a8,cK]at h1;omega
     ·refine cH (aj (ae (ad rfl rfl (ah rfl rfl (ah rfl rfl (ab (aP ?_)))))));have rT:hs=[]:=cZ.1 (by omega);subst rT;exact fp rfl rfl rfl ⟨_,oy,S,_,0,rfl,.inr ⟨DA,some out,T6.fin (Lg.aiL),.inr ⟨out,rfl,rfl,(by have:=T6.f;unfold ed;rw[aH];omega),ho⟩⟩⟩
theorem FT {M:aD} {w0:World} {v:Value} {ls:List (List Int)} (hM:Lt M w0) (hv:((RT.int .i64).sl.sl).V M w0 ls v) (Jy:ls.length≤1099511627776) (hl:∀l∈ls,l.length≤1099511627776) (Wv:sG ls≤1099511627776):
  Spec Tryz.prog 59 #[v] w0 (fun v' w'=>(∃vo:Value,∃e:Int,v'= .tuple #[vo,.int .i64 e]∧((¬Up ls∧e=1∧vo= .slice none 0 0)∨(Up ls∧∃r,rX ls r∧((r=none∧e=5∧vo= .slice none 0 0)∨∃out,r=some out∧e=0∧((RT.fo).sl).V M w' (ed out) vo))))∧Step M w0 M w' aC):=
 (Aw hM hv Jy hl Wv).mono fun _ w' ⟨M',hM',S,vo,e,h0,h⟩=>⟨⟨vo,e,h0,h.imp id fun⟨hu,r,hr,h⟩=>⟨hu,r,hr,h.imp id fun⟨out,h1,h2,h3,ho⟩=>⟨out,h1,h2,ye hM S ho (by omega)⟩⟩⟩,S.back⟩
end Go.K
namespace Go.K
open Go.Proofs
namespace TKSegG
theorem abh:Enters Tryz.prog 180:=enters Tryz.func180 rfl (by decide)
end TKSegG
open TKSegG
set_option maxRecDepth 10000
theorem H7 {M:aD} {w0:World} {v:Value} (hM:Lt M w0):
  Spec Tryz.prog 124 #[v] w0 (fun v' w'=>∃bp,v'= .func (.func 179) [].toArray [.pointer (some ⟨bp,0,none⟩)].toArray∧w'.heap[bp]? =some (.cells v.cells 142 (0,0))∧w0.heap.size≤bp∧Step M w0 M w' aC):=by
 refine bg (args:=[_]) (fn:=Tryz.f124) Tryz.func124 rfl (n:=4) Tryz.ntmps124 (aj (ae ?_));refine xM M rfl rfl (fun bp w1 h1 X7 hS s1=>?_);refine ah rfl rfl (ab (aj (ae (kr (xs:=[]) (ys:=[.tmp 1]) rfl rfl rfl (ah rfl rfl (ab (aP ?_)))))));exact aV rfl rfl ⟨bp,rfl,hS,h1,s1.back⟩
theorem FU {w0:World} {bp yl:Nat} {v:Value} {l:List Po} {J:Nat→aD→World→Prop} {M:aD} {Jx:World→Prop} (I1:∀i M w,J i M w→w.heap[bp]? =some (.cells #[v] 142 (0,0))∧Lt M w∧cO RT.li M w v (nV l)∧∀w',Step M w M w' aC→J i M w') (ny:fN (-1) l=true) (ky:∀p∈l,p.2.length≤1099511627776) (kQ:(eh (-1) l).length≤1099511627776) (Jy:l.length≤1099511627776) (hy:∀(i:Nat) (M:aD) (w:World) (u:Value),J i M w→i<(l.length+7)/8→((RT.po).sl).V M w ((l.drop (8*i)).take 8) u→xj Tryz.prog yl [u].toArray w (fun r w'=>∃b,r= .bool b∧(b=true→∃M',J (i+1) M' w')∧(b=false→Jx w'))) (h0:J 0 M w0):
  Spec Tryz.prog 179 #[.func (.yield yl) #[] #[],.pointer (some ⟨bp,0,none⟩)] w0 (fun _ w'=>(∃M',J ((l.length+7)/8) M' w')∨Jx w'):=by
 obtain⟨hb0,hM,hp,kM⟩:=I1 _ _ _ h0;have hnb:(nV l).2.1.length=(l.length+7)/8:=by simp[nV,rU]
 refine bg (args:=[_,_]) (fn:=Tryz.f179) Tryz.func179 rfl (n:=19) Tryz.ntmps179 (aj (ae (aN eZ rfl rfl rfl hb0 rfl (bT rfl (cO.fH hp) rfl ?_))));refine aQ (M:=M) (A:=RT.li) (B:=(RT.bl).sl) eH rfl rfl JQ (by decide) (li1) rfl rfl (by decide) (by assumption) (by repeat (first|exact aq _ _|refine bc (bF (by assumption)) ?_)) (fun atH aoi=>?_);refine bU (M:=M) iR rfl rfl rfl rfl rfl (by assumption) (by repeat (first|exact aq _ _|refine bc (bF (by assumption)) ?_)) (fun atI aoj=>?_);refine bN iR rfl (by assumption) rfl (aU (v':= .int .i64 (((l.length+7)/8:Nat):Int)) (by rw[hnb]) (ad rfl rfl (ab (aY ?_))));refine dh (σ:=Nat) (fun s=>[(0,.func (.yield yl) #[] #[]),(1,.pointer (some ⟨bp,0,none⟩)),(8,.int .i64 (((l.length+7)/8:Nat):Int)),(9,.int .i64 s)]) (fun s w=>(∃M1,J s M1 w)∧s≤(l.length+7)/8) (fun s=>(l.length+7)/8-s) 0 (.cons rfl (.cons rfl (.cons rfl (.cons rfl .nil)))) ?_ ?_
 ·exact⟨⟨_,h0⟩,bD _⟩
 ·rintro k w1 ⟨⟨M1,hJ⟩,hk⟩;refine aj (ae (cg rfl rfl rfl (ab (aj ?_))));refine bM rfl (fun c1=>?_) (fun c1=>?_)
  ·refine aT (aj (aY (aj (ae (ad rfl rfl (ah rfl rfl (ab (aj (ae (ad rfl rfl ?_))))))))));obtain⟨mP,oy,PT,aj0⟩:=I1 _ _ _ hJ;refine aN eZ rfl rfl rfl mP rfl (ad rfl rfl ?_);refine aX rfl rfl abh (HF (M:=M1) (k:=k) oy PT ny ky kQ) (fun u w4 h4=>?_);obtain⟨s4,h4⟩:=h4;rw[if_pos (by unfold X8;simp;omega),ay]at h4;refine Rg.yield rfl (vs:=[u]) rfl rfl (hy k M1 _ u (aj0 _ s4) (by omega) h4) (fun r4 w5 h5=>?_);obtain⟨b,rfl,SG,qT⟩:=h5;refine lY rfl rfl (aU (v':= .bool (decide (¬b=true))) (by simp) (ab ?_));refine bM rfl (fun c3=>?_) (fun c3=>?_)
   ·refine aP ?_;exact DD rfl (.inr (qT (by simpa using c3)))
   ·refine aT (ae (bG rfl rfl rfl (by omega) (ad rfl rfl (ab ?_))));refine⟨rfl,k+1,(.cons rfl (.cons rfl (.cons rfl (.cons rfl .nil)))),?_,?_⟩
    ·exact⟨SG (cP.1 c3),by omega⟩
    ·show _-(k+1)<_-k;omega
  ·refine cH ?_;rw[show k=(l.length+7)/8 from by omega]at hJ;change xQ Tryz.prog Tryz.f179 (fun _ w'=>(∃M',J ((l.length+7)/8) M' w')∨Jx w') .normal _ [] _;exact gj rfl (.inl ⟨_,hJ⟩)
end Go.K
namespace Go.K
open Go.Proofs
namespace TKSegH
theorem x7:TI Tryz.prog 80 (.slice none 0 0) 1 24:=by unfold TI;kernel_rfl
theorem aj1:Enters Tryz.prog 124:=enters Tryz.func124 rfl (by decide)
theorem aj2:Enters Tryz.prog 179:=enters Tryz.func179 rfl (by decide)
end TKSegH
open TKSegH
set_option maxRecDepth 10000
structure sO (M:aD) (w0:World) (v:Value) (bo D bp:Nat) (st:Obj) (vo:Value) (xs:List Po) (M1:aD) (w:World):Prop where
 lt:Lt M1 w
 S:Step M w0 M1 w aC
 mo:M1 bo
 md:M1 D
 mr:M1 (D+1)
 o:w.heap[bo]? =some (.cells #[vo] 80 (0,0))
 d:w.heap[D]? =some (.deferred (some []))
 r:w.heap[D+1]? =some st
 p:w.heap[bp]? =some (.cells #[v] 142 (0,0))
 ne:bo<D∧bp<D∧bo≠bp∧w0.heap.size≤bo∧w0.heap.size≤D
 hk:Own RT.po 83 M1 w (D+2) vo xs
section
variable {M M1 M2:aD} {w0 w w':World} {v vo:Value} {bo D bp:Nat} {st:Obj} {xs:List Po}
theorem sO.step (h:sO M w0 v bo D bp st vo xs M1 w) (s:Step M1 w M2 w' aC):sO M w0 v bo D bp st vo xs M2 w':=
 ⟨s.lt h.lt,h.S.aB s,(s.mem _ (h.lt _ h.mo)).2 h.mo,(s.mem _ (h.lt _ h.md)).2 h.md,(s.mem _ (h.lt _ h.mr)).2 h.mr,s.aL h.o,s.aL h.d,s.aL h.r,s.aL h.p,h.ne,h.hk.aO s⟩
theorem sO.na {st':Obj} (h:sO M w0 v bo D bp st vo xs M1 w):sO M w0 v bo D bp st' vo xs M1 (w.putObj (D+1) st'):=by
 have s:Step M1 w M1 (w.putObj (D+1) st') (fun k=>k=D+1):=dZ h.mr;obtain⟨e1,e2,e3,e4,e5⟩:=h.ne;exact⟨s.lt h.lt,h.S.cf s (fun k hk=>by subst hk;omega),h.mo,h.md,h.mr,s.keep h.o (by omega),s.keep h.d (by omega),xN (ak h.r),s.keep h.p (by omega),h.ne,h.hk.step s (fun k uj hh=>by have:=(h.hk.base k uj).1;omega)⟩
theorem sO.grow {HN:Value} {OF:List Po} (h:sO M w0 v bo D bp st vo xs M1 w) (s:Step M1 w M2 w' (fun k=>vo.ownBlock=some k)) (hk:Own RT.po 83 M2 w' (D+2) HN OF):
  (w'.heap[bo]? =some (.cells #[vo] 80 (0,0))∧M2 bo)∧∀{w2:World},Step M2 w' M2 w2 (fun k=>k=bo)→w2.heap[bo]? =some (.cells #[HN] 80 (0,0))→sO M w0 v bo D bp st HN OF M2 w2:=by
 obtain⟨e1,e2,e3,e4,e5⟩:=h.ne;have hn:∀k,vo.ownBlock=some k→D+2≤k:=fun k hk=>(h.hk.base k hk).1
 have eV:=fun {k:Nat} (hm:M1 k)=>(s.mem k (h.lt k hm)).2 hm
 refine⟨⟨s.keep h.o (fun hh=>by have:=hn _ hh;omega),eV h.mo⟩,fun {w2} s2 hx=>?_⟩;have S':=h.S.cf s (fun k hk=>by have:=hn k hk;omega)
 exact⟨s2.lt (s.lt h.lt),S'.cf s2 (fun k hk=>by subst hk;exact e4),eV h.mo,eV h.md,eV h.mr,hx,s2.keep (s.keep h.d (fun hh=>by have:=hn _ hh;omega)) (by omega),s2.keep (s.keep h.r (fun hh=>by have:=hn _ hh;omega)) (by omega),s2.keep (s.keep h.p (fun hh=>by have:=hn _ hh;omega)) (Ne.symm e3),h.ne,
  hk.step s2 (fun k uj hh=>by have:=(hk.base k uj).1;omega)⟩
end
def Xa (M:aD) (w0:World) (l:List Po) (v:Value) (bo D bp:Nat) (st:Obj) (i:Nat) (M1:aD) (w:World):Prop:=
 ∃(vo:Value),sO M w0 v bo D bp st vo (l.take (8*i)) M1 w
theorem ab7 {M:aD} {w0 w2 w3:World} {v:Value} {l:List Po} {bo bp:Nat} {st:Obj} (S2:Step M w0 (ins M bo) w2 aC) (s3:Step (ins M bo) w2 (ins M bo) w3 aC) (hM:Lt M w0) (e1:w0.heap.size≤bo) (e2:bo<w2.heap.size) (e3:w2.heap.size≤bp)
  (hO:w2.heap[bo]? =some (.cells #[.slice none 0 0] 80 (0,0))) (hP:w3.heap[bp]? =some (.cells #[v] 142 (0,0))):∃M1,Xa M w0 l v bo w3.heap.size bp st 0 M1 ((w3.alloc (.deferred (some []))).alloc st):=by
 have sA:Step (ins M bo) w3 (ins (ins M bo) w3.heap.size) (w3.alloc (.deferred (some []))) aC:=(cW _ w3 _).own (aR _) (by simp);have sB:Step (ins (ins M bo) w3.heap.size) (w3.alloc (.deferred (some []))) (ins (ins (ins M bo) w3.heap.size) (w3.heap.size+1)) ((w3.alloc (.deferred (some []))).alloc st) aC:=(cW _ _ _).own (by simp) (by simp);have z3:=s3.size;have hp3:=ak hP;have S:=((S2.aB s3).aB sA).aB sB;have hD:(w3.alloc (.deferred (some []))).heap[w3.heap.size]? =some (.deferred (some [])):=cj w3 _;have hR:((w3.alloc (.deferred (some []))).alloc st).heap[w3.heap.size+1]? =some st:=by have:=cj (w3.alloc (.deferred (some []))) st;rwa [AJ]at this
 have z0:=S2.size;exact⟨_,.slice none 0 0,⟨S.lt hM,S,.inr (.inr (.inl rfl)),.inr (.inl rfl),.inl rfl,sB.aL (sA.aL (s3.aL hO)),sB.aL hD,hR,sB.aL (sA.aL hP),by omega,by rw[Nat.mul_zero,List.take_zero];exact dz _ _ _ _ _⟩⟩
set_option maxHeartbeats 2000000 in
theorem FV {M:aD} {w0:World} {v:Value} {l:List Po} (hM:Lt M w0) (hv:cO RT.li M w0 v (nV l)) (ny:fN (-1) l=true) (ky:∀p∈l,p.2.length≤1099511627776) (kQ:(eh (-1) l).length≤1099511627776) (Jy:l.length≤1099511627776):
  Spec Tryz.prog 78 #[v] w0 (fun v' w'=>((RT.po).sl).V M w' l v'∧Step M w0 M w' aC):=by
 refine oH (args:=[_]) (fn:=Tryz.f78) Tryz.func78 rfl (n:=12) Tryz.ntmps78 (aj (ae (ah rfl rfl (ab (aj (ae ?_))))));refine dU M x7 rfl (fun bo w2 Of aaU hO s2=>?_);refine ab (aj (aj (ae (ad rfl rfl ?_))));refine aX rfl rfl aj1 (H7 (M:=ins M bo) (s2.lt hM)) (fun r w3 h3=>?_);obtain⟨bp,rfl,hP,hbp,s3⟩:=h3;rw[show v.cells= #[v]from by obtain⟨q,rfl⟩:=cO.fH hv;rfl]at hP;refine ab (aY ?_);refine T.range (gf:=179) (lb:=[.pointer (some ⟨bp,0,none⟩)].toArray) rfl aj2 (fun rec nU=>?_);obtain⟨D,hD⟩:∃D,D=w3.heap.size:=⟨_,rfl⟩;rw[←hD]at nU ⊢
 obtain⟨Ms,h0⟩:∃Ms,Xa M w0 l v bo D bp (.loop (rec .ready none)) 0 Ms ((w3.alloc (.deferred (some []))).alloc (.loop (rec .ready none))):=by
  rw[hD]at nU ⊢;exact ab7 s2 s3 hM Of aaU hbp hO hP
 refine Spec.mono (FU (J:=Xa M w0 l v bo D bp (.loop (rec .ready none))) (Jx:=fun _=>False) (fun i M1 w ⟨vo,h⟩=>⟨h.p,h.lt,hv.le (by decide) h.S.le,fun w' s=>⟨vo,h.step s⟩⟩) ny ky kQ Jy (fun i M1 wr u hJ hi hu=>?_) h0) (fun _ w4 h4=>?_)
 ·obtain⟨vo,h⟩:=hJ;refine mg (ps:=[7]) (vs:=[u]) nU h.r rfl (by decide) (ae (ah rfl rfl (ab ?_)));refine⟨rfl,h.r,?_⟩;have sR:Step M1 wr M1 (wr.putObj (D+1) (.loop (rec .busy none))) (fun k=>k=D+1):=dZ h.mr;have Ss:=hu.le sR.le;have h1:=h.na (st':= .loop (rec .busy none));generalize wr.putObj (D+1) _=wB at h1 Ss ⊢;refine aY (ae (aN bA rfl rfl rfl h1.o rfl (ad rfl rfl ?_)));refine cV (M:=M1) (base:=D+2) bA l4 rfl rfl rfl rfl h1.hk Ss (aq _ _) (by simp;omega) (by simp;omega) (by have:=ak h1.r;omega) (fun v3 M3 w4 zM s4=>?_);obtain⟨⟨Kn,hm3⟩,Gw⟩:=h1.grow s4 zM;refine cw (M:=M3) x7 rfl rfl Kn rfl (by obtain⟨_,_,he,_⟩:=zM.isSlice;rw[he];rfl) hm3 (fun w5 hX5 s5=>?_);have h5:=(Gw s5 hX5).na (st':= .loop (rec .ready none));have h6:=Gw s5 hX5;refine ab ?_;refine⟨h6.r,true,rfl,fun _=>⟨M3,v3,?_⟩,fun h=>by cases h⟩;rw[show 8*(i+1)=8*i+8 from by omega,List.take_add];exact h5
 ·obtain⟨Mz,vo,h⟩:=h4.resolve_right (fun h=>h);left;rw[aW (by omega)]at h;have h5:=h.na (st':= .loop (rec .exhausted none));refine⟨h.r,?_⟩;generalize w4.putObj (D+1) _=wE at h5 ⊢;refine aj (ae (aN bA rfl rfl rfl h5.o rfl (ah rfl rfl (ab (aP ?_)))));obtain⟨q1,q2,q3,q4,q5⟩:=h5.ne;have sZ:Step Mz wE Mz (wE.putObj D (.deferred none)) (fun k=>k=D):=dZ h5.md;have SZ:=h5.S.cf sZ (fun k hk=>by subst hk;omega);exact Ck rfl rfl h5.d ⟨ye hM SZ ((h5.hk.step sZ (fun k hk hh=>by have:=(h5.hk.base k hk).1;omega)).nS (by omega)) (by omega),SZ.back⟩
end Go.K

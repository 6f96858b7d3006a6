/- What the law 'MergeNone' needs of walks and plain Lean, part 5: nothing is assumed beyond the texts that it imports. -/
import Derived.Ground.Names8Prog
import Derived.Ground.SlgnProg
import Derived.Ground.SlsfProg
import Derived.KernelRfl
import Derived.Lib.RowBridge
import Derived.Lib.SlicesCompact
import Derived.Shelf.Lays8
import Derived.Shelf.SlGeneric
import Derived.Shelf.SlLaysN
import Derived.Shelf.SlSortCmp.NoneTotal
import Derived.Shelf.SlicesG.CompactS
import Derived.Shelf.SortM.Plain
import Derived.Shelf.SortM.SortNone
import Derived.Shelf.Spec.SlicesGrow
import Derived.Test.YtbobcaffmbaadaaGreatDoorProg
import Derived.Test.YtbobcaffmbaadaaGreatDoorZMergeNone1
import Derived.Test.YtbobcaffmbaadaaGreatDoorZMergeNone2
import Derived.Test.YtbobcaffmbaadaaGreatDoorZMergeNone3
import Derived.Test.YtbobcaffmbaadaaGreatDoorZMergeNone4
set_option linter.unusedVariables false
set_option linter.unusedSimpArgs false
namespace Go.K
abbrev Hd:=Int×Int×Int
def hn (xs:List Hd) (i:Nat):Int:=(xs.getD i (0,0,0)).1
def swp (xs:List Hd) (i j:Nat):List Hd:=(xs.set i (xs.getD j (0,0,0))).set j (xs.getD i (0,0,0))
def p8 (xs:List Hd):Prop:=∀k,0<k→k<xs.length→hn xs ((k-1)/2)≤hn xs k
theorem lR (xs:List Hd) (i j:Nat):(swp xs i j).length=xs.length:=by unfold swp;simp
theorem qK {xs:List Hd} {i j:Nat} (hi:i<xs.length) (hj:j<xs.length) (k:Nat):(swp xs i j).getD k (0,0,0)=if k=j then xs.getD i (0,0,0)else if k=i then xs.getD j (0,0,0)else xs.getD k (0,0,0):=by
 unfold swp;simp only[az,dp,fm];by_cases h1:j=k
 ·subst h1;rw[if_pos rfl,if_pos hj,if_pos rfl];rfl
 ·rw[if_neg h1,if_neg (show¬k=j from fun h=>h1 h.symm)];by_cases h2:i=k
  ·subst h2;rw[if_pos rfl,if_pos rfl,if_pos hi];rfl
  ·rw[if_neg h2,if_neg (show¬k=i from fun h=>h2 h.symm)]
theorem G6 {xs:List Hd} {i j:Nat} (hi:i<xs.length) (hj:j<xs.length) (k:Nat):hn (swp xs i j) k=if k=j then hn xs i else if k=i then hn xs j else hn xs k:=by
 unfold hn;rw[qK hi hj];split
 ·rfl
 ·split<;>rfl
theorem qL {xs:List Hd} {i j:Nat} (hi:i<xs.length) (hj:j<xs.length):(swp xs i j).Perm xs:=by
 have:=List.set_set_perm hi hj;unfold swp;rw[az,az,ar hi,ar hj];exact this
structure O7 (xs:List Hd) (j:Nat):Prop where
 a:∀k,0<k→k<xs.length→k≠j→hn xs ((k-1)/2)≤hn xs k
 b:0<j→∀k,0<k→k<xs.length→(k-1)/2=j→hn xs ((j-1)/2)≤hn xs k
theorem O7.done {xs:List Hd} {j:Nat} (h:O7 xs j) (hd:j=0∨hn xs ((j-1)/2)≤hn xs j):p8 xs:=fun k h0 hk=>by
 by_cases e:k=j
 ·subst e;rcases hd with hd|hd
  ·omega
  ·exact hd
 ·exact h.a k h0 hk e
theorem O7.push {xs:List Hd} (h:p8 xs) (x:Hd):O7 (xs++[x]) xs.length:=by
 have key:∀k,k<xs.length→hn (xs++[x]) k=hn xs k:=fun k hk=>by
  unfold hn;rw[az,az,jP hk]
 refine⟨fun k h0 hk eK=>?_,fun h0 k Fz hk he=>?_⟩
 ·rw[bj,eu]at hk;rw[key k (by omega),key _ (by omega)];exact h k h0 (by omega)
 ·rw[bj,eu]at hk;omega
theorem O7.swap {xs:List Hd} {j:Nat} (h:O7 xs j) (hj:j<xs.length) (h0:0<j) (hl:hn xs j<hn xs ((j-1)/2)):O7 (swp xs ((j-1)/2) j) ((j-1)/2):=by
 obtain⟨i,hi⟩:∃i,i=(j-1)/2:=⟨_,rfl⟩;rw[←hi]at hl ⊢;have ji:i<j:=by omega
 have hs:=fun k=>G6 (xs:=xs) (i:=i) (j:=j) (by omega) hj k
 refine⟨fun k Fz hk eK=>?_,fun hi0 k Fz hk he=>?_⟩
 ·rw[lR]at hk;rw[hs,hs];by_cases e1:k=j
  ·subst e1;rw[if_pos rfl,←hi,if_neg (by omega),if_pos rfl];omega
  ·rw[if_neg e1,if_neg eK];by_cases e2:(k-1)/2=j
   ·rw[if_pos e2];have:=h.b h0 k Fz hk e2;rw[←hi]at this;exact this
   ·rw[if_neg e2];have h1:=h.a k Fz hk e1;by_cases e3:(k-1)/2=i
    ·rw[if_pos e3];rw[e3]at h1;omega
    ·rw[if_neg e3];exact h1
 ·rw[lR]at hk;rw[hs,hs,if_neg (by omega),if_neg (by omega)];have h2:=h.a i hi0 (by omega) (by omega);by_cases e1:k=j
  ·rw[if_pos e1];exact h2
  ·rw[if_neg e1,if_neg (by omega)];have h1:=h.a k Fz hk e1;rw[he]at h1;omega
structure Kp (xs:List Hd) (n i:Nat):Prop where
 a:∀k,0<k→k<n→(k-1)/2≠i→hn xs ((k-1)/2)≤hn xs k
 b:0<i→∀k,0<k→k<n→(k-1)/2=i→hn xs ((i-1)/2)≤hn xs k
theorem Kp.leaf {xs:List Hd} {n i:Nat} (h:Kp xs n i) (hl:n≤2*i+1):∀k,0<k→k<n→hn xs ((k-1)/2)≤hn xs k:=fun k h0 hk=>h.a k h0 hk (by omega)
theorem Kp.stay {xs:List Hd} {n i j:Nat} (h:Kp xs n i) (hj:j=2*i+1∨j=2*i+2) (hm:∀k,(k=2*i+1∨k=2*i+2)→k<n→hn xs j≤hn xs k) (hs:hn xs i≤hn xs j):∀k,0<k→k<n→hn xs ((k-1)/2)≤hn xs k:=fun k h0 hk=>by
 by_cases e:(k-1)/2=i
 ·rw[e];have:=hm k (by omega) hk;omega
 ·exact h.a k h0 hk e
theorem Kp.swap {xs:List Hd} {n i j:Nat} (h:Kp xs n i) (Jj:n≤xs.length) (Ke:j<n) (hj:j=2*i+1∨j=2*i+2) (hm:∀k,(k=2*i+1∨k=2*i+2)→k<n→hn xs j≤hn xs k) (hl:hn xs j<hn xs i):Kp (swp xs i j) n j:=by
 have hs:=fun k=>G6 (xs:=xs) (i:=i) (j:=j) (by omega) (by omega) k
 refine⟨fun k Fz hk eK=>?_,fun _ k Fz hk he=>?_⟩
 ·rw[hs,hs,if_neg eK];by_cases e1:(k-1)/2=i
  ·rw[if_pos e1];by_cases e2:k=j
   ·rw[if_pos e2];omega
   ·rw[if_neg e2,if_neg (by omega)];exact hm k (by omega) hk
  ·rw[if_neg e1,if_neg (by omega)];by_cases e2:k=i
   ·rw[if_pos e2,e2];rw[e2]at Fz;exact h.b Fz j (by omega) Ke (by omega)
   ·rw[if_neg e2];exact h.a k Fz hk e1
 ·rw[hs,hs,if_neg (by omega),if_pos (by omega),if_neg (by omega),if_neg (by omega)];have h1:=h.a k Fz hk (by omega);rw[he]at h1;exact h1
theorem Kp.pop {xs:List Hd} (h:p8 xs) (hl:0<xs.length):Kp (swp xs 0 (xs.length-1)) (xs.length-1) 0:=by
 have hs:=fun k=>G6 (xs:=xs) (i:=0) (j:=xs.length-1) hl (by omega) k
 refine⟨fun k Fz hk eK=>?_,fun h0=>by omega⟩;rw[hs,hs,if_neg (by omega),if_neg (by omega),if_neg (by omega),if_neg (by omega)];exact h k Fz (by omega)
theorem p8.min {xs:List Hd} (h:p8 xs):∀k,k<xs.length→hn xs 0≤hn xs k
 |0,_=>Int.le_refl _
 |k+1,hk=>Int.le_trans (p8.min h (k/2) (by omega)) (by have:=h (k+1) (by omega) hk;rwa [Nat.add_sub_cancel]at this)
termination_by k _=>k
theorem p8.take {xs:List Hd} {n:Nat} (Jj:n≤xs.length) (h:∀k,0<k→k<n→hn xs ((k-1)/2)≤hn xs k):p8 (xs.take n):=fun k h0 hk=>by
 rw[bH]at hk
 have key:∀t,t<n→hn (xs.take n) t=hn xs t:=fun t ht=>by
  unfold hn;rw[az,az,cn,if_pos ht]
 rw[key _ (by omega),key _ (by omega)];exact h k h0 (by omega)
theorem VV {xs:List Hd} {x:Hd} (hx:x∈xs):∃k,k<xs.length∧xs.getD k (0,0,0)=x∧hn xs k=x.1:=by
 obtain⟨k,hk⟩:=bB.1 hx;have h1:=(ao.1 hk).1;refine⟨k,h1,?_,?_⟩
 ·rw[az,hk];rfl
 ·unfold hn;rw[az,hk];rfl
theorem QM {xs ys:List Hd} (hl:0<xs.length) (hp:ys.Perm xs) (jk:ys.getD (xs.length-1) (0,0,0)=xs.getD 0 (0,0,0)):∃x,ys.getD (xs.length-1) (0,0,0)=x∧(x::ys.take (xs.length-1)).Perm xs:=by
 refine⟨_,rfl,?_⟩;have FU:=hp.length_eq
 have h1:ys=ys.take (xs.length-1)++[ys.getD (xs.length-1) (0,0,0)]:=by
  conv=>lhs;rw[←uP (xs.length-1) ys]
  congr 1;rw[dB (by omega),fv (by omega),az,ar (by omega)];rfl
 have h2:(ys.getD (xs.length-1) (0,0,0)::ys.take (xs.length-1)).Perm (ys.take (xs.length-1)++[ys.getD (xs.length-1) (0,0,0)]):=(List.perm_append_comm (l₁:=[_]));rw[←h1]at h2;exact h2.trans hp
end Go.K
namespace Go.K
theorem tn:∀(l:List Int) (last:Int),eo last l=true→l.Pairwise (· < ·)∧∀x∈l,last<x
 |[],_,_=>by simp
 |a::l,last,h=>by
  simp only[eo,bU,decide_eq_true_eq]at h;obtain⟨h1,h2⟩:=tn l a h.2;refine⟨ek.2 ⟨h2,h1⟩,fun x hx=>?_⟩;rcases cf.1 hx with rfl|hx
  ·exact h.1
  ·have:=h2 x hx;omega
end Go.K
namespace Go.K
def Tr (ls:List (List Int)) (i k:Nat) (n:Int):Prop:=∃l,ls[i]? =some l∧l[k]? =some n
def zy (f:Nat→Nat):Nat→Nat
 |0=>0
 |k+1=>zy f k+f k
theorem Ij {f g:Nat→Nat}:∀{n:Nat},(∀j,j<n→f j=g j)→zy f n=zy g n
 |0,_=>rfl
 |n+1,h=>by unfold zy;rw[Ij (fun j hj=>h j (by omega)),h n (by omega)]
theorem EH {f g:Nat→Nat} {i:Nat} (hi:f i=g i+1) (hj:∀j,j≠i→f j=g j):∀{n:Nat},i<n→zy f n=zy g n+1
 |0,h=>by omega
 |n+1,h=>by
  unfold zy;by_cases e:i=n
  ·subst e;rw[hi,Ij (fun j hj'=>hj j (by omega))];omega
  ·rw[EH hi hj (n:=n) (by omega),hj n (fun h=>e h.symm)];omega
def qM (ls:List (List Int)) (i:Nat):Nat:=(ls.getD i []).length
def rW (ls:List (List Int)):Nat:=zy (qM ls) ls.length
def rem (ls:List (List Int)) (at_:Nat→Nat):Nat:=zy (fun i=>qM ls i-at_ i) ls.length
def EI (at_:Nat→Nat) (i:Nat):Nat→Nat:=fun j=>if j=i then at_ j+1 else at_ j
theorem Tr.lt {ls:List (List Int)} {i k:Nat} {n:Int} (h:Tr ls i k n):i<ls.length∧k<qM ls i:=by
 obtain⟨l,h1,h2⟩:=h;have h3:=(ao.1 h1).1;refine⟨h3,?_⟩;unfold qM;rw[az,h1];exact(ao.1 h2).1
theorem Tr.un {ls:List (List Int)} {i k:Nat} {n n':Int} (h:Tr ls i k n) (h':Tr ls i k n'):n=n':=by
 obtain⟨l,h1,h2⟩:=h;obtain⟨l',h3,h4⟩:=h';rw[h1]at h3;cases h3;rw[h2]at h4;cases h4;rfl
theorem Tr.ex {ls:List (List Int)} {i k:Nat} (h:k<qM ls i):∃n,Tr ls i k n:=by
 unfold qM at h;rw[az]at h
 cases hi:ls[i]? with
 |none=>rw[hi]at h;simp at h
 |some l=>rw[hi]at h;exact⟨_,l,hi,ar h⟩
def Up (ls:List (List Int)):Prop:=∀l∈ls,eo (-1) l=true
noncomputable instance (ls:List (List Int)):Decidable (Up ls):=Classical.propDecidable _
theorem Up.mono {ls:List (List Int)} (h:Up ls) {i k k':Nat} {n n':Int} (h1:Tr ls i k n) (h2:Tr ls i k' n') (hk:k<k'):n<n':=by
 obtain⟨l,a1,a2⟩:=h1;obtain⟨l',b1,b2⟩:=h2;rw[a1]at b1;cases b1;have hp:=(tn l (-1) (h l (aA a1))).1;obtain⟨c1,c2⟩:=ao.1 a2;obtain⟨d1,d2⟩:=ao.1 b2;rw[←c2,←d2];exact(cC.1 hp) k k' c1 d1 hk
theorem Up.nn {ls:List (List Int)} (h:Up ls) {i k:Nat} {n:Int} (h1:Tr ls i k n):0≤n:=by
 obtain⟨l,a1,a2⟩:=h1;have:=(tn l (-1) (h l (aA a1))).2 n (aA a2);omega
structure zz (ls:List (List Int)) (at_:Nat→Nat) (out:List Hd) (last:Int):Prop where
 a:∀o∈out,∃i k:Nat,o=(o.1,(i:Int),(k:Int))∧Tr ls i k o.1∧k<at_ i
 b:∀i k n,Tr ls i k n→k<at_ i→(n,(i:Int),(k:Int))∈out
 c:out.Pairwise fun p q=>p.1<q.1
 d:∀o∈out,o.1≤last
 d2:last= -1∨∃o∈out,o.1=last
 e:∀i n,Tr ls i (at_ i) n→last≤n
 f:out.length+rem ls at_=rW ls
theorem zz.zero (ls:List (List Int)) (h:Up ls):zz ls (fun _=>0) [] (-1):=
 ⟨fun _ h=>by(cases h),fun i k n _ h=>by omega,List.Pairwise.nil,fun _ h=>by(cases h),.inl rfl,fun i n ht=>by have:=h.nn ht;omega,by simp[rem,rW]⟩
theorem zz.step {ls:List (List Int)} {at_:Nat→Nat} {out:List Hd} {last:Int} (hu:Up ls) (h:zz ls at_ out last) {i:Nat} {n:Int} (ht:Tr ls i (at_ i) n) (NY:∀j m,Tr ls j (at_ j) m→n≤m) (eK:n≠last):
  zz ls (EI at_ i) (out++[(n,(i:Int),((at_ i:Nat):Int))]) n:=by
 have dR:=h.e i n ht;refine⟨fun o ho=>?_,fun j k m hj hk=>?_,?_,fun o ho=>?_,.inr ⟨_,List.mem_append_right _ (bJ.2 rfl),rfl⟩,fun j m hj=>?_,?_⟩
 ·rcases cp.1 ho with ho|ho
  ·obtain⟨j,k,h1,h2,h3⟩:=h.a o ho;exact⟨j,k,h1,h2,by unfold EI;split<;>omega⟩
  ·rw[bJ]at ho;subst ho;exact⟨i,at_ i,rfl,ht,by unfold EI;rw[if_pos rfl];omega⟩
 ·unfold EI at hk;by_cases e:j=i
  ·subst e;rw[if_pos rfl]at hk;rcases cI k (at_ j)with h1|h1
   ·exact gu _ (h.b j k m hj h1)
   ·obtain rfl:k=at_ j:=by omega
    rw[hj.un ht];exact List.mem_append_right _ (bJ.2 rfl)
  ·rw[if_neg e]at hk;exact gu _ (h.b j k m hj hk)
 ·refine ny.2 ⟨h.c,List.pairwise_singleton _ _,fun p hp q hq=>?_⟩;rw[bJ]at hq;subst hq;have:=h.d p hp;simp only;omega
 ·rcases cp.1 ho with ho|ho
  ·have:=h.d o ho;omega
  ·rw[bJ]at ho;subst ho;exact Int.le_refl _
 ·unfold EI at hj;by_cases e:j=i
  ·subst e;rw[if_pos rfl]at hj;have:=hu.mono ht hj (by omega);omega
  ·rw[if_neg e]at hj;exact NY j m hj
 ·obtain⟨h1,h2⟩:=ht.lt;have h3:=h.f;have h4:rem ls at_=rem ls (EI at_ i)+1:=EH (i:=i) (by simp only[EI,if_true];omega) (fun j hj=>by simp only[EI,if_neg hj]) h1;rw[bj,eu];omega
def rH (ls:List (List Int)):Option (List Hd)→Prop
 |none=>∃i k i' k' n,¬(i=i'∧k=k')∧Tr ls i k n∧Tr ls i' k' n
 |some out=>(out.Pairwise fun p q=>p.1<q.1)∧(∀o∈out,∃i k:Nat,o=(o.1,(i:Int),(k:Int))∧Tr ls i k o.1)∧∀i k n,Tr ls i k n→(n,(i:Int),(k:Int))∈out
theorem zz.fin {ls:List (List Int)} {at_:Nat→Nat} {out:List Hd} {last:Int} (h:zz ls at_ out last) (hn:∀i n,¬Tr ls i (at_ i) n):rH ls (some out):=by
 refine⟨h.c,fun o ho=>?_,fun i k n ht=>?_⟩
 ·obtain⟨i,k,h1,h2,_⟩:=h.a o ho;exact⟨i,k,h1,h2⟩
 ·refine h.b i k n ht ?_;rcases cI k (at_ i)with h1|h1
  ·exact h1
  ·obtain⟨m,hm⟩:=Tr.ex (ls:=ls) (i:=i) (k:=at_ i) (by have:=ht.lt.2;omega);exact absurd hm (hn i m)
theorem zz.aap {ls:List (List Int)} {at_:Nat→Nat} {out:List Hd} {last:Int} (hu:Up ls) (h:zz ls at_ out last) {i:Nat} {n:Int} (ht:Tr ls i (at_ i) n) (he:n=last):rH ls none:=by
 rcases h.d2 with h1|⟨o,ho,h1⟩
 ·have:=hu.nn ht;omega
 ·obtain⟨j,k,h2,h3,h4⟩:=h.a o ho;refine⟨i,at_ i,j,k,n,fun⟨e1,e2⟩=>by subst e1;omega,ht,?_⟩;rw[he,←h1];exact h3
theorem Bu:∀{a b:List Hd},(a.Pairwise fun p q=>p.1<q.1)→(b.Pairwise fun p q=>p.1<q.1)→(∀x,x∈a↔x∈b)→a=b
 |[],[],_,_,_=>rfl
 |[],y::b,_,_,h=>by have:=(h y).2 (bP ..);cases this
 |x::a,[],_,_,h=>by have:=(h x).1 (bP ..);cases this
 |x::a,y::b,ha,hb,h=>by
  obtain⟨xr,yf⟩:=ek.1 ha;obtain⟨mv,pD⟩:=ek.1 hb
  have e:x=y:=by
   rcases cf.1 ((h x).1 (bP ..))with h1|h1
   ·exact h1
   ·rcases cf.1 ((h y).2 (bP ..))with h2|h2
    ·exact h2.symm
    ·have:=mv x h1;have:=xr y h2;omega
  subst e;rw[Bu yf pD (fun z=>?_)];constructor
  ·intro hz;rcases cf.1 ((h z).1 (b9 _ hz))with h1|h1
   ·subst h1;have:=xr z hz;omega
   ·exact h1
  ·intro hz;rcases cf.1 ((h z).2 (b9 _ hz))with h1|h1
   ·subst h1;have:=mv z hz;omega
   ·exact h1
theorem G7 {out:List Hd} (h:out.Pairwise fun p q=>p.1<q.1) {x y:Hd} (hx:x∈out) (hy:y∈out) (he:x.1=y.1):x=y:=by
 obtain⟨i,hi⟩:=bB.1 hx;obtain⟨j,hj⟩:=bB.1 hy;obtain⟨i1,i2⟩:=ao.1 hi;obtain⟨j1,j2⟩:=ao.1 hj;have hp:=cC.1 h;rcases fa i j with h1|h1|h1
 ·have:=hp i j i1 j1 h1;rw[i2,j2]at this;omega
 ·subst h1;rw[←i2,←j2]
 ·have:=hp j i j1 i1 h1;rw[i2,j2]at this;omega
theorem rH.un {ls:List (List Int)}:∀{r r':Option (List Hd)},rH ls r→rH ls r'→r=r':=by
 have key:∀{out:List Hd},rH ls none→rH ls (some out)→False:=by
  rintro out ⟨i,k,i',k',n,eK,h1,h2⟩ ⟨h3,h4,h5⟩;have:=G7 h3 (h5 _ _ _ h1) (h5 _ _ _ h2) rfl;simp only[ec,true_and]at this;exact eK ⟨by omega,by omega⟩
 intro r r' h h'
 cases r with
 |none=>cases r' with
  |none=>rfl
  |some o=>exact(key h h').elim
 |some o=>cases r' with
  |none=>exact(key h' h).elim
  |some o'=>
   have half:∀{a b:List Hd},rH ls (some a)→rH ls (some b)→∀x∈a,x∈b:=fun ha hb x hx=>by
    obtain⟨i,k,e1,e2⟩:=ha.2.1 x hx;rw[e1];exact hb.2.2 i k _ e2
   rw[Bu h.1 h'.1 (fun x=>⟨half h h' x,half h' h x⟩)]
def oE (ls:List (List Int)) (at_:Nat→Nat) (upto:Nat) (hs:List Hd):Prop:=hs.Nodup∧∀h:Hd,h∈hs↔∃(i:Nat) (n:Int),i<upto∧h=(n,(i:Int),((at_ i:Nat):Int))∧Tr ls i (at_ i) n
theorem oE.perm {ls:List (List Int)} {at_:Nat→Nat} {u:Nat} {hs rh:List Hd} (h:oE ls at_ u hs) (hp:rh.Perm hs):oE ls at_ u rh:=⟨hp.nodup_iff.2 h.1,fun x=>(hp.mem_iff).trans (h.2 x)⟩
def JL (ls:List (List Int)) (i k:Nat):List Hd:=match (ls.getD i [])[k]? with
 |some n=>[(n,(i:Int),(k:Int))]
 |none=>[]
theorem Tr.iff {ls:List (List Int)} {i k:Nat} {n:Int}:Tr ls i k n↔i<ls.length∧(ls.getD i [])[k]? =some n:=by
 constructor
 ·rintro⟨l,h1,h2⟩;have h3:=(ao.1 h1).1;rw[az,h1];exact⟨h3,h2⟩
 ·rintro⟨h1,h2⟩;rw[az,ar h1]at h2;exact⟨_,ar h1,h2⟩
theorem xR {ls:List (List Int)} {i k:Nat} (hi:i<ls.length) {h:Hd}:h∈JL ls i k↔∃n,h=(n,(i:Int),(k:Int))∧Tr ls i k n:=by
 unfold JL;constructor
 ·intro hh
  split at hh
  ·rename_i n hn
   rw[bJ]at hh;exact⟨n,hh,Tr.iff.2 ⟨hi,hn⟩⟩
  ·cases hh
 ·rintro⟨n,rfl,ht⟩;rw[(Tr.iff.1 ht).2];exact bJ.2 rfl
theorem Bv (ls:List (List Int)) (i k:Nat):(JL ls i k).Nodup:=by unfold JL;split<;>simp
theorem oE.fill {ls:List (List Int)} {u:Nat} {hs rh:List Hd} (h:oE ls (fun _=>0) u hs) (hu:u<ls.length) (hp:rh.Perm (hs++JL ls u 0)):oE ls (fun _=>0) (u+1) rh:=by
 refine oE.perm (hs:=hs++JL ls u 0) ⟨?_,fun x=>?_⟩ hp
 ·refine List.nodup_append.2 ⟨h.1,Bv _ _ _,fun a ha b hb e=>?_⟩;subst e;obtain⟨i,n,h1,h2,_⟩:=(h.2 a).1 ha;obtain⟨m,h3,_⟩:=(xR hu).1 hb;rw[h2]at h3;simp only[ec]at h3;omega
 ·rw[cp,h.2 x,xR hu];constructor
  ·rintro(⟨i,n,h1,h2,h3⟩|⟨n,h2,h3⟩)
   ·exact⟨i,n,by omega,h2,h3⟩
   ·exact⟨u,n,by omega,h2,h3⟩
  ·rintro⟨i,n,h1,h2,h3⟩;rcases cI i u with h4|h4
   ·exact .inl ⟨i,n,h4,h2,h3⟩
   ·obtain rfl:i=u:=by omega
    exact .inr ⟨n,h2,h3⟩
theorem oE.next {ls:List (List Int)} {at_:Nat→Nat} {hs ys zs:List Hd} {i:Nat} {n:Int} (h:oE ls at_ ls.length hs) (hp:((n,(i:Int),((at_ i:Nat):Int))::ys).Perm hs) (hi:i<ls.length) (hz:zs.Perm (ys++JL ls i (at_ i+1))):oE ls (EI at_ i) ls.length zs:=by
 have oJ:=(hp.nodup_iff).2 h.1;obtain⟨hn1,hn2⟩:=List.nodup_cons.1 oJ
 have eH:∀x,x∈ys↔x∈hs∧x≠(n,(i:Int),((at_ i:Nat):Int)):=fun x=>by
  rw[←hp.mem_iff,cf];constructor
  ·intro hx;exact⟨.inr hx,fun e=>hn1 (e▸hx)⟩
  ·rintro⟨h1|h1,h2⟩
   ·exact absurd h1 h2
   ·exact h1
 have hx:(n,(i:Int),((at_ i:Nat):Int))∈hs:=(hp.mem_iff).1 (bP ..);obtain⟨i',n',h1,h2,h3⟩:=(h.2 _).1 hx;simp only[ec]at h2;obtain⟨e1,e2,e3⟩:=h2;obtain rfl:i=i':=by omega
 subst e1;refine oE.perm (hs:=ys++JL ls i (at_ i+1)) ⟨?_,fun x=>?_⟩ hz
 ·refine List.nodup_append.2 ⟨hn2,Bv _ _ _,fun a ha b hb e=>?_⟩;subst e;obtain⟨j,m,g1,g2,g3⟩:=(h.2 a).1 ((eH a).1 ha).1;obtain⟨m',g4,_⟩:=(xR hi).1 hb;rw[g2]at g4;simp only[ec]at g4;obtain rfl:j=i:=by omega
  omega
 ·rw[cp,eH,h.2 x,xR hi];constructor
  ·rintro(⟨⟨j,m,g1,g2,g3⟩,g4⟩|⟨m,g2,g3⟩)
   ·have RX:j≠i:=fun e=>by subst e;rw[g2]at g4;exact g4 (by rw[g3.un h3])
    exact⟨j,m,g1,by rw[g2];simp only[EI,if_neg RX],by simp only[EI,if_neg RX];exact g3⟩
   ·exact⟨i,m,hi,by rw[g2];simp only[EI,if_true],by simp only[EI,if_true];exact g3⟩
  ·rintro⟨j,m,g1,g2,g3⟩;by_cases e:j=i
   ·subst e;simp only[EI,if_true]at g2 g3;exact .inr ⟨m,g2,g3⟩
   ·simp only[EI,if_neg e]at g2 g3;exact .inl ⟨⟨j,m,g1,g2,g3⟩,fun e2=>by rw[g2]at e2;simp only[ec]at e2;omega⟩
theorem oE.zero (ls:List (List Int)):oE ls (fun _=>0) 0 []:=⟨List.nodup_nil,fun x=>⟨fun h=>by(cases h),fun⟨i,n,h,_⟩=>by omega⟩⟩
theorem oE.ahu {ls:List (List Int)} {at_:Nat→Nat} (h:oE ls at_ ls.length []):∀i n,¬Tr ls i (at_ i) n:=fun i n ht=>by
 have:=(h.2 _).2 ⟨i,n,ht.lt.1,rfl,ht⟩;cases this
theorem oE.len {ls:List (List Int)} {at_:Nat→Nat} {u:Nat} {hs:List Hd} (h:oE ls at_ u hs):hs.length≤u:=by
 have Pf:(hs.map fun h=>h.2.1.toNat).Nodup:=by
  refine cz.2 (h.1.imp_of_mem fun {a b} ha hb Xt e=>Xt ?_);obtain⟨i,n,_,h2,h3⟩:=(h.2 a).1 ha;obtain⟨j,m,_,g2,g3⟩:=(h.2 b).1 hb;rw[h2,g2]at e;simp only[ay]at e;subst e;rw[h2,g2,h3.un g3]
 have dR:∀x∈(hs.map fun h=>h.2.1.toNat),x<u:=fun x hx=>by
  obtain⟨y,hy,rfl⟩:=ca.1 hx;obtain⟨i,n,h1,h2,_⟩:=(h.2 y).1 hy;rw[h2];simpa using h1
 have hss:∀x∈(hs.map fun h=>h.2.1.toNat),x∈List.range u:=fun x hx=>List.mem_range.2 (dR x hx)
 have:=List.Nodup.length_le_of_subset Pf hss;rw[aL,List.length_range]at this;exact this
theorem hY {l:List Int} (h0:0<l.length):eo (-1) l=true↔0≤l.getD 0 0∧(∀i,i+1<l.length→l.getD i 0≤l.getD (i+1) 0)∧(∀i,i+1<l.length→l.getD i 0≠l.getD (i+1) 0):=by
 have key:∀(l:List Int) (last:Int),eo last l=true↔(∀x,l[0]? =some x→last<x)∧∀i,i+1<l.length→l.getD i 0<l.getD (i+1) 0:=by
  intro l
  induction l with
  |nil=>intro last;simp[eo]
  |cons a l ih=>
   intro last;simp only[eo,bU,decide_eq_true_eq,ih a];constructor
   ·rintro⟨h1,h2,h3⟩;refine⟨fun x hx=>by simp at hx;omega,fun i hi=>?_⟩
    cases i with
    |zero=>
     cases l with
     |nil=>simp at hi
     |cons b l=>simpa using h2 b rfl
    |succ i=>simpa using h3 i (by simpa using hi)
   ·rintro⟨h1,h2⟩;refine⟨h1 a rfl,fun x hx=>?_,fun i hi=>?_⟩
    ·have:=h2 0 (by have:=(ao.1 hx).1;simp;omega);simp only[je,fL,jf]at this;rw[az,hx]at this;exact this
    ·have:=h2 (i+1) (by simp;omega);simpa using this
 rw[key];constructor
 ·rintro⟨h1,h2⟩;refine⟨?_,fun i hi=>Int.le_of_lt (h2 i hi),fun i hi=>by have:=h2 i hi;omega⟩;have:=h1 _ (ar h0);rw[az,ar h0];simp only[Option.getD_some];omega
 ·rintro⟨h1,h2,h3⟩;refine⟨fun x hx=>?_,fun i hi=>by have:=h2 i hi;have:=h3 i hi;omega⟩;rw[az,hx]at h1;simp only[Option.getD_some]at h1;omega
def dT (out:List Hd):List (Int×Int):=out.map Prod.snd
end Go.K
namespace Go.K
abbrev RT.hd:RT Hd:=RT.pair (RT.int .i64) (RT.pair (RT.int .i64) (RT.int .i64))
theorem Sy:Part RT.hd (RT.int .i64) (fun h=>h.1) 0:=mP _ _
theorem xS:Part RT.hd (RT.int .i64) (fun h=>h.2.1) 1:=(iA _ _).trans (mP _ _)
theorem zA:Part RT.hd (RT.int .i64) (fun h=>h.2.2) 2:=(iA _ _).trans (iA _ _)
def lS (x:Int):Prop:= -9223372036854775808≤x∧x≤9223372036854775807
theorem NZ {M:aD} {w:World} {a b c:Int} (ha:lS a) (hb:lS b) (hc:lS c):RT.hd.V M w (a,b,c) (.agg #[.int .i64 a,.int .i64 b,.int .i64 c]):=
 ⟨[.int .i64 a,.int .i64 b,.int .i64 c],⟨[.int .i64 a],[.int .i64 b,.int .i64 c],rfl,⟨rfl,ha⟩,⟨[.int .i64 b],[.int .i64 c],rfl,⟨rfl,hb⟩,⟨rfl,hc⟩⟩⟩,rfl⟩
theorem tp {M:aD} {w:World} {a b c:Int} {v:Value} (h:RT.hd.V M w (a,b,c) v):v= .agg #[.int .i64 a,.int .i64 b,.int .i64 c]∧lS a∧lS b∧lS c:=by
 obtain⟨vs,⟨va,vb,rfl,h1,⟨vc,vd,rfl,h2,h3⟩⟩,rfl⟩:=h;have e1:=h1.1;have e2:=h2.1;have e3:=h3.1;subst e1;subst e2;subst e3;exact⟨rfl,h1.2,h2.2,h3.2⟩
theorem Step.aaq {M M2 N:aD} {w w':World} (s:Step M w M w' N) (hm:∀b,b<w.heap.size→(M2 b↔M b)) (hl:Lt M2 w'):Step M w M2 w' N:=
 ⟨fun _=>hl,s.os,s.tape,s.output,s.size,hm,s.same,s.sub⟩
theorem Own.ltM {α:Type} {A:RT α} {e:TypeId} {M:aD} {w:World} {base:Nat} {v:Value} {xs:List α} (h:Own A e M w base v xs):xs.length≤9223372036854775807:=by
 obtain⟨⟨C,hr,_⟩,_⟩:=h;rcases hr.2 with⟨_,h2⟩|⟨g,cap,cur,h1,h2,h3,h4,h5,_⟩
 ·omega
 ·unfold maxLen at h5;omega
theorem Own.Cs {α:Type} {A:RT α} {e:TypeId} {M:aD} {w:World} {base:Nat} {v:Value} {xs:List α} (h:Own A e M w base v xs) (hl:0<xs.length):v≠ .slice none 0 0:=fun e=>by
 obtain⟨a,cap,h1,_⟩:=h.isSlice;rw[e]at h1;simp only[fQ]at h1;omega
theorem Own.apart {α:Type} {A:RT α} {e Th:TypeId} {M:aD} {w:World} {base bh:Nat} {v:Value} {xs:List α} {cs:Array Value} {fr:Nat×Nat} (h:Own A e M w base v xs) (hb:w.heap[bh]? =some (.cells cs Th fr)) (ne:Th≠e):∀k,v.ownBlock=some k→k≠bh:=fun k hk he=>by
 obtain⟨⟨C,hr,_⟩,_⟩:=h;rcases hr.2 with⟨h1,_⟩|⟨g,cap,cur,h1,h2,h3,_⟩
 ·rw[h1]at hk;cases hk
 ·rw[h1]at hk;cases hk;have he:g=bh:=he;rw[he]at h3;have:=hb.symm.trans h3;simp only[dL,Obj.cells.injEq]at this;exact ne this.2.1
structure rI (Th Te:TypeId) (M:aD) (w:World) (bh base:Nat) (v:Value) (hs:List Hd):Prop where
 h:w.heap[bh]? =some (.cells #[v] Th (0,0))
 mh:M bh
 o:Own RT.hd Te M w base v hs
 nn:v≠ .slice none 0 0
 ne:Th≠Te
section
variable {Th Te:TypeId} {M M' N:aD} {w w':World} {bh base:Nat} {v v':Value} {hs rh:List Hd}
theorem rI.apart (h:rI Th Te M w bh base v hs):∀k,v.ownBlock=some k→k≠bh:=h.o.apart h.h h.ne
theorem rI.aP (h:rI Th Te M w bh base v hs) (s:Step M w M' w' aC):rI Th Te M' w' bh base v hs:=⟨s.aK h.h,(s.mem bh (ak h.h)).2 h.mh,h.o.aP s,h.nn,h.ne⟩
theorem rI.wrote (h:rI Th Te M w bh base v hs) (s:Step M w M w' (fz v)) (ho:Own RT.hd Te M w' base v rh):rI Th Te M w' bh base v rh:=
 ⟨s.keep h.h (fun hk=>h.apart bh hk rfl),h.mh,ho,h.nn,h.ne⟩
theorem Own.val {α:Type} {A:RT α} {e:TypeId} {base:Nat} {xs:List α} (h:Own A e M w base v xs) {j:Nat} {x:α} (hx:xs[j]? =some x):∃u,A.V M w x u:=by
 obtain⟨⟨C,hr,ha⟩,_⟩:=h;obtain⟨vs,hv,_⟩:=ha.at_ j x hx;exact⟨_,vs,hv,rfl⟩
theorem rI.view {hn:0<RT.hd.n} (h:rI Th Te M w bh base v hs) (hl:hs.length≤140737488355328):(RT.hd.sl hn).V (fun k=>M k∧¬v.ownBlock=some k) w hs v:=
 h.o.sl (fun b _ hm=>⟨fun h=>hm h.1,rfl⟩) (fun b hb h=>h.2 hb) hl
end
def BT (w:World) (k:Nat) (T:TypeId):Prop:=∃cs fr,w.heap[k]? =some (.cells cs T fr)
theorem BT.ne {w:World} {a b:Nat} {Ta Tb:TypeId} (ha:BT w a Ta) (hb:BT w b Tb) (h:Ta≠Tb):a≠b:=fun e=>by
 subst e;obtain⟨cs,fr,h1⟩:=ha;obtain⟨Fs,fr',h2⟩:=hb;have:=h1.symm.trans h2;simp only[dL,Obj.cells.injEq]at this;exact h this.2.1
theorem Own.bt {α:Type} {A:RT α} {e:TypeId} {M:aD} {w:World} {base:Nat} {v:Value} {xs:List α} (h:Own A e M w base v xs):∀k,v.ownBlock=some k→BT w k e:=fun k hk=>by
 obtain⟨⟨C,hr,_⟩,_⟩:=h;rcases hr.2 with⟨h1,_⟩|⟨g,cap,cur,h1,h2,h3,_⟩
 ·rw[h1]at hk;cases hk
 ·rw[h1]at hk;cases hk;exact⟨_,_,h3⟩
def NB (Te:TypeId) (M:aD) (w:World) (bh base:Nat):aD:=fun k=>M k∧(k=bh∨(base≤k∧BT w k Te))
theorem NB.not {Te T:TypeId} {M:aD} {w:World} {bh base k:Nat} (hk:BT w k T) (eK:T≠Te) (hb:k≠bh): ¬NB Te M w bh base k:=fun h=>h.2.elim hb fun h2=>hk.ne h2.2 eK rfl
section
variable {Th Te:TypeId} {M M1 M2 M' N:aD} {w w0 w1 w2 w':World} {bh base:Nat} {v:Value} {hs:List Hd}
theorem Step.nb (s1:Step M w0 M1 w1 (NB Te M w0 bh base)) (s2:Step M1 w1 M2 w2 (NB Te M1 w1 bh base)):Step M w0 M2 w2 (NB Te M w0 bh base):=
 s1.trans s2 fun b hb h=>by
  by_cases hn:NB Te M w0 bh base b
  ·exact hn
  ·refine⟨(s1.mem b hb).1 h.1,h.2.imp id fun⟨Mu,cs,fr,hc⟩=>⟨Mu,cs,fr,?_⟩⟩;rw[←s1.same b hb hn];exact hc
theorem Step.nbw (s:Step M w M' w' (fz v)) (h:rI Th Te M w bh base v hs):Step M w M' w' (NB Te M w bh base):=s.cA (fun b hb=>⟨h.o.mut_ b hb,.inr ⟨(h.o.base b hb).1,h.o.bt b hb⟩⟩) (fun _ h=>h.1)
theorem Step.nb0 (s:Step M w M' w' aC):Step M w M' w' (NB Te M w bh base):=s.cA (fun _ h=>h.elim) (fun _ h=>h.1)
theorem rI.keep (h:rI Th Te M w bh base v hs) (s:Step M w M' w' N) (hb: ¬N bh) (hv:∀k,v.ownBlock=some k→¬N k):rI Th Te M' w' bh base v hs:=
 ⟨s.keep h.h hb,(s.mem bh (ak h.h)).2 h.mh,h.o.step s hv,h.nn,h.ne⟩
end
section
variable {P:Program} {r:Option Nat} {n:Nat} {L:Sl} {ds:List Deferred} {w:World} {K:Kt} {ops:Array Oper} {rest:List Oper} {d:Nat} {ty:TypeId} {pos:String} {af:Array Edge} {x y:Operand}
theorem Rg.par {t t':TypeId} {j:Nat} (hx:ev L x=some (.int .i64 ((j:Int)-1))) (hy:ev L y=some (.int .i64 2)) (hd:Nat.blt d n=true) (hj:j≤9223372036854775807)
  (k:Rg P r n ops rest ((d,.int .i64 (((j-1)/2:Nat):Int))::L) ds w K):
  Rg P r n ops ({dst:=some d,op:= .binOp .quo t x y t',type:=ty,pos,after:=af,guard:=none}::rest) L ds w K:=by
 cases j with
 |zero=>exact .bin hx hy hd (by simp[binOp,Op.intDiv];try rfl) k
 |succ j=>
  refine Rg.Ah hx hy hd (by omega) ?_;rw[show(((j+1:Nat):Int)-1)/2=(((j+1-1)/2:Nat):Int)from by omega];exact k
end
theorem Sz {xs:List Hd} {i:Nat} {a b c:Int} (h:xs[i]? =some (a,b,c)):hn xs i=a:=by unfold hn;rw[az,h];rfl
theorem Ik {xs:List Hd} {i j:Nat} {x y:Hd} (hx:xs[i]? =some x) (hy:xs[j]? =some y):swp xs i j=(xs.set i y).set j x:=by
 unfold swp;rw[az,az,hx,hy];rfl
theorem JM {xs:List Hd} {i j:Nat} {x y:Hd} (hx:xs[i]? =some x) (hy:xs[j]? =some y):(swp xs i j).set j x=swp xs i j:=by
 rw[Ik hx hy,List.set_set]
end Go.K
namespace Go.K
open Go.Proofs
namespace TKMul
theorem ahw:Enters Tryz.prog 215:=enters Tryz.func215 rfl (by decide)
end TKMul
open TKMul
set_option maxRecDepth 10000
theorem G8 {n:Nat} (h:n≤1073741824):IntKind.u64.wrap ((BitVec.ofInt IntKind.u64.bits (n:Int)&&&BitVec.ofInt IntKind.u64.bits 4294967295).toNat:Int)=(n:Int):=by
 have e:(BitVec.ofInt IntKind.u64.bits (n:Int)&&&BitVec.ofInt IntKind.u64.bits 4294967295).toNat=n:=by
  rw[BitVec.toNat_and,qh,qh];have h1:((4294967295:Int)%((2^IntKind.u64.bits:Nat):Int)).toNat=2^32-1:=by decide
  have h2:((n:Int)%((2^IntKind.u64.bits:Nat):Int)).toNat=n:=by
   change((n:Int)%((18446744073709551616:Nat):Int)).toNat=n;omega
  rw[h1,h2,Nat.and_two_pow_sub_one_eq_mod];omega
 rw[e];exact gm _ (by omega)
theorem EJ {n:Nat} (h:n≤1073741824):(n:Int).fdiv (2^min (Int.toNat 32) IntKind.u64.bits)=0:=by
 show((n:Int)).fdiv 4294967296=0;rw[Int.fdiv_eq_ediv_of_nonneg _ (by decide)];omega
theorem JN {w0:World} {n:Nat} (hn:n≤1073741824):
  Spec Tryz.prog 215 #[.int .u64 1,.int .u64 n] w0 (fun v' w'=>v'= .tuple #[.int .u64 0,.int .u64 n]∧w0=w'):=by
 refine bc (args:=[_,_]) (fn:=Tryz.f215) Tryz.func215 rfl (n:=51) Tryz.ntmps215 (aj (ae (ah rfl rfl (ah rfl rfl (ab (aj (ae (ad rfl rfl (Rg.and rfl rfl rfl (aV (v':= .int .u64 (1)) (congrArg _ (by first|decide|exact G8 (by omega))) (ah rfl rfl ?_)))))))))));refine ab (aj (ae (ad rfl rfl (Rg.shr rfl rfl rfl (by omega) (aV (v':= .int .u64 (0:Int)) (congrArg _ (by first|decide|exact EJ (by omega))) (ah rfl rfl (ab (aj (ae (ad rfl rfl (Rg.and rfl rfl rfl ?_)))))))))));refine aV (v':= .int .u64 ((n:Int))) (congrArg _ (by first|decide|exact G8 (by omega))) (ah rfl rfl (ab (aj (ae (ad rfl rfl (Rg.shr rfl rfl rfl (by omega) (aV (v':= .int .u64 (0:Int)) (congrArg _ (by first|decide|exact EJ (by omega))) (ah rfl rfl (ab (aj (ae ?_)))))))))));refine ad rfl rfl (ad rfl rfl (Rg.ID rfl rfl rfl (aV (v':= .int .u64 ((n:Int))) (congrArg _ (by rw[gm _ (by omega)];omega)) (ah rfl rfl (ab (aj (ae (ad rfl rfl (ad rfl rfl (Rg.ID rfl rfl rfl (aV (v':= .int .u64 (0)) (congrArg _ (by rw[gm _ (by omega)];omega)) ?_)))))))))));refine ad rfl rfl (Rg.shr rfl rfl rfl (by omega) (aV (v':= .int .u64 (0:Int)) (congrArg _ (by first|decide|exact EJ (by omega))) (Rg.xn rfl rfl rfl (aV (v':= .int .u64 (0)) (congrArg _ (by rw[gm _ (by omega)];omega)) (ah rfl rfl (ab (aj (ae (ad rfl rfl (Rg.and rfl rfl rfl (aV (v':= .int .u64 (0)) (congrArg _ (by first|decide|exact G8 (by omega))) ?_)))))))))));refine ah rfl rfl (ab (aj (ae (ad rfl rfl (Rg.shr rfl rfl rfl (by omega) (aV (v':= .int .u64 (0:Int)) (congrArg _ (by first|decide|exact EJ (by omega))) (ah rfl rfl (ab (aj (ae (ad rfl rfl ?_)))))))))));refine ad rfl rfl (ad rfl rfl (Rg.ID rfl rfl rfl (aV (v':= .int .u64 (0)) (congrArg _ (by rw[gm _ (by omega)];omega)) (Rg.xn rfl rfl rfl (aV (v':= .int .u64 (0)) (congrArg _ (by rw[gm _ (by omega)];omega)) (ah rfl rfl (ab (aj (ae (ad rfl rfl (ad rfl rfl ?_)))))))))))
 refine Rg.ID rfl rfl rfl (aV (v':= .int .u64 (0)) (congrArg _ (by rw[gm _ (by omega)];omega)) (ad rfl rfl (Rg.xn rfl rfl rfl (aV (v':= .int .u64 (0)) (congrArg _ (by rw[gm _ (by omega)];omega)) (ad rfl rfl (Rg.shr rfl rfl rfl (by omega) (aV (v':= .int .u64 (0:Int)) (congrArg _ (by first|decide|exact EJ (by omega))) (Rg.xn rfl rfl rfl (aV (v':= .int .u64 (0)) (congrArg _ (by rw[gm _ (by omega)];omega)) (ah rfl rfl (ab ?_)))))))))));refine aj (ae (ad rfl rfl (ad rfl rfl (Rg.ID rfl rfl rfl (aV (v':= .int .u64 ((n:Int))) (congrArg _ (by rw[gm _ (by omega)];omega)) (ah rfl rfl (ab (aO ?_))))))));exact eY rfl rfl rfl ⟨rfl,rfl⟩
theorem QN {w0:World} {n:Nat} (hn:n≤1073741824):
  Spec Tryz.prog 161 #[.int .u64 1,.int .u64 n] w0 (fun v' w'=>v'= .tuple #[.int .u64 0,.int .u64 n]∧w0=w'):=by
 refine bc (args:=[_,_]) (fn:=Tryz.f161) Tryz.func161 rfl (n:=30) Tryz.ntmps161 (aj (ae (ah rfl rfl (ah rfl rfl (ab (aj (jE rfl (aU (aj (ae (ad rfl rfl ?_)))))))))));refine ad rfl rfl ?_;refine aX rfl rfl ahw (JN hn) (fun r wc h=>?_);obtain⟨rfl,rfl⟩:=h;refine ad rfl rfl (bW rfl rfl rfl (bW rfl rfl rfl (ah rfl rfl (ah rfl rfl (ab (aj (ae (ad rfl rfl (ad rfl rfl (ah rfl rfl (ah rfl rfl ?_)))))))))));refine ab (aO ?_);exact eY rfl rfl rfl ⟨rfl,rfl⟩
end Go.K
namespace Go.K
open Go.Proofs
namespace TKRep11
theorem ahx:Enters Tryz.prog 161:=enters Tryz.func161 rfl (by decide)
end TKRep11
open TKRep11
set_option maxRecDepth 10000
theorem EK (b o i:Nat):(⟨b,o,none⟩:Addr).add i=⟨b,o+i,none⟩:=by simp[Addr.add]
def filled (n k:Nat) (x:Int):List Int:=List.replicate k x++List.replicate (n-k) 0
theorem zB {n k:Nat} {x:Int} (h:k≤n):(filled n k x).length=n:=by unfold filled;simp;omega
theorem G9 (n:Nat) (x:Int):filled n n x=List.replicate n x:=by unfold filled;simp
theorem Ha {n k j:Nat} {x:Int} (h:j<k):(filled n k x)[j]? =some x:=by unfold filled;rw[jP (by simpa using h)];simp[h]
theorem xc {n k m:Nat} {x:Int} (h:k+m≤n):(filled n k x).take k++List.replicate m x++(filled n k x).drop (k+m)=filled n (k+m) x:=by
 unfold filled;rw[List.take_append_of_le_length (by simp),aW (by simp),List.replicate_append_replicate,List.drop_append,gO (by simp),fK,List.drop_replicate,bY];congr 2;omega
theorem Own.aar {M:aD} {w:World} {e:TypeId} {base g n:Nat} (h:w.heap[g]? =some (.cells (List.replicate n (.int .i64 0)).toArray e (0,0))) (hb:base≤g) (hm:M g) (hn:n≤1099511627776):Own (RT.int .i64) e M w base (.slice (some ⟨g,0,none⟩) n n) (List.replicate n 0):=by
 refine⟨⟨List.replicate n (.int .i64 0),⟨by simp[RT.int],.inr ⟨g,n,_,by simp,hb,h,by simp,by unfold maxLen;simp;omega,by simp[RT.int],by simp[RT.int]⟩⟩,?_⟩,fun b hb=>by cases hb;exact hm⟩;have:=dX.BV (M:=M) (w:=w) (κ:= .i64) (xs:=List.replicate n 0) (fun x hx=>by rw[pV hx];decide);simpa using this
theorem EL {M:aD} {w0:World} {v:Value} {x:Int} {n:Nat} (hM:Lt M w0) (hv:((RT.int .i64).sl).V M w0 [x] v) (hn:n≤1073741824):
  Spec Tryz.prog 112 #[v,.int .i64 n] w0 (fun v' w'=>∃M',Own (RT.int .i64) 3 M' w' w0.heap.size v' (List.replicate n x)∧Lt M' w'∧Step M w0 M' w' aC):=by
 have hxr:=BE hv (i:=0) rfl;obtain⟨av,aqV,rfl,hcv,_,Rq⟩:=iD.1 hv;obtain⟨bv,ov,rfl,hbv,hav⟩:=Rq.resolve_left (by simp);obtain⟨vs0,⟨ahy,_⟩,hrx⟩:=hav 0 x rfl;subst ahy;have hcx:w0.cell? ⟨bv,ov,none⟩=some (.int .i64 x):=by simpa using hrx 0 _ rfl
 refine bc (args:=[_,_]) (fn:=Tryz.f112) Tryz.func112 rfl (n:=48) Tryz.ntmps112 (aj (ae (ah rfl rfl (ab (aj (aj (ae (ad rfl rfl (cj rfl rfl rfl (ab (T.tF rfl (by omega) ?_)))))))))));refine aU (aj (ae (ad rfl rfl (Rg.mn an rfl rfl (sx ax jQ rfl rfl (aV (v':= .int .u64 1) (congrArg _ (by simp only[eu];decide)) (ad rfl rfl (sx ax jQ rfl rfl (aV (v':= .int .u64 (n:Int)) (congrArg _ (gm _ (by omega))) ?_)))))))));refine aX rfl rfl ahx (QN hn) (fun r wc h=>?_);obtain⟨rfl,rfl⟩:=h;refine ad rfl rfl (bW rfl rfl rfl (bW rfl rfl rfl (ah rfl rfl (ah rfl rfl (ab (aj (aj (ae (ad rfl rfl (jd rfl rfl rfl (ad rfl rfl ?_)))))))))));refine Rg.BC (g:=23) rfl (by omega) (al rfl rfl (ad rfl rfl (al rfl rfl (jd rfl rfl rfl (aE rfl rfl rfl (ab (T.tF rfl (by omega) (aU (aj (ae (ad rfl rfl ?_)))))))))));refine Rg.uZ jQ ax rfl rfl (by omega) ?_;refine Rg.mk0 (len:=n) M an I3 rfl rfl rfl rfl (by omega) (by omega) (fun g wg zg zg' gg sg=>?_);have ho:Own (RT.int .i64) 3 (ins M g) wg w0.heap.size (.slice (some ⟨g,0,none⟩) n n) (filled n 0 x):=by unfold filled;simpa using Own.aar gg zg (.inl rfl) (by omega)
 clear gg;refine ah rfl rfl (ab (aj (ae (ad rfl rfl ?_))));obtain⟨k0,Fz⟩:∃k0:Nat,k0=min 1 n:=⟨_,rfl⟩;refine ad rfl rfl ?_;refine Rg.RB (M:=ins M g) (xs:=filled n 0 x) (ys:=List.replicate k0 x) (o:=0) an I3 rfl rfl rfl ho (by simp;omega) (by rw[zB (by omega),bY];omega) (fun j a hj=>?_) (fun a ha=>by rw[pV ha];exact hxr) (fun w7 nh s7=>?_)
 ·have tN:=(ao.1 hj).1;rw[bY]at tN;have e:a=x:=by rw[gr]at hj;split at hj<;>simp_all
  subst e;obtain rfl:j=0:=by omega
  have hc:=sg.same bv (World.block_lt_of_cell? w0 _ hcx) (fun h=>h);have:wg.cell? ⟨bv,ov,none⟩=some (.int .i64 a):=by rw[World.cell?_of_block (w:=w0) hc];exact hcx
  rw[EK,Nat.add_zero];exact this
 rw[bY,xc (by omega),fL]at nh;refine aV (v':= .int .i64 (k0:Int)) (by rw[bY]) ?_;have S7:=sg.cd s7 (fun b hb=>by have hb:b=g:=hb;omega);refine ah rfl rfl (ab (aj (aZ ?_)));refine de (σ:=Nat) (fun s=>[(7,.slice (some ⟨g,0,none⟩) n n),(8,.int .i64 s)]) (fun s w=>s≤n∧(0<n→0<s)∧Own (RT.int .i64) 3 (ins M g) w w0.heap.size (.slice (some ⟨g,0,none⟩) n n) (filled n s x)∧Step M w0 (ins M g) w aC) (fun s=>n-s) k0 (.cons rfl (.cons rfl .nil)) ?_ ?_
 ·exact⟨by omega,by omega,nh,S7⟩
 ·rintro k w1 ⟨hk,aq0,ho,S⟩;refine aj (aj (ae (ad rfl rfl (ad rfl rfl (Rg.mn an rfl rfl (cj rfl rfl rfl (ab ?_)))))));refine bN rfl (fun c8=>?_) (fun c8=>?_)
  ·refine aU (aZ ?_);apply T.pJ 7 [0] 1 (fun b=>b=g) mixed rfl rfl rfl rfl;intro Sk sA9;have Et:=sA9 (ins M g);refine ad rfl rfl ?_;refine ab ⟨rfl,rfl,rfl,?_⟩;refine ad rfl rfl ?_;refine ab ⟨rfl,rfl,rfl,?_⟩;refine ad rfl rfl ?_;refine ab ⟨rfl,rfl,rfl,?_⟩;refine Rg.K3 an I3 rfl rfl rfl (by omega) (aV (v':= .slice (some ⟨g,k,none⟩) (n-k) (n-k)) (by rw[ay,eG]) ?_);refine ab ⟨rfl,rfl,rfl,?_⟩;refine ad rfl rfl ?_;refine ab ⟨rfl,rfl,rfl,?_⟩;refine ad rfl rfl ?_;refine ab ⟨rfl,rfl,rfl,?_⟩;refine Rg.TQ an I3 rfl rfl rfl (by omega) (aV (v':= .slice (some ⟨g,0,none⟩) k n) (by rw[ay]) ?_);refine ab ⟨rfl,rfl,rfl,?_⟩;refine ew ?_;refine⟨iB ⟨gP,trivial⟩,?_⟩;have kp:=jF (fun b=>b=g) Sk;refine Rg.RB (M:=ins M g) (xs:=filled n k x) (ys:=List.replicate (min k (n-k)) x) (o:=k) an I3 rfl rfl rfl (ho.aP Et) (by simp) (by rw[zB hk,bY];omega) (fun j a hj=>?_) (fun a ha=>by rw[pV ha];exact hxr) (fun w7 nh s7=>?_)
   ·have tN:=(ao.1 hj).1;rw[bY]at tN;have e:a=x:=by rw[gr]at hj;split at hj<;>simp_all
    subst e;have:=(ho.aP Et).cell (Ha (n:=n) (show j<k by omega));rw[EK,fL];exact this
   rw[bY,xc (by omega)]at nh;refine aV (v':= .int .i64 ((min k (n-k):Nat):Int)) (by rw[bY]) ?_;refine(fun(kp:eF _ _ _)=>ab ⟨rfl,rfl,fun _=>kp,?_⟩) (by first|exact kp|exact kp.rB (by assumption)|exact kp.goN (by assumption)|exact kp.go (by assumption) (fun _ _ h=>by first|exact h|exact h.elim));refine bF rfl rfl rfl (by omega) ?_;refine ab ⟨rfl,rfl,fun h=>absurd rfl h,?_⟩;refine ah rfl rfl ?_;refine ab ⟨rfl,rfl,fun h=>absurd rfl h,?_⟩;refine mN ?_;refine⟨rfl,k+min k (n-k),(.cons rfl (.cons (congrArg (fun z=>some (Value.int .i64 z)) (by omega)) .nil)),?_,?_⟩
   ·exact⟨by omega,by omega,nh,(S.aB (sA9 _)).cd s7 (fun b hb=>by have hb:b=g:=hb;omega)⟩
   ·show n-(k+min k (n-k))<n-k;omega
  ·refine cG (aj (ae (ad rfl rfl (ah rfl rfl (ab (aO ?_))))));obtain rfl:k=n:=by omega
   rw[G9]at ho;exact aS rfl rfl ⟨_,ho,S.lt hM,S⟩
end Go.K
namespace Go.K
open Go.Proofs
namespace TKPlc11
theorem kx:TI Tryz.prog 124 (.agg #[(.int .i64 0),(.int .i64 0)]) 2 16:=by unfold TI;kernel_rfl
theorem ahz:Enters Tryz.prog 112:=enters Tryz.func112 rfl (by decide)
end TKPlc11
open TKPlc11
set_option maxRecDepth 10000
def pz (o:List Fo) (p:Fo) (r:Int):Prop:=(r= -1∧p∉o)∨∃t:Nat,r=(t:Int)∧o[t]? =some p
theorem pz.hit {o:List Fo} {p:Fo} {k:Nat} (h:o[k]? =some p):pz (o.take (k+1)) p (k:Int):= .inr ⟨k,rfl,by rw[cn,if_pos (by omega)];exact h⟩
theorem pz.QO {o:List Fo} {p q:Fo} {k:Nat} {r:Int} (h:o[k]? =some q) (eK:q≠p) (hr:pz (o.take k) p r):pz (o.take (k+1)) p r:=by
 obtain⟨hk,hq⟩:=ao.1 h;rw[su hk,hq];rcases hr with⟨h1,h2⟩|⟨t,h1,h2⟩
 ·exact .inl ⟨h1,fun hm=>by rcases cp.1 hm with hm|hm;exact h2 hm;rw[bJ]at hm;exact eK hm.symm⟩
 ·exact .inr ⟨t,h1,by rw[jP (ao.1 h2).1];exact h2⟩
theorem pz.all {o:List Fo} {p:Fo} {r:Int} (h:pz (o.take o.length) p r):pz o p r:=by rwa [List.take_length]at h
theorem ri {M:aD} {w:World} {a b:Int} {v:Value} (h:RT.fo.V M w (a,b) v):v= .agg #[.int .i64 a,.int .i64 b]∧lS a∧lS b:=by
 obtain⟨vs,⟨va,vb,rfl,⟨rfl,h1⟩,⟨rfl,h2⟩⟩,rfl⟩:=h;exact⟨rfl,h1,h2⟩
def Plc (o:List Fo) (i:Int) (n:Nat) (xs:List Int):Prop:=xs.length=n∧∀j,j<n→pz o (i,(j:Int)) (xs.getD j 0)
theorem EM {M:aD} {w0:World} {v:Value} {o:List Fo} {i:Int} {n:Nat} (hM:Lt M w0) (hv:((RT.fo).sl).V M w0 o v) (hn:n≤1073741824):
  Spec Tryz.prog 61 #[v,.int .i64 i,.int .i64 n] w0 (fun v' w'=>∃M' xs,Plc o i n xs∧Own (RT.int .i64) 3 M' w' w0.heap.size v' xs∧Lt M' w'∧Step M w0 M' w' aC):=by
 have fy:=dy hv;refine bc (args:=[_,_,_]) (fn:=Tryz.f61) Tryz.func61 rfl (n:=44) Tryz.ntmps61 (aj (ae (ah rfl rfl (ab (aj (ae ?_))))));refine ed (A:=RT.int .i64) (hn:=by decide) (M:=M) an I3 (by decide) rfl rfl hM (fV (by decide)) (.inr ⟨rfl,rfl⟩) (fun u w1 hu s1=>?_);refine ad rfl rfl (Rg.max2 rfl rfl rfl (aV (v':= .int .i64 (n:Int)) (congrArg _ (by omega)) ?_));refine aX rfl rfl ahz (EL (s1.lt hM) hu hn) (fun rv w2 h=>?_);obtain⟨M2,tq,Fw,s2⟩:=h;have S2:=s1.aB s2;replace tq:=tq.nB s1.size;refine ah rfl rfl (ab (aj (aj (ae (ad rfl rfl (bM eO rfl (hv.le S2.le) rfl (ad rfl rfl (ab (aZ ?_)))))))));refine de (σ:=Nat×List Int) (fun s=>[(1,.int .i64 i),(7,rv),(14,v),(15,.int .i64 o.length),(16,.int .i64 s.1)]) (fun s w=>s.1≤o.length∧Plc (o.take s.1) i n s.2∧∃M1,Lt M1 w∧Own (RT.int .i64) 3 M1 w w0.heap.size rv s.2∧Step M w0 M1 w aC) (fun s=>o.length-s.1) (0,List.replicate n (-1)) (.cons rfl (.cons rfl (.cons rfl (.cons rfl (.cons rfl .nil))))) ?_ ?_
 ·refine⟨bE _,⟨by simp,fun j hj=> .inl ⟨?_,by simp⟩⟩,M2,Fw,tq,S2⟩;simp only[az,gr];rw[if_pos hj];rfl
 ·clear tq S2 Fw;rintro⟨k,xs⟩ w1 ⟨hk,⟨qV,tz⟩,M1,nS,ho,S⟩;dsimp only at hk qV tz ho ⊢;refine aj (ae (cj rfl rfl rfl (ab (aj ?_))));refine bN rfl (fun c3=>?_) (fun c3=>?_)
  ·refine aU (aj (aZ (aj (ae (ad rfl rfl ?_)))));obtain⟨⟨a,b⟩,hx⟩:∃x,o[k]? =some x:=⟨_,ar (by omega)⟩;refine cy (M:=M1) eO kx rfl rfl rfl (hv.le S.le) (aq _ _) (by omega) (fun u4 a4 wO Ft=>?_);obtain rfl:(a,b)=a4:=dD (aH (wO.symm.trans (by rw[ay];exact hx)));refine cX (M:=M1) (A:=RT.fo) cw rfl kx (by decide) rfl rfl rfl Ft (aq _ _) (fun v4 qf=>?_);obtain⟨rfl,ra,rb⟩:=ri qf;refine dP M1 kx rfl (fun b4 wa za za' ga sa=>?_);refine ah rfl rfl ?_;refine dC (M:=ins M1 b4) (vs:=[.int .i64 a,.int .i64 b]) kx rfl rfl (by intro u hu;simp only[cf,eC,or_false]at hu;rcases hu with rfl|rfl<;>rfl) rfl rfl ga (.inl rfl) (fun ws gs ss=>?_);have sS:=(sa.cd ss (fun b hb=>by have hb:b=b4:=hb;rw[hb];exact za)).any M1;have ho:=ho.aP sS;have S:=S.aB sS;have nS:=sS.lt nS;refine ab (aj (ae (xH (len:=2) cw I3 rfl rfl rfl (by omega) (aM ax rfl rfl rfl gs rfl (ad rfl rfl (nX rfl rfl rfl (ad rfl rfl ?_)))))));refine aQ (g:=25) rfl (fun Vq=>?_) (fun Vq=>?_)
   ·refine al rfl rfl (xH (len:=2) cw I3 rfl rfl rfl (by omega) (al rfl rfl (aM ax rfl rfl rfl gs rfl (al rfl rfl (dV rfl rfl rfl (aY rfl rfl rfl (ad rfl rfl ?_)))))));refine aQ (g:=30) rfl (fun Vr=>?_) (fun Vr=>?_)
    ·refine al rfl rfl (xH (len:=2) cw I3 rfl rfl rfl (by omega) (al rfl rfl (aM ax rfl rfl rfl gs rfl (al rfl rfl (ad rfl rfl (al rfl rfl (fM an rfl ho rfl (al rfl rfl (cj rfl rfl rfl (aY rfl rfl rfl (ab ?_)))))))))));refine bN rfl (fun c5=>?_) (fun c5=>?_)
     ·obtain⟨g,cap,cur,rfl,Tq,QP,EN⟩:=ho.vB (ho.Cs (by omega));refine ae (ad rfl rfl (xH (len:=2) cw I3 rfl rfl rfl (by omega) (aM ax rfl rfl rfl gs rfl (ad rfl rfl (wz (size:=1) an I3 rfl rfl rfl (by omega) (q:=b.toNat) (by omega) ?_)))));refine Rg.K4 (M:=M1) I3 rfl rfl ho (by omega) ⟨by show(-9223372036854775808:Int)≤_;omega,by show _≤(9223372036854775807:Int);omega⟩ (fun w6 ue s6=>?_);refine ab (ae (bF rfl rfl rfl (by omega) (ad rfl rfl (ab ?_))));refine⟨rfl,(k+1,xs.set b.toNat (k:Int)),(.cons rfl (.cons rfl (.cons rfl (.cons rfl (.cons rfl .nil))))),?_,?_⟩
      ·refine⟨by simp only;omega,⟨by simp only[fm];exact qV,fun j hj=>?_⟩,M1,s6.lt nS,ue,S.cd s6 (fun b hb=>by have hb:b=g:=hb;omega)⟩;simp only[az,dp];by_cases e:b.toNat=j
       ·rw[if_pos e,if_pos (by omega)];exact .hit (by rw[hx];congr 2<;>omega)
       ·rw[if_neg e,←az];exact .QO hx (fun h=>by simp only[ec]at h;omega) (tz j hj)
      ·show o.length-(k+1)<o.length-k;omega
     ·refine aU (ae (bF rfl rfl rfl (by omega) (ad rfl rfl (ab ?_))));refine⟨rfl,(k+1,xs),(.cons rfl (.cons rfl (.cons rfl (.cons rfl (.cons rfl .nil))))),?_,?_⟩
      ·refine⟨by simp only;omega,⟨qV,fun j hj=> .QO hx (fun h=>?_) (tz j hj)⟩,M1,nS,ho,S⟩;simp only[ec]at h
       first|omega|(simp_all;done)|(simp_all;omega)
      ·show o.length-(k+1)<o.length-k;omega
    ·refine au rfl rfl rfl rfl (au rfl rfl rfl rfl (au rfl rfl rfl rfl (au rfl rfl rfl rfl (au rfl rfl rfl rfl (aE rfl rfl rfl (ab (jE rfl (aU (ae (bF rfl rfl rfl (by omega) (ad rfl rfl ?_)))))))))));refine ab ?_;refine⟨rfl,(k+1,xs),(.cons rfl (.cons rfl (.cons rfl (.cons rfl (.cons rfl .nil))))),?_,?_⟩
     ·refine⟨by simp only;omega,⟨qV,fun j hj=> .QO hx (fun h=>?_) (tz j hj)⟩,M1,nS,ho,S⟩;simp only[ec]at h
      first|omega|(simp_all;done)|(simp_all;omega)
     ·show o.length-(k+1)<o.length-k;omega
   ·refine au rfl rfl rfl rfl (au rfl rfl rfl rfl (au rfl rfl rfl rfl (aE rfl rfl rfl (ad rfl rfl (au rfl rfl rfl rfl (au rfl rfl rfl rfl (au rfl rfl rfl rfl (au rfl rfl rfl rfl (au rfl rfl rfl rfl (aE rfl rfl rfl (ab ?_)))))))))));refine jE rfl (aU (ae (bF rfl rfl rfl (by omega) (ad rfl rfl (ab ?_)))));refine⟨rfl,(k+1,xs),(.cons rfl (.cons rfl (.cons rfl (.cons rfl (.cons rfl .nil))))),?_,?_⟩
    ·refine⟨by simp only;omega,⟨qV,fun j hj=> .QO hx (fun h=>?_) (tz j hj)⟩,M1,nS,ho,S⟩;simp only[ec]at h
     first|omega|(simp_all;done)|(simp_all;omega)
    ·show o.length-(k+1)<o.length-k;omega
  ·refine cG (aj (ae (ad rfl rfl (ah rfl rfl (ab (aO ?_))))));obtain rfl:k=o.length:=by omega
   exact aS rfl rfl ⟨M1,xs,⟨qV,fun j hj=>(tz j hj).all⟩,ho,nS,S⟩
end Go.K
namespace Go.K
open Go.Proofs
set_option maxRecDepth 10000
theorem N0:Up [[1,4],[2]]:=by intro l hl;simp only[cf,eC,or_false]at hl;rcases hl with rfl|rfl<;>decide
theorem JO:rH [[1,4],[2]] (some [((1:Int),(0:Int),(0:Int)),(2,1,0),(4,0,1)]):=by
 refine⟨by decide,fun o ho=>?_,fun i k n ⟨l,h1,h2⟩=>?_⟩
 ·simp only[cf,eC,or_false]at ho;rcases ho with rfl|rfl|rfl
  ·exact⟨0,0,rfl,_,rfl,rfl⟩
  ·exact⟨1,0,rfl,_,rfl,rfl⟩
  ·exact⟨0,1,rfl,_,rfl,rfl⟩
 ·rcases i with _|_|i
  ·simp only[qU,dL]at h1;subst h1;rcases k with _|_|k
   ·simp at h2;subst h2;decide
   ·simp at h2;subst h2;decide
   ·simp at h2
  ·simp only[fL,List.getElem?_cons_succ,qU,dL]at h1;subst h1;rcases k with _|k
   ·simp at h2;subst h2;decide
   ·simp at h2
  ·simp at h1
end Go.K
namespace Go.K
open Go.Proofs
set_option maxRecDepth 10000
abbrev Gs:Type:=List (List En×List Bool)
def lG (g:Gs) (i d:Nat) (e:En):Prop:=∃L a,g[i]? =some (L,a)∧L[d]? =some e∧a[d]? =some true
theorem lG.un {g:Gs} {i d:Nat} {e e':En} (h:lG g i d e) (h':lG g i d e'):e=e':=by
 obtain⟨L,a,h1,h2,_⟩:=h;obtain⟨L',a',h3,h4,_⟩:=h';rw[h1]at h3;cases h3;rw[h2]at h4;exact aH h4
def tu (L:List En) (d:Int):Int:=(L.map (·.2)).getD d.toNat 0
def iT (g:Gs):List (List Int):=g.map fun p=>fZ p.2
def ky (g:Gs):List (List Int):=g.map fun p=>(fZ p.2).map (tu p.1)
def kz (g:Gs) (o:List Fo):List Fo:=o.map fun p=>(p.1,((iT g).getD p.1.toNat []).getD p.2.toNat 0)
def iN (g:Gs) (p:Fo):En:=(g.getD p.1.toNat ([],[])).1.getD p.2.toNat (((0:Int),[]),0)
def Il (g:Gs):Prop:=∀p∈g,uT (-1) p.1=true∧p.2.length=p.1.length
theorem kU {l:List Bool} {d:Int}:d∈fZ l↔∃k:Nat,d=k∧l[k]? =some true:=by
 unfold fZ;rw[ca];constructor
 ·rintro⟨⟨b,k⟩,h,rfl⟩;obtain⟨h1,h2⟩:=fN.1 h;simp only at h2;subst h2;exact⟨k,rfl,List.mem_zipIdx_iff_getElem?.1 h1⟩
 ·rintro⟨k,rfl,h⟩;exact⟨(true,k),fN.2 ⟨List.mem_zipIdx_iff_getElem?.2 h,rfl⟩,rfl⟩
theorem uz (l:List Bool):(fZ l).Pairwise (· < ·):=by
 unfold fZ;refine cz.2 (uQ zZ ?_);have h:=List.pairwise_lt_range' (s:=0) (n:=l.length);rw[←List.zipIdx_map_snd 0 l]at h;exact(cz.1 h).imp fun h=>by omega
structure Mg (g:Gs) (os:List Fo) (E:List En):Prop where
 at_:∀(k:Nat) (p:Fo),os[k]? =some p→∃(i d:Nat) (e:En),p=((i:Int),(d:Int))∧E[k]? =some e∧lG g i d e
 len:E.length=os.length
 all:∀(i d:Nat) (e:En),lG g i d e→((i:Int),(d:Int))∈os
 up:E.Pairwise fun a b=>a.2<b.2
 nd:os.Nodup
theorem xT {g:Gs} (hg:Il g) {i k:Nat} {n:Int} (h:Tr (ky g) i k n):∃(d:Nat) (e:En),lG g i d e∧((iT g).getD i []).getD k 0=(d:Int)∧n=e.2∧iN g ((i:Int),(d:Int))=e∧((iT g).getD i [])[k]? =some (d:Int):=by
 obtain⟨l,h1,h2⟩:=h;unfold ky at h1;rw[bC]at h1
 cases hi:g[i]? with
 |none=>rw[hi]at h1;simp at h1
 |some p=>
  rw[hi]at h1;obtain rfl:List.map (tu p.1) (fZ p.2)=l:=by simpa using h1
  rw[bC]at h2
  cases hk:(fZ p.2)[k]? with
  |none=>rw[hk]at h2;simp at h2
  |some d=>
   rw[hk]at h2;obtain rfl:tu p.1 d=n:=by simpa using h2
   obtain⟨m,rfl,hm⟩:=kU.1 (aA hk);obtain⟨h3,h4⟩:=hg p (aA hi);have ql:m<p.1.length:=by rw[←h4];exact(ao.1 hm).1
   have QQ:(iT g).getD i []=fZ p.2:=by unfold iT;rw[az,bC,hi];rfl
   refine⟨m,p.1[m],⟨p.1,p.2,hi,ar ql,hm⟩,?_,?_,?_,by rw[QQ];exact hk⟩
   ·rw[QQ,az,hk];rfl
   ·unfold tu;rw[ay,az,bC,ar ql];rfl
   ·have o9:g.getD i ([],[])=p:=by rw[az,hi];rfl
    show(g.getD (i:Int).toNat ([],[])).1.getD (m:Int).toNat _=_;rw[ay,ay,o9,az,ar ql];rfl
theorem aas {g:Gs} (hg:Il g) {out:List Hd} (h:rH (ky g) (some out)):Mg g (kz g (dT out)) ((kz g (dT out)).map (iN g)):=by
 obtain⟨h1,h2,h3⟩:=h
 have key:∀(k:Nat) (o:Hd),out[k]? =some o→∃(i d:Nat) (e:En) (q:Nat),o=(e.2,(i:Int),(q:Int))∧(kz g (dT out))[k]? =some ((i:Int),(d:Int))∧lG g i d e∧iN g ((i:Int),(d:Int))=e∧((iT g).getD i [])[q]? =some (d:Int):=fun k o ho=>by
  obtain⟨i,q,e1,e2⟩:=h2 o (aA ho);obtain⟨d,e,a1,a2,a3,a4,a5⟩:=xT hg e2;refine⟨i,d,e,q,by rw[e1,a3],?_,a1,a4,a5⟩;unfold kz dT;rw[bC,bC,ho,e1];show some (((i:Int),((iT g).getD (i:Int).toNat []).getD (q:Int).toNat 0))=_;rw[ay,ay,a2]
 have hlen:(kz g (dT out)).length=out.length:=by unfold kz dT;rw[aL,aL]
 have get:∀(k:Nat) (p:Fo),(kz g (dT out))[k]? =some p→∃o,out[k]? =some o:=fun k p hp=>⟨_,ar (by rw[←hlen];exact(ao.1 hp).1)⟩
 have aat:((kz g (dT out)).map (iN g)).Pairwise fun a b=>a.2<b.2:=by
  rw[cC];intro a b ha hb Xt;have la:a<out.length:=by rw[aL,hlen]at ha;exact ha
  have lb:b<out.length:=by rw[aL,hlen]at hb;exact hb
  obtain⟨i,d,e,q,o1,o2,o3,o4,_⟩:=key a _ (ar la);obtain⟨i',d',e',q',p1,p2,p3,p4,_⟩:=key b _ (ar lb);have dR:=(cC.1 h1) a b la lb Xt;rw[o1,p1]at dR;have f1:((kz g (dT out)).map (iN g))[a]? =some e:=by rw[bC,o2,dd,o4]
  have f2:((kz g (dT out)).map (iN g))[b]? =some e':=by rw[bC,p2,dd,p4]
  rw[(ao.1 f1).2,(ao.1 f2).2];exact dR
 refine⟨fun k p hp=>?_,by rw[aL],fun i d e hl=>?_,aat,?_⟩
 ·obtain⟨o,ho⟩:=get k p hp;obtain⟨i,d,e,q,_,a2,a3,a4,_⟩:=key k o ho;rw[hp]at a2;obtain rfl:=aH a2;exact⟨i,d,e,rfl,by rw[bC,hp,dd,a4],a3⟩
 ·obtain⟨L,a,b1,b2,b3⟩:=hl;have hm:(d:Int)∈fZ a:=kU.2 ⟨d,rfl,b3⟩;obtain⟨q,hq⟩:=bB.1 hm;have ht:Tr (ky g) i q (tu L d):=⟨(fZ a).map (tu L),by unfold ky;rw[bC,b1];rfl,by rw[bC,hq];rfl⟩;have kq:=h3 i q _ ht;obtain⟨k,hk⟩:=bB.1 kq;obtain⟨i',d',e',q',c1,c2,c3,c4,c5⟩:=key k _ hk;simp only[ec]at c1;obtain rfl:i=i':=by omega
  obtain rfl:q=q':=by omega
  have QQ:(iT g).getD i []=fZ a:=by unfold iT;rw[az,bC,b1];rfl
  rw[QQ,hq]at c5;rw[aH c5];exact aA c2
 ·have h5:(kz g (dT out)).Pairwise fun a b=>(iN g a).2<(iN g b).2:=(cz (f:=iN g) (R:=fun(a b:En)=>a.2<b.2)).1 aat
  exact h5.imp fun h e=>by subst e;omega
theorem Mg.un {g:Gs} {os:List Fo} {E:List En} (h:Mg g os E) {k k':Nat} {p:Fo} (h1:os[k]? =some p) (h2:os[k']? =some p):k=k':=by
 obtain⟨a1,a2⟩:=ao.1 h1;obtain⟨b1,b2⟩:=ao.1 h2;exact(List.getElem_inj (h₀:=a1) (h₁:=b1) h.nd).1 (a2.trans b2.symm)
theorem xU:∀{L:List En} {last:Int},uT last L=true→∀e∈L,last<e.2∧lO e.1=0
 |[],_,_,e,h=>by cases h
 |x::L,last,h,e,he=>by
  simp only[uT,bU,decide_eq_true_eq]at h
  have hx:last<x.2∧lO x.1=0:=by
   refine⟨(vQ h.1).2,?_⟩;have:=h.1;unfold mX at this
   split at this
   ·rename_i h1;exact absurd this h1
   ·rename_i h1;simpa using h1
  rcases cf.1 he with rfl|he
  ·exact hx
  ·have:=xU h.2 e he;exact⟨by omega,this.2⟩
theorem N1:∀{L:List En} {last:Int},(∀e∈L,last<e.2∧lO e.1=0)→L.Pairwise (fun a b=>a.2<b.2)→uT last L=true
 |[],_,_,_=>rfl
 |x::L,last,h,hp=>by
  obtain⟨h1,h2⟩:=h x (bP ..);have OT:=ek.1 hp;simp only[uT,bU,decide_eq_true_eq];refine⟨?_,N1 (fun e he=>⟨OT.1 e he,(h e (b9 _ he)).2⟩) OT.2⟩;unfold mX;rw[if_neg (by rw[h2];simp),if_neg (by omega)]
theorem zC:∀{L:List En} {last:Int},uT last L=true→L.Pairwise fun a b=>a.2<b.2
 |[],_,_=>List.Pairwise.nil
 |x::L,last,h=>by
  simp only[uT,bU,decide_eq_true_eq]at h;exact ek.2 ⟨fun e he=>(xU h.2 e he).1,zC h.2⟩
theorem Mg.mem {g:Gs} {os:List Fo} {E:List En} (h:Mg g os E) {e:En}:e∈E↔∃i d,lG g i d e:=by
 constructor
 ·intro he;obtain⟨k,hk⟩:=bB.1 he;obtain⟨i,d,e',_,h2,h3⟩:=h.at_ k _ (ar (by rw[←h.len];exact(ao.1 hk).1));rw[hk]at h2;cases h2;exact⟨i,d,h3⟩
 ·rintro⟨i,d,hl⟩;obtain⟨k,hk⟩:=bB.1 (h.all i d e hl);obtain⟨i',d',e',h1,h2,h3⟩:=h.at_ k _ hk;simp only[ec]at h1;obtain rfl:i=i':=by omega
  obtain rfl:d=d':=by omega
  rw[hl.un h3];exact aA h2
theorem lG.ok {g:Gs} (hg:Il g) {i d:Nat} {e:En} (h:lG g i d e): -1<e.2∧lO e.1=0:=by
 obtain⟨L,a,h1,h2,_⟩:=h;exact xU (hg _ (aA h1)).1 e (aA h2)
theorem Mg.ok {g:Gs} (hg:Il g) {os:List Fo} {E:List En} (h:Mg g os E):uT (-1) E=true:=
 N1 (fun e he=>by obtain⟨i,d,hl⟩:=h.mem.1 he;exact hl.ok hg) h.up
theorem Im {E E':List En} (h:E.Pairwise fun a b=>a.2<b.2) (h':E'.Pairwise fun a b=>a.2<b.2) (hm:∀e,e∈E↔e∈E'):E=E':=
 uj (fun a b h1 h2=>by omega) h h' (h.imp fun h e=>by subst e;omega) (h'.imp fun h e=>by subst e;omega) hm
theorem QR {i:Nat} {tl:List (Fd×Nat)} {k:List UInt8} {q:Po}:q∈Fy i tl k↔∃t∈db tl,gE t=k∧q=((i:Int),posOf tl t):=by
 unfold Fy;rw[ca];constructor
 ·rintro⟨t,ht,rfl⟩;obtain⟨h1,h2⟩:=fN.1 ht;exact⟨t,h1,by simpa using h2,rfl⟩
 ·rintro⟨t,h1,h2,rfl⟩;exact⟨t,fN.2 ⟨h1,by simpa using h2⟩,rfl⟩
theorem Io {k:List UInt8} {q:Po}:∀{L:List En} {i:Nat},q∈CT k i L↔∃(d:Nat) (e:En),L[d]? =some e∧q∈Fy (i+d) (pQ e) k
 |[],i=>by simp[CT]
 |x::L,i=>by
  simp only[CT,cp,Io (L:=L)];constructor
  ·rintro(h|⟨d,e,h1,h2⟩)
   ·exact⟨0,x,rfl,h⟩
   ·exact⟨d+1,e,by simpa using h1,by rw[show i+(d+1)=i+1+d from by omega];exact h2⟩
  ·rintro⟨d,e,h1,h2⟩
   cases d with
   |zero=>simp at h1;subst h1;exact .inl h2
   |succ d=>exact .inr ⟨d,e,by simpa using h1,by rw[show i+1+d=i+(d+1)from by omega];exact h2⟩
theorem zD {L:List En} {k:List UInt8} {q:Po}:q∈pk L k↔∃(d:Nat) (e:En),L[d]? =some e∧∃t∈db (pQ e),gE t=k∧q=((d:Int),posOf (pQ e) t):=by
 unfold pk;rw[Io];simp only[fL,QR]
theorem EO:∀{l:List Po} {last:Int},fH last l=true→l.Pairwise (fun a b=>a.1<b.1)∧∀p∈l,last<p.1
 |[],_,_=>⟨List.Pairwise.nil,fun p h=>by cases h⟩
 |(d,ps)::l,last,h=>by
  simp only[fH,bU,decide_eq_true_eq]at h;obtain⟨⟨⟨⟨h1,h2⟩,h3⟩,h4⟩,h5⟩:=h;obtain⟨h6,h7⟩:=EO h5;refine⟨ek.2 ⟨h7,h6⟩,fun p hp=>?_⟩;rcases cf.1 hp with rfl|hp
  ·exact h1
  ·have:=h7 p hp;omega
theorem N2 {L:List En} (h:uT (-1) L=true) (hn:L.length≤1000000) (k:List UInt8):(pk L k).Pairwise fun a b=>a.1<b.1:=
 (EO (uu k L 0 (-1) (ku h) (by omega) (by omega))).1
def kV (to:List Int) (l:List Po):List Po:=l.filterMap fun p=>if 0≤to.getD p.1.toNat 0 then some (to.getD p.1.toNat 0,p.2)else none
theorem zE (to:List Int) (l:List Po) (p:Po):kV to (l++[p])=if 0≤to.getD p.1.toNat 0 then kV to l++[(to.getD p.1.toNat 0,p.2)]else kV to l:=by
 unfold kV;rw[List.filterMap_append]
 split
 ·rename_i h;rw[List.filterMap_cons,if_pos h];rfl
 ·rename_i h;rw[List.filterMap_cons,if_neg h];simp
theorem tv (to:List Int) (l:List Po):(kV to l).length≤l.length:=List.length_filterMap_le _ _
def EP (g:Gs) (os:List Fo) (tos:List (List Int)):Prop:=tos.length=g.length∧∀(i:Nat) (p:List En×List Bool),g[i]? =some p→Plc os i p.1.length (tos.getD i [])
def xA (g:Gs) (tos:List (List Int)) (k:List UInt8) (n:Nat):List Po:=(List.range n).flatMap fun i=>kV (tos.getD i []) (pk (g.getD i ([],[])).1 k)
theorem vU (g:Gs) (tos:List (List Int)) (k:List UInt8) (n:Nat):xA g tos k (n+1)=xA g tos k n++kV (tos.getD n []) (pk (g.getD n ([],[])).1 k):=by
 unfold xA;rw[List.range_succ,List.flatMap_append];simp
section
variable {g:Gs} {os:List Fo} {E:List En} {tos:List (List Int)} {k:List UInt8}
theorem zF (hm:Mg g os E) (ht:EP g os tos) {i:Nat} (hi:i<g.length) {q:Po}:q∈kV (tos.getD i []) (pk (g.getD i ([],[])).1 k)↔∃(d n:Nat) (e:En),os[n]? =some ((i:Int),(d:Int))∧E[n]? =some e∧∃t∈db (pQ e),gE t=k∧q=((n:Int),posOf (pQ e) t):=by
 have mO:g[i]? =some g[i]:=ar hi;obtain⟨hl,hp⟩:=ht.2 i _ mO;have o9:g.getD i ([],[])=g[i]:=by rw[az,mO];rfl
 rw[o9];unfold kV;rw[List.mem_filterMap];constructor
 ·rintro⟨p,h1,h2⟩;obtain⟨d,e,hd,t,R0,Jb,rfl⟩:=zD.1 h1;simp only[ay]at h2
  split at h2
  ·rename_i h3
   have h2:=aH h2;rcases hp d (ao.1 hd).1 with⟨h4,_⟩|⟨n,h4,h5⟩
   ·omega
   ·obtain⟨i',d',e',a1,a2,a3⟩:=hm.at_ n _ h5;simp only[ec]at a1;obtain rfl:i=i':=by omega
    obtain rfl:d=d':=by omega
    obtain⟨L,a,b1,b2,_⟩:=a3;rw[mO]at b1;have b1:=aH b1;rw[b1]at hd;rw[hd]at b2;obtain rfl:=aH b2;exact⟨d,n,e,h5,a2,t,R0,Jb,by rw[←h2,h4]⟩
  ·cases h2
 ·rintro⟨d,n,e,h1,h2,t,R0,Jb,rfl⟩;obtain⟨i',d',e',a1,a2,a3⟩:=hm.at_ n _ h1;simp only[ec]at a1;obtain rfl:i=i':=by omega
  obtain rfl:d=d':=by omega
  rw[h2]at a2;obtain rfl:=aH a2;obtain⟨L,a,b1,b2,_⟩:=a3;rw[mO]at b1;have b1:=aH b1;refine⟨((d:Int),posOf (pQ e) t),zD.2 ⟨d,e,by rw[b1];exact b2,t,R0,Jb,rfl⟩,?_⟩;have hd:d<g[i].1.length:=by rw[b1];exact(ao.1 b2).1
  simp only[ay];rcases hp d hd with⟨h4,h5⟩|⟨n',h4,h5⟩
  ·exact absurd (aA h1) h5
  ·obtain rfl:=hm.un h1 h5;rw[h4,if_pos (by omega)]
theorem N4 (hg:Il g) (hn:∀p∈g,p.1.length≤1000000) (hm:Mg g os E) (ht:EP g os tos) {i:Nat} (hi:i<g.length):(kV (tos.getD i []) (pk (g.getD i ([],[])).1 k)).Pairwise fun a b=>a.1≠b.1:=by
 have mO:g[i]? =some g[i]:=ar hi;obtain⟨hl,hp⟩:=ht.2 i _ mO;have o9:g.getD i ([],[])=g[i]:=by rw[az,mO];rfl
 rw[o9];unfold kV;have hu:=N2 (hg _ (aA mO)).1 (hn _ (aA mO)) k;refine List.pairwise_filterMap.2 (hu.imp_of_mem fun {a b} ha hb Xt x hx y hy=>?_);obtain⟨d,e,hd,_,_,_,rfl⟩:=zD.1 ha;obtain⟨d',e',OZ,_,_,_,rfl⟩:=zD.1 hb;simp only[ay]at hx hy Xt
 split at hx
 ·split at hy
  ·obtain rfl:=aH hx;obtain rfl:=aH hy;simp only;rcases hp d (ao.1 hd).1 with⟨h4,_⟩|⟨n,h4,h5⟩
   ·omega
   ·rcases hp d' (ao.1 OZ).1 with⟨h6,_⟩|⟨n',h6,h7⟩
    ·omega
    ·intro e;rw[h4,h6]at e;obtain rfl:n=n':=by omega
     rw[h5]at h7;have:=congrArg Prod.snd (aH h7);simp only at this;omega
  ·cases hy
 ·cases hx
theorem ER (hm:Mg g os E) (ht:EP g os tos) {n:Nat} (hn:n≤g.length) {q:Po}:q∈xA g tos k n↔∃(i d m:Nat) (e:En),i<n∧os[m]? =some ((i:Int),(d:Int))∧E[m]? =some e∧∃t∈db (pQ e),gE t=k∧q=((m:Int),posOf (pQ e) t):=by
 unfold xA;rw[uW];constructor
 ·rintro⟨i,hi,h⟩;have hi:=List.mem_range.1 hi;obtain⟨d,m,e,h1,h2,h3⟩:=(zF hm ht (by omega)).1 h;exact⟨i,d,m,e,hi,h1,h2,h3⟩
 ·rintro⟨i,d,m,e,hi,h1,h2,h3⟩;exact⟨i,List.mem_range.2 hi,(zF hm ht (by omega)).2 ⟨d,m,e,h1,h2,h3⟩⟩
theorem xV (hg:Il g) (hl:∀p∈g,p.1.length≤1000000) (hm:Mg g os E) (ht:EP g os tos):∀{n:Nat},n≤g.length→(xA g tos k n).Pairwise fun a b=>a.1≠b.1
 |0,_=>List.Pairwise.nil
 |n+1,hn=>by
  rw[vU];refine ny.2 ⟨xV hg hl hm ht (by omega),N4 hg hl hm ht (by omega),fun a ha b hb e=>?_⟩;obtain⟨i,d,m,e1,hi,h1,_,_,_,_,rfl⟩:=(ER hm ht (by omega)).1 ha;obtain⟨d',m',e2,h2,_,_,_,_,rfl⟩:=(zF hm ht (by omega)).1 hb;simp only at e;obtain rfl:m=m':=by omega
  rw[h1]at h2;have:=congrArg Prod.fst (aH h2);simp only at this;omega
theorem N5 (hm:Mg g os E) (ht:EP g os tos) {q:Po}:q∈xA g tos k g.length↔q∈pk E k:=by
 rw[ER hm ht (aT _),zD];constructor
 ·rintro⟨i,d,m,e,_,_,h2,h3⟩;exact⟨m,e,h2,h3⟩
 ·rintro⟨m,e,h1,h2⟩;obtain⟨i,d,e',a1,a2,L,a,a3,_⟩:=hm.at_ m _ (ar (by rw[←hm.len];exact(ao.1 h1).1));exact⟨i,d,m,e,(ao.1 a3).1,by rw[←a1];exact ar _,h1,h2⟩
theorem vV (hg:Il g) (hl:∀p∈g,p.1.length≤1000000) (hE:E.length≤1000000) (hm:Mg g os E) (ht:EP g os tos):(xA g tos k g.length).Perm (pk E k):=
 (List.perm_ext_iff_of_nodup ((xV hg hl hm ht (aT _)).imp fun h e=>h (by rw[e])) ((N2 (hm.ok hg) hE k).imp fun h e=>by subst e;omega)).2 fun _=>N5 hm ht
theorem ES (hg:Il g) (hl:∀p∈g,p.1.length≤1000000) (hE:E.length≤1000000) (hm:Mg g os E) (ht:EP g os tos) {s:List Po} (hs:s.Perm (xA g tos k g.length)) (hp:s.Pairwise fun a b=>a.1≤b.1):s=pk E k:=by
 have hu:=N2 (hm.ok hg) hE k;have oJ:=xV hg hl hm ht (k:=k) (aT _);refine List.Perm.eq_of_pairwise (le:=fun a b=>a.1≤b.1) (fun a b ha hb h1 h2=>?_) hp (hu.imp fun h=>by omega) (hs.trans (vV hg hl hE hm ht));have ry:=(hs.trans (vV hg hl hE hm ht)).mem_iff.1 ha;obtain⟨i,hi⟩:=xl.1 ry;obtain⟨j,hj⟩:=xl.1 hb;obtain⟨hi,rfl⟩:=hi;obtain⟨hj,rfl⟩:=hj;rcases fa i j with h|h|h
 ·have:=(cC.1 hu) i j hi hj h;omega
 ·subst h;rfl
 ·have:=(cC.1 hu) j i hj hi h;omega
theorem JP (hm:Mg g os E) {J:List (List UInt8)} (hJ:D4 J) (kq:∀x,x∈J↔∃p∈g,x∈keysOf p.1):J.filter (fun k=> !(pk E k).isEmpty)=keysOf E:=by
 have jB:∀x,pk E x≠[]↔x∈iy E:=fun x=>⟨fun h=>Classical.byContradiction fun hn=>h (Cf 0 hn),fun h=>GC 0 h⟩
 have hu:D4 (J.filter fun k=> !(pk E k).isEmpty):=uQ zZ hJ;refine uj (R:=fun a b=>a<b) (fun a b h1 h2=>absurd h2 (iR h1)) hu (kZ E) hu.nodup (kZ E).nodup fun x=> ?_
 rw[fN,iS,←jB];constructor
 ·rintro⟨_,h⟩ e;rw[e]at h;simp at h
 ·intro h
  refine⟨(kq x).2 ?_,by cases hx:pk E x with
   |nil=>exact absurd hx h
   |cons a b=>rfl⟩
  have h2:=(jB x).1 h;unfold iy at h2;obtain⟨e,he,h3⟩:=uW.1 h2;obtain⟨i,d,L,a,a1,a2,_⟩:=hm.mem.1 he;exact⟨(L,a),aA a1,iS.2 (uW.2 ⟨e,aA a2,h3⟩)⟩
end
end Go.K
namespace Go.K
open Go.Proofs
set_option maxRecDepth 10000
def ET (g:Gs):Prop:=∃(i d i' d':Nat) (e e':En),lG g i d e∧lG g i' d' e'∧¬(i=i'∧d=d')∧e.2=e'.2
theorem lG.one {L:List En} {a:List Bool} {i d:Nat} {e:En}:lG [(L,a)] i d e↔i=0∧L[d]? =some e∧a[d]? =some true:=by
 constructor
 ·rintro⟨L',a',h1,h2,h3⟩
  cases i with
  |zero=>simp only[qU,dL,ec]at h1;obtain⟨rfl,rfl⟩:=h1;exact⟨rfl,h2,h3⟩
  |succ i=>simp at h1
 ·rintro⟨rfl,h2,h3⟩;exact⟨L,a,rfl,h2,h3⟩
def EU (Z:List (En×Bool)):List En:=(Z.filter (·.2)).map (·.1)
theorem zG {L:List En} {a:List Bool} {e:En}:e∈EU (L.zip a)↔∃d:Nat,L[d]? =some e∧a[d]? =some true:=by
 unfold EU;rw[ca];constructor
 ·rintro⟨⟨x,b⟩,h,rfl⟩;obtain⟨h1,h2⟩:=fN.1 h;simp only at h2;subst h2;obtain⟨d,hd⟩:=bB.1 h1;rw[List.getElem?_zip_eq_some]at hd;exact⟨d,hd.1,hd.2⟩
 ·rintro⟨d,h1,h2⟩;exact⟨(e,true),fN.2 ⟨aA (i:=d) (List.getElem?_zip_eq_some.2 ⟨h1,h2⟩),rfl⟩,rfl⟩
theorem Ip {L:List En} {a:List Bool} (h:L.Pairwise fun x y=>x.2<y.2):(EU (L.zip a)).Pairwise fun x y=>x.2<y.2:=by
 unfold EU;refine cz.2 (uQ zZ ?_);rw[cC]at h ⊢;intro i j hi hj ji;rw[List.getElem_zip,List.getElem_zip];exact h i j (by rw[List.length_zip]at hi;omega) (by rw[List.length_zip]at hj;omega) ji
theorem VW {L:List En} {a:List Bool} {os:List Fo} {E:List En} (hu:L.Pairwise fun x y=>x.2<y.2) (h:Mg [(L,a)] os E):E=EU (L.zip a):=Im h.up (Ip hu) fun e=>by
 rw[h.mem,zG];constructor
 ·rintro⟨i,d,hl⟩;obtain⟨_,h1,h2⟩:=lG.one.1 hl;exact⟨d,h1,h2⟩
 ·rintro⟨d,h1,h2⟩;exact⟨0,d,lG.one.2 ⟨rfl,h1,h2⟩⟩
theorem JQ {g:Gs} (h:((g.map (·.1)).flatten).Pairwise fun x y=>x.2≠y.2): ¬ET g:=by
 rintro⟨i,d,i',d',e,e',⟨L,a,h1,h2,_⟩,⟨L',a',h3,h4,_⟩,eK,heq⟩;rw[List.pairwise_flatten]at h;obtain⟨ha,hb⟩:=h;have g1:(g.map (·.1))[i]? =some L:=by rw[bC,h1];rfl
 have g3:(g.map (·.1))[i']? =some L':=by rw[bC,h3];rfl
 obtain⟨p1,p2⟩:=ao.1 g1;obtain⟨q1,q2⟩:=ao.1 g3;rcases fa i i' with dR|rfl|dR
 ·have:=cC.1 hb i i' p1 q1 dR;rw[p2,q2]at this;exact this e (aA h2) e' (aA h4) heq
 ·rw[h1]at h3;cases h3;have hl:=ha L (aA g1);obtain⟨r1,r2⟩:=ao.1 h2;obtain⟨s1,s2⟩:=ao.1 h4;rcases fa d d' with h|h|h
  ·have:=cC.1 hl d d' r1 s1 h;rw[r2,s2]at this;exact this heq
  ·exact eK ⟨rfl,h⟩
  ·have:=cC.1 hl d' d s1 r1 h;rw[r2,s2]at this;exact this heq.symm
 ·have:=cC.1 hb i' i q1 p1 dR;rw[p2,q2]at this;exact this e' (aA h4) e (aA h2) heq.symm
theorem Hb {L:List En} {a:List Bool} (hu:L.Pairwise fun x y=>x.2<y.2): ¬ET [(L,a)]:=JQ (by
 show(List.flatten [L]).Pairwise _;rw[List.flatten_cons,List.flatten_nil,iW];exact hu.imp fun h e=>by omega)
end Go.K
namespace Go.K
theorem Own.QS {α:Type} {A:RT α} (hA:AB A) {e:TypeId} {M:aD} {w:World} {base:Nat} {v:Value} {xs:List α} (h:Own A e M w base v xs) {M':aD} (hm:∀b,v.ownBlock=some b→M' b):Own A e M' w base v xs:=by
 obtain⟨⟨C,h1,h2⟩,_⟩:=h;exact⟨⟨C,h1,h2.QL hA⟩,hm⟩
theorem Own.aau {α:Type} {A:RT α} (hA:AB A) {e:TypeId} {N:aD} {w w':World} {base:Nat} {v:Value} {xs:List α} (h:Own A e allM w base v xs) (s:Step allM w allM w' N) (hn:∀b,v.ownBlock=some b→¬N b):Own A e allM w' base v xs:=by
 obtain⟨⟨C,h1,h2⟩,_⟩:=h;refine⟨⟨C,⟨h1.1,?_⟩,h2.QL hA⟩,fun _ _=>trivial⟩;rcases h1.2 with h3|⟨g,cap,cur,h3,h4,h5,h6,h7,h8⟩
 ·exact .inl h3
 ·exact .inr ⟨g,cap,cur,h3,h4,by rw[s.same g (ak h5) (hn g (by rw[h3];rfl))];exact h5,h6,h7,h8⟩
theorem Own.SB {α:Type} {A:RT α} (hA:AB A) {e:TypeId} {M:aD} {w:World} {base:Nat} {v:Value} {xs:List α} (h:Own A e M w base v xs):Own A e (mV v) w base v xs:=h.QS hA fun _ h=>h
theorem Own.SC {α:Type} {A:RT α} (hA:AB A) {e:TypeId} {M M' N:aD} {w w':World} {base:Nat} {v:Value} {xs:List α} (h:Own A e (mV v) w base v xs) (s:Step M w M' w' N) (hn:∀c,v.ownBlock=some c→¬N c):Own A e (mV v) w' base v xs:=
 ((h.QS hA (M':=allM) (fun _ _=>trivial)).aau hA s.all hn).SB hA
end Go.K
namespace Go.K
variable {P:Program} {r:Option Nat} {n:Nat} {L:Sl} {ds:List Deferred} {w:World} {K:Kt} {ops:Array Oper} {rest:List Oper} {d:Nat} {x y:Operand} {ty:TypeId} {pos:String} {af:Array Edge} {α:Type} {A:RT α}
theorem Own.Kq {e:TypeId} {M:aD} {base:Nat} {u v:Value} {xs:List α} (h:Own A e M w base u xs) (xQ:∀b,u.ownBlock=some b→v.ownBlock≠some b):Own A e (rm M v) w base u xs:=by
 obtain⟨⟨C,hr,ha⟩,hm⟩:=h;exact⟨⟨C,hr,ha.le (fg M v w)⟩,fun b hb=>⟨hm b hb,xQ b hb⟩⟩
theorem Rg.VX {t e:TypeId} {zv:Value} {bytes:Nat} {M:aD} {base g len cap j:Nat} {xs:List α} {a:α} {v:Value} (hA:A.n=1∧A.agg=false) (hi:TI P t zv 1 bytes) (hx:ev L x=some (.pointer (some ⟨g,j,none⟩))) (hy:ev L y=some v) (h:Own A e M w base (.slice (some ⟨g,0,none⟩) len cap) xs) (hj:j<xs.length) (hv:A.V M w a v)
  (k:∀w',Own A e M w' base (.slice (some ⟨g,0,none⟩) len cap) (xs.set j a)→Step M w M w' (fun k=>k=g)→Rg P r n ops rest L ds w' K):
  Rg P r n ops ({dst:=none,op:= .store t x y,type:=ty,pos,after:=af,guard:=none}::rest) L ds w K:=by
 obtain⟨vs,lp,hvv⟩:=hv;have hl:=A.len lp;rw[hA.1]at hl
 obtain⟨u,rfl⟩:∃u,vs=[u]:=by
  match vs,hl with
  |[u],_=>exact⟨u,rfl⟩
 have hvu:v=u:=by rw[hvv];unfold RT.val;rw[hA.2];rfl
 subst hvu;have h1:=A.one lp v (by simp);obtain⟨w',TR,ho,hs⟩:=h.setCells hj lp;obtain⟨⟨C,hr,_⟩,hm⟩:=h;rcases hr.2 with⟨h2,_⟩|⟨g',ya,cur,h2,_,h3,h4,h5,h6,h7⟩
 ·cases h2
 ·simp only[fQ,dL,nP]at h2;obtain⟨⟨rfl,_⟩,rfl,rfl⟩:=h2;rw[hA.1]at h6 TR;refine .Rm (fun _ h=>by cases h) rfl rfl w' (fun ρ hρ=>?_) (k w' ho hs);subst TR;simp only[execOp,hρ x _ hx,hρ y _ hy];have:=nA (P:=P) hi (w:=w) (b:=g) (o:=j) (v:=v) h1 (by rw[fG h3 (v:=cur[j]'(by omega)) (by simp)];rfl) (by simp[World.frozen?,h3]);simp[this,World.setCells]
theorem Rg.ahA {t e:TypeId} {zv v:Value} {bytes:Nat} {M:aD} (ht:P.underlying t=some (.slice e)) (hi:TI P e zv 1 bytes) (hx:ev L x=some v) (hd:Nat.blt d n=true) (hc:v.cells= #[v])
  (k:∀g w',w.heap.size≤g→w'.heap[g]? =some (.cells #[v] e (0,0))→Step M w M w' aC→Rg P r n ops rest ((d,.slice (some ⟨g,0,none⟩) 1 1)::L) ds w' K):
  Rg P r n ops ({dst:=some d,op:= .buildSlice t 1 #[(0,x)],type:=ty,pos,after:=af,guard:=none}::rest) L ds w K:=by
 obtain⟨i,xJ,Ab,hi3,Xz⟩:=hi.get;refine .op (fun _ h=>by cases h) rfl rfl hd (.slice (some ⟨w.heap.size,0,none⟩) 1 1) (w.alloc (.cells #[v] e)) (fun ρ hρ=>?_) (k _ _ (aT _) (cg w _) (cQ M w (.cells #[v] e)));simp only[execOp,fq,eQ,j5,hρ x _ hx];simp only[Instr.buildSlice,ck,run_underlying ht,cB,hi.sizeOf,Nat.one_mul];rw[if_neg (by omega),if_neg (by omega)];simp only[ck,zeroValue,typeInfo,program,Sem.run,xJ,Ab,cB,Sem.run_pure];rw[C2 1 _ #[v] v (by simp) hc (by simp)];simp[newRow,newObj,Sem.run]
theorem Rg.QT {i:Operand} {t e:TypeId} {κ:IntKind} {j:Int} {b o len bytes:Nat} {zv:Value} (ht:P.underlying t=some (.array len e)) (hi:TI P e zv 1 bytes) (hx:ev L x=some (.pointer (some ⟨b,o,none⟩))) (FF:ev L i=some (.int κ j)) (hd:Nat.blt d n=true) (hj:0≤j∧j<len)
  (k:Rg P r n ops rest ((d,.pointer (some ⟨b,o+j.toNat,none⟩))::L) ds w K):
  Rg P r n ops ({dst:=some d,op:= .indexAddr t x i,type:=ty,pos,after:=af,guard:=none}::rest) L ds w K:=
 .op (fun _ h=>by cases h) rfl rfl hd _ w (fun ρ h=>by
  simp only[execOp,h x _ hx,h i _ FF];simp[Instr.indexAt,run_underlying ht,asIntOf,hj,hi.sizeOf,xi,Instr.sureAddr]) k
def O8 (p:Fo):List Value:=[.int .i64 p.1,.int .i64 p.2]
def aav (p:Fo):Prop:=lS p.1∧lS p.2
theorem xW {M:aD} {w:World}:∀{xs:List Fo} {C:List Value},dX RT.fo M w xs C↔C=xs.flatMap O8∧∀p∈xs,aav p
 |[],C=>⟨fun h=>⟨h,fun p h=>by cases h⟩,fun h=>h.1⟩
 |p::xs,C=>by
  constructor
  ·rintro⟨vs,r,h1,⟨va,vb,rfl,⟨rfl,ha⟩,⟨rfl,hb⟩⟩,h3⟩;obtain⟨h4,h5⟩:=xW.1 h3;refine⟨by rw[h1,h4];rfl,fun q hq=>?_⟩;rcases cf.1 hq with rfl|hq
   ·exact⟨ha,hb⟩
   ·exact h5 q hq
  ·rintro⟨h1,h2⟩;obtain⟨ha,hb⟩:=h2 p (bP ..);exact⟨_,_,by rw[h1];rfl,⟨_,_,rfl,⟨rfl,ha⟩,⟨rfl,hb⟩⟩,xW.2 ⟨rfl,fun q hq=>h2 q (b9 _ hq)⟩⟩
theorem EV {a:Int}:∀{xs:List Fo} {k:Nat} {p:Fo},xs[k]? =some p→(xs.flatMap O8).set (k*2+1) (.int .i64 a)=(xs.set k (p.1,a)).flatMap O8
 |[],k,p,h=>by simp at h
 |q::xs,0,p,h=>by
  simp at h;subst h;rfl
 |q::xs,k+1,p,h=>by
  have:=EV (a:=a) (xs:=xs) (k:=k) (p:=p) (by simpa using h);rw[List.set_cons_succ,sw,sw,←this];show(O8 q++_).set _ _=O8 q++_;rw[show(k+1)*2+1=(k*2+1)+2 from by omega];rfl
theorem zH:∀xs:List Fo,(xs.flatMap O8).length=xs.length*2
 |[]=>rfl
 |p::xs=>by rw[sw,bj,zH xs,cM];show 2+_=_;omega
theorem Own.aaw {e:TypeId} {M:aD} {base g len cap k:Nat} {xs:List Fo} {p:Fo} (h:Own RT.fo e M w base (.slice (some ⟨g,0,none⟩) len cap) xs) (hx:xs[k]? =some p):
  ∃cur,w.heap[g]? =some (.cells cur e (0,0))∧M g∧aav p∧base≤g∧(∃u,cur[k*2+1]? =some u∧u.oneCell'=true)∧∀(M':aD) (w':World) (a:Int),lS a→w'.heap[g]? =some (.cells (cur.setIfInBounds (k*2+1) (.int .i64 a)) e (0,0))→M' g→Own RT.fo e M' w' base (.slice (some ⟨g,0,none⟩) len cap) (xs.set k (p.1,a)):=by
 obtain⟨⟨C,hr,ha⟩,hm⟩:=h;obtain⟨rfl,hok⟩:=xW.1 ha;have FK:=(ao.1 hx).1;rcases hr.2 with⟨h1,_⟩|⟨g',ya,cur,h1,h2,h3,h4,h5,h6,h7⟩
 ·cases h1
 ·simp only[fQ,dL,nP]at h1;obtain⟨⟨rfl,_⟩,rfl,rfl⟩:=h1;have e2:RT.fo.n=2:=rfl;rw[e2]at h6 h7;have kq:k*2+1<xs.length*2:=by omega
  have iX:∃u,cur[k*2+1]? =some u∧u.oneCell'=true:=by
   have hl:k*2+1<(xs.flatMap O8).length:=by rw[zH];exact kq
   refine⟨(xs.flatMap O8)[k*2+1],?_,ha.one _ (uV _)⟩;have h8:(cur.toList.take (xs.length*2))[k*2+1]? =some (xs.flatMap O8)[k*2+1]:=by rw[h7];exact ar hl
   rw[cn,if_pos kq]at h8;simpa using h8
  refine⟨cur,h3,hm g rfl,hok p (aA hx),h2,iX,fun M' w' a har hw hM'=>?_⟩;refine⟨⟨(xs.set k (p.1,a)).flatMap O8,⟨by rw[zH];rfl,.inr ⟨g,cap,_,by rw[fm],h2,hw,by rw[fm];exact h4,h5,by rw[e2];simpa using h6,?_⟩⟩,xW.2 ⟨rfl,fun q hq=>?_⟩⟩,fun b hb=>by cases hb;exact hM'⟩
  ·rw[e2,fm,←EV hx,←h7];apply eZ;intro j;rw[dp];simp only[cn,Array.toList_setIfInBounds,dp,bH,zY];by_cases hj:j<xs.length*2
   ·rw[if_pos hj,if_pos hj];have:xs.length*2≤cur.size:=by rw[h6];omega
    by_cases e:k*2+1=j
    ·rw[if_pos e,if_pos e,if_pos (by omega),if_pos (by omega)]
    ·rw[if_neg e,if_neg e]
   ·rw[if_neg hj,if_neg hj];rw[if_neg (by omega)]
  ·rcases List.mem_or_eq_of_mem_set hq with hq|rfl
   ·exact hok q hq
   ·exact⟨(hok p (aA hx)).1,har⟩
end Go.K
namespace Go.K
open Go.Proofs
namespace TKSet
theorem EW:TI Tryz.prog 131 (.slice none 0 0) 1 24:=by unfold TI;kernel_rfl
theorem ahB:TI Tryz.prog 133 (.agg #[(.int .i64 0),(.slice none 0 0)]) 2 32:=by unfold TI;kernel_rfl
theorem zI:TI Tryz.prog 190 (.int .u64 0) 1 8:=by unfold TI;kernel_rfl
theorem ahC:placesOf Tryz.prog 133=[(0,1),(1,1)].map some:=by kernel_rfl
end TKSet
open TKSet
set_option maxRecDepth 10000
theorem AD {w0:World} {k m x:Nat} (Hc:∃e fr,w0.heap[1]? =some (.cells (IY.map fun(k:Nat)=>Value.int .u8 (k:Int)).toArray e fr)) (hx:x=2^k*(2*m+1)) (hl:x<2^64):
  Spec Tryz.prog 213 #[.int .u64 x] w0 (fun v' w'=>v'= .int .i64 k∧w0=w'):=by
 obtain⟨et,ft,Hc⟩:=Hc;have hp:=Nat.two_pow_pos k;have tG:0<x:=by rw[hx];exact Nat.mul_pos hp (by omega)
 have hkx:2^k≤x:=by rw[hx];exact Nat.le_mul_of_pos_right _ (by omega)
 have hk:k<64:=by
  rcases cI k 64 with h2|h2
  ·exact h2
  ·have:=nw (n:=2) (by decide) h2;omega
 obtain⟨xS,zA⟩:=TS k hk;have k9:((IY.map fun(k:Nat)=>Value.int .u8 (k:Int)).toArray)[(2^k*285870213051353865)%2^64/2^58]? =some (.int .u8 (k:Int)):=by rw[il,bC,zA];rfl
 refine bc (args:=[_]) (fn:=Tryz.f213) Tryz.func213 rfl (n:=14) Tryz.ntmps213 (aj (ae (ah rfl rfl (ab (aj (aj (ae (ad rfl rfl (nX rfl rfl rfl (ab (T.tF rfl ((by omega)) ?_)))))))))));refine aU (aj (ae (ad rfl rfl (ad rfl rfl (Rg.adi rfl rfl (aV (v':= .int .u64 ((2^64-x:Nat):Int)) (by rw[show(0:Int)-(x:Int)=((2^64-x:Nat):Int)-18446744073709551616 from by omega];simp[IntKind.wrap,IntKind.bits,IntKind.signed];omega) (Rg.and rfl rfl rfl (aV (v':= .int .u64 ((2^k:Nat):Int)) (by rw[K7 x (2^64-x) hl (by omega),hx,PC (by omega)]) (Rg.ID rfl rfl rfl (aV (v':= .int .u64 (((2^k*285870213051353865)%2^64:Nat):Int)) (congrArg _ (by rw[show((2^k:Nat):Int)*285870213051353865=((2^k*285870213051353865:Nat):Int)from by rw[Int.natCast_mul];rfl];exact BS _)) (Rg.shr rfl rfl rfl (by decide) ?_)))))))))));refine aV (v':= .int .u64 (((2^k*285870213051353865)%2^64/2^58:Nat):Int)) (congrArg _ (X0 _ 58 (by decide))) (xH (len:=64) Tryz.underlying326 I5 rfl rfl rfl (by omega) (aM (v:= .int .u8 (k:Int)) cx rfl rfl rfl Hc (by rw[ay];exact k9) (Rg.uZ cx ax rfl rfl (by omega) (ah rfl rfl (ab (aO ?_))))));exact aS rfl rfl ⟨rfl,rfl⟩
theorem vW {M:aD} {w0:World} {n:Nat} (hn:n≤1099511627776):
  Spec Tryz.prog 24 #[.int .i64 n] w0 (fun v' w'=>∃bs bw,v'= .pointer (some ⟨bs,0,none⟩)∧w0.heap.size≤bs∧w0.heap.size≤bw∧Step M w0 (ins (ins M bw) bs) w' aC∧jJ 133 190 n (List.replicate ((n+63)/64) 0) (ins (ins M bw) bs) w' bs bw):=by
 refine bc (args:=[_]) (fn:=Tryz.f24) Tryz.func24 rfl (n:=13) Tryz.ntmps24 (aj (ae (ah rfl rfl (ab (aj (ae (ad rfl rfl (Rg.max2 rfl rfl rfl (aV (v':= .int .i64 n) (congrArg _ (by omega)) (ah rfl rfl (ab ?_)))))))))));refine aj (ae (ad rfl rfl (ad rfl rfl (bF rfl rfl rfl (by omega) (fe rfl rfl rfl (by omega) (Rg.Ah rfl rfl rfl (by omega) (aV (v':= .int .i64 (((n+63)/64:Nat):Int)) (congrArg _ (by omega)) ?_)))))));refine Rg.mk0 M eP zI rfl rfl rfl rfl (by omega) (by omega) (fun bw w1 z1 z1' h1 s1=>?_);refine iC (places:=[(0,1),(1,1)]) iJ ahB ahC rfl ⟨_,_,rfl,rfl,_,_,rfl,rfl,rfl⟩ (out:=[_,_]) ⟨0,[_],rfl,rfl,by simp[Value.cells],1,[_],rfl,rfl,by simp[Value.cells],rfl⟩ ?_;refine xj (ins M bw) rfl rfl (fun bs w2 z2 z2' h2 s2=>?_);have y1:=s1.size;refine ah rfl rfl (ab (aO ?_));refine aS rfl rfl ⟨bs,bw,rfl,by omega,z1,s1.aB s2,.inl rfl,.inr (.inl rfl),by omega,by rw[bY];exact h2,?_,by simp,fun x hx=>by rw[pV hx];decide,hn⟩;have:=s2.aK h1;rw[this];simp[qs]
end Go.K
namespace Go.K
open Go.Proofs
set_option maxRecDepth 10000
theorem JR {M:aD} {w0:World} {n:Nat} {ws:List Nat} {bs bw:Nat} (h:jJ 133 190 n ws M w0 bs bw):
  Spec Tryz.prog 102 #[.pointer (some ⟨bs,0,none⟩)] w0 (fun v' w'=>v'= .int .i64 (n:Int)∧w0=w'):=by
 have hS:=h.s;have hW:=h.w;have hlen:=h.len;have hok:=h.ok;have W3:=h.nn;refine bc (args:=[_]) (fn:=Tryz.f102) Tryz.func102 rfl (n:=7) Tryz.ntmps102 (aj (ae (ah rfl rfl (ab (aj (ae (ad rfl rfl (bS rfl ⟨_,rfl⟩ rfl (bG iJ rfl rfl I3 (by decide) rfl rfl (aM ax rfl rfl rfl (by assumption) rfl (ah rfl rfl ?_)))))))))));refine ab (aO ?_);exact aS rfl rfl ⟨rfl,rfl⟩
end Go.K
namespace Go.K
open Go.Proofs
namespace TKSet3
theorem EW:TI Tryz.prog 131 (.slice none 0 0) 1 24:=by unfold TI;kernel_rfl
theorem zI:TI Tryz.prog 190 (.int .u64 0) 1 8:=by unfold TI;kernel_rfl
theorem aax:Enters Tryz.prog 155:=enters Tryz.func155 rfl (by decide)
theorem ahD:Enters Tryz.prog 213:=enters Tryz.func213 rfl (by decide)
end TKSet3
open TKSet3
set_option maxRecDepth 10000
theorem zJ {M:aD} {w0:World} {n:Nat} {ws:List Nat} {bs bw:Nat} (h:jJ 133 190 n ws M w0 bs bw) {i:Int} (hi: -1≤i∧i≤1099511627776) (hb:∀j,bit ws j=true→j<n) (Hc:∃e fr,w0.heap[1]? =some (.cells (IY.map fun(k:Nat)=>Value.int .u8 (k:Int)).toArray e fr)):
  Spec Tryz.prog 155 #[.pointer (some ⟨bs,0,none⟩),.int .i64 i] w0 (fun v' w'=>(∃r,v'= .int .i64 r∧RA ws i.toNat r∧ -1≤r∧r≤1099511627776)∧w0=w'):=by
 have hS:=h.s;have hW:=h.w;have hlen:=h.len;have hok:=h.ok;have W3:=h.nn;refine bc (args:=[_,_]) (fn:=Tryz.f155) Tryz.func155 rfl (n:=36) Tryz.ntmps155 (aj (ae (ah rfl rfl (ab (aj (ae (ad rfl rfl (Rg.max2 rfl rfl rfl (aV (v':= .int .i64 (i.toNat:Int)) (congrArg _ (by omega)) (ah rfl rfl (ab ?_)))))))))));refine aj (aZ ?_);refine de (σ:=Nat) (fun s=>[(0,.pointer (some ⟨bs,0,none⟩)),(1,.int .i64 s)]) (fun s w=>w0=w∧i.toNat≤s∧(∀t,i.toNat≤t→t<s→bit ws t=false)∧s≤1099511627840) (fun s=>n+64-s) i.toNat (.cons rfl (.cons rfl .nil)) ?_ ?_
 ·exact⟨rfl,aT _,fun t h1 h2=>by omega,by omega⟩
 ·rintro p w1 ⟨rfl,hp,j9,kf⟩;refine aj (aj (ae (ad rfl rfl (ad rfl rfl (bS rfl ⟨_,rfl⟩ rfl (bG iJ rfl rfl I3 (by decide) rfl rfl (aM ax rfl rfl rfl (by assumption) rfl (cj rfl rfl rfl (ab ?_)))))))));refine bN rfl (fun c2=>?_) (fun c2=>?_)
  ·refine aU (aZ (aj (aj (ae (ad rfl rfl (bS rfl ⟨_,rfl⟩ rfl (bG iJ rfl rfl EW (by decide) rfl rfl (aM eP rfl rfl rfl (by assumption) rfl (ad rfl rfl (Rg.Ah rfl rfl rfl (by omega) (Rg.K6 eP zI rfl rfl rfl (by omega) ?_)))))))))));refine aM sC rfl rfl rfl hW (v:= .int .u64 ((ws.getD (p/64) 0:Nat):Int)) (by rw[show(((p:Int)/64)).toNat=p/64 from by omega];exact mj (by omega)) (ad rfl rfl (Rg.BD rfl rfl rfl (by omega) (Rg.shr rfl rfl rfl (by omega) (aV (v':= .int .u64 ((ws.getD (p/64) 0/2^(p%64):Nat):Int)) (congrArg _ (by rw[show((p:Int)%64)=((p%64:Nat):Int)from by omega];exact X0 _ _ (by omega))) (ah rfl rfl (ab (aj (ae (ad rfl rfl (eM rfl rfl rfl (ab ?_)))))))))));refine bN rfl (fun c4=>?_) (fun c4=>?_)
   ·refine aj (ae (ad rfl rfl (ad rfl rfl ?_)));obtain⟨k,m,FN⟩:=K9 (ws.getD (p/64) 0/2^(p%64)) (Nat.pos_of_ne_zero fun h=>c4 (by rw[h];rfl));have BF:=Dm (hok.get _) (show p%64<64 by omega) FN;have ahE:ws.getD (p/64) 0/2^(p%64)<2^64:=Nat.lt_of_le_of_lt (Nat.div_le_self _ _) (hok.get _);refine aX rfl rfl ahD (AD (k:=k) (m:=m) Hc FN ahE) (fun r wc h=>?_);obtain⟨rfl,rfl⟩:=h;refine bF rfl rfl rfl (by omega) (ah rfl rfl (ab (aO ?_)));have Xu:=fun t ht=>(BR (k:=k) (m:=m)).2 t ht
    have hbk:bit ws (p+k)=true:=by rw[yv BF,FN];exact BR.1
    have:=hb _ hbk
    exact aS rfl rfl ⟨⟨_,rfl,.inl ⟨p+k,by omega,by omega,hbk,fun t h1 h2=>by
     rcases cI t p with h|h
     ·exact j9 t h1 h
     ·have h3:=yv (ws:=ws) (i:=p) (t:=t-p) (by omega);rw[show p+(t-p)=t from by omega]at h3;rw[h3,FN];exact Xu _ (by omega)⟩,by omega,by omega⟩,rfl⟩
   ·have hz0:ws.getD (p/64) 0/2^(p%64)=0:=by
     have:=cJ.1 c4;exact Int.ofNat.inj this
    refine aU (ae (ad rfl rfl (ad rfl rfl (Rg.BD rfl rfl rfl (by omega) (fe rfl rfl rfl (by omega) (bF rfl rfl rfl (by omega) (ah rfl rfl (ab ?_))))))));refine⟨rfl,p+(64-p%64),(.cons rfl (.cons (by rw[show((p+(64-p%64):Nat):Int)=(p:Int)+(64-(p:Int)%64)from by omega];rfl) .nil)),?_,?_⟩
    ·refine⟨rfl,by omega,fun t h1 h2=>?_,by omega⟩;rcases cI t p with h|h
     ·exact j9 t h1 h
     ·have h3:=yv (ws:=ws) (i:=p) (t:=t-p) (by omega);rw[show p+(t-p)=t from by omega]at h3;rw[h3,hz0];simp
    ·show n+64-(p+(64-p%64))<n+64-p;omega
  ·refine cG (aj (ae (ah rfl rfl (ab (aO ?_)))))
   exact aS rfl rfl ⟨⟨_,rfl,.inr ⟨rfl,fun t h1=>by
    rcases cI t p with h|h
    ·exact j9 t h1 h
    ·cases QD:bit ws t with
     |false=>rfl
     |true=>have:=hb t QD;omega⟩,by omega,by omega⟩,rfl⟩
theorem JS {M:aD} {w0:World} {bs:Nat} (hM:Lt M w0):
  Spec Tryz.prog 103 #[.pointer (some ⟨bs,0,none⟩)] w0 (fun v' w'=>∃bl,v'= .func (.func 154) #[] #[.pointer (some ⟨bl,0,none⟩)]∧w'.heap[bl]? =some (.cells #[.pointer (some ⟨bs,0,none⟩)] 47 (0,0))∧w0.heap.size≤bl∧Step M w0 M w' aC):=by
 refine bc (args:=[_]) (fn:=Tryz.f103) Tryz.func103 rfl (n:=4) Tryz.ntmps103 (aj (ae ?_));refine xj M rfl rfl (fun bl w1 h1 W7 hS s1=>?_);change w1.heap[bl]? =some (.cells #[.pointer (some ⟨bs,0,none⟩)] _ _)at hS;refine ah rfl rfl (ab (aj (ae (kb (xs:=[]) (ys:=[.tmp 1]) rfl rfl rfl (ah rfl rfl (ab (aO ?_)))))));exact aS rfl rfl ⟨bl,rfl,hS,h1,s1.back⟩
theorem He {w0:World} {n:Nat} {ws:List Nat} {bs bw bl yl:Nat} {J:Nat→aD→World→Prop} {M:aD} {Jx:World→Prop} (hb:∀j,bit ws j=true→j<n) (Ia:∀p M w,J p M w→w.heap[bl]? =some (.cells #[.pointer (some ⟨bs,0,none⟩)] 47 (0,0))∧jJ 133 190 n ws M w bs bw∧(∃e fr,w.heap[1]? =some (.cells (IY.map fun(k:Nat)=>Value.int .u8 (k:Int)).toArray e fr))) (hy:∀(p j:Nat) (M:aD) (w:World),J p M w→p≤j→bit ws j=true→(∀t,p≤t→t<j→bit ws t=false)→wJ Tryz.prog yl [.int .i64 j].toArray w (fun r w'=>∃c,r= .bool c∧(c=true→∃M',J (j+1) M' w')∧(c=false→Jx w'))) (h0:J 0 M w0):
  Spec Tryz.prog 154 #[.func (.yield yl) #[] #[],.pointer (some ⟨bl,0,none⟩)] w0 (fun _ w'=>(∃p M',J p M' w'∧∀t,p≤t→bit ws t=false)∨Jx w'):=by
 obtain⟨Xh,Un,ahF⟩:=Ia _ _ _ h0;refine bc (args:=[_,_]) (fn:=Tryz.f154) Tryz.func154 rfl (n:=17) Tryz.ntmps154 (aj (ae (aM Tryz.underlying47 rfl rfl rfl (by assumption) rfl ?_)));refine aX rfl rfl aax (zJ Un (i:=0) (by omega) hb ahF) (fun r wc h=>?_);obtain⟨⟨r,rfl,hr,Xs,OW⟩,rfl⟩:=h;refine ah rfl rfl (ab (aZ ?_));refine de (σ:=Nat×Int) (fun s=>[(0,.func (.yield yl) #[] #[]),(1,.pointer (some ⟨bl,0,none⟩)),(3,.int .i64 s.2)]) (fun s w=>(∃M1,J s.1 M1 w)∧RA ws s.1 s.2∧ -1≤s.2∧s.2≤1099511627776∧s.1≤n) (fun s=>n+1-s.1) (0,r) (.cons rfl (.cons rfl (.cons rfl .nil))) ?_ ?_
 ·exact⟨⟨M,h0⟩,hr,Xs,OW,bE _⟩
 ·clear hr Xs OW;rintro⟨p,r⟩ w1 ⟨⟨M1,hJ⟩,hr,Xs,OW,O6⟩;dsimp only at hJ hr Xs OW O6 ⊢;refine aj (aj (ae (ad rfl rfl (dV rfl rfl rfl (ad rfl rfl ?_)))));refine aQ (g:=8) rfl (fun iL=>?_) (fun iL=>?_)
  ·refine al rfl rfl (ad rfl rfl (al rfl rfl (ad rfl rfl (al rfl rfl ?_))))
   have hrj:∃j:Nat,r=j∧p≤j∧bit ws j=true∧∀t,p≤t→t<j→bit ws t=false:=by
    rcases hr with h|h
    ·exact h
    ·omega
   obtain⟨j,rfl,XJ,hbj,j9⟩:=hrj;have Ke:=hb j hbj;refine Rg.yield rfl (vs:=[.int .i64 j]) rfl rfl (hy p j M1 _ hJ XJ hbj j9) (fun r4 w5 h5=>?_);obtain⟨c,rfl,hc5,hc6⟩:=h5;refine aV (v':= .bool (decide (c=true))) (by simp) (aY rfl rfl rfl (ab ?_));refine bN rfl (fun c1=>?_) (fun c1=>?_)
   ·obtain⟨M2,hJ2⟩:=hc5 c1;obtain⟨OY,nR,ahG⟩:=Ia _ _ _ hJ2;refine aU (aj (aZ (aU (ae (aM Tryz.underlying47 rfl rfl rfl (by assumption) rfl (ad rfl rfl (bF rfl rfl rfl (by omega) ?_)))))));refine aX rfl rfl aax (zJ nR (i:=(j:Int)+1) (by have:=nR.nn;omega) hb ahG) (fun r wc h=>?_);obtain⟨⟨r2,rfl,aaA,hr3,hr4⟩,rfl⟩:=h;refine ah rfl rfl (ab ?_);refine⟨rfl,(j+1,r2),(.cons rfl (.cons rfl (.cons rfl .nil))),?_,?_⟩
    ·refine⟨⟨M2,hJ2⟩,?_,hr3,hr4,by simp only;omega⟩;rw[show((j:Int)+1).toNat=j+1 from by omega]at aaA;exact aaA
    ·simp only;omega
   ·refine cG ?_;change xm Tryz.prog Tryz.f154 (fun _ w'=>(∃p M',J p M' w'∧∀t,p≤t→bit ws t=false)∨Jx w') .normal _ [] _
    first
    |exact fR rfl (.inr (hc6 (by simpa using c1)))
    |(have qm:∀t,p≤t→bit ws t=false:=by
       rcases hr with⟨j,h,_⟩|h
       ·omega
       ·exact h.2
      exact fR rfl (.inl ⟨p,M1,hJ,qm⟩))
  ·refine au rfl rfl rfl rfl (au rfl rfl rfl rfl (au rfl rfl rfl rfl (aE rfl rfl rfl (ab (jE rfl (cG ?_))))));change xm Tryz.prog Tryz.f154 (fun _ w'=>(∃p M',J p M' w'∧∀t,p≤t→bit ws t=false)∨Jx w') .normal _ [] _
   first
   |exact fR rfl (.inr (hc6 (by simpa using c1)))
   |(have qm:∀t,p≤t→bit ws t=false:=by
      rcases hr with⟨j,h,_⟩|h
      ·omega
      ·exact h.2
     exact fR rfl (.inl ⟨p,M1,hJ,qm⟩))
end Go.K
namespace Go.K
open Go.Proofs
namespace TKSet2
theorem EW:TI Tryz.prog 131 (.slice none 0 0) 1 24:=by unfold TI;kernel_rfl
theorem zI:TI Tryz.prog 190 (.int .u64 0) 1 8:=by unfold TI;kernel_rfl
theorem E24:Enters Tryz.prog 24:=enters Tryz.func24 rfl (by decide)
theorem E67:Enters Tryz.prog 67:=enters Tryz.func67 rfl (by decide)
end TKSet2
open TKSet2
set_option maxRecDepth 10000
theorem Bw {ws vs:List Nat} {n:Nat} (hl:ws.length=(n+63)/64) (hv:vs.length=(n+63)/64) (hr:0<n%64) (h1:∀j,j<64*ws.length→bit vs j= !bit ws j) (j:Nat):bit (vs.set (vs.length-1) (vs.getD (vs.length-1) 0%2^(n%64))) j=(decide (j<n)&& !bit ws j):=by
 rw[BU _ (by omega)];by_cases hj:j/64=vs.length-1
 ·rw[if_pos hj,Nat.testBit_mod_two_pow];have h2:=h1 j (by omega);have h3:(vs.getD (vs.length-1) 0).testBit (j%64)=bit vs j:=by unfold bit;rw[hj]
  rw[h3,h2];congr 1;exact decide_eq_decide.2 (by omega)
 ·rw[if_neg hj];by_cases tN:j<n
  ·rw[h1 j (by omega),decide_eq_true tN,eR]
  ·rw[decide_eq_false tN,kL,PD (by omega)]
theorem EX {ws vs:List Nat} {n:Nat} (hl:ws.length=(n+63)/64) (hr:n%64=0) (h1:∀j,j<64*ws.length→bit vs j= !bit ws j) (h2:∀j,64*ws.length≤j→bit vs j=false) (j:Nat):bit vs j=(decide (j<n)&& !bit ws j):=by
 by_cases tN:j<n
 ·rw[h1 j (by omega),decide_eq_true tN,eR]
 ·rw[decide_eq_false tN,kL,h2 j (by omega)]
theorem JT {M:aD} {w0:World} {n:Nat} {ws:List Nat} {bs bw:Nat} (h:jJ 133 190 n ws M w0 bs bw):
  Spec Tryz.prog 67 #[.pointer (some ⟨bs,0,none⟩)] w0 (fun v' w'=>∃os ow Kf,v'= .pointer (some ⟨os,0,none⟩)∧w0.heap.size≤os∧w0.heap.size≤ow∧Step M w0 (ins (ins M ow) os) w' aC∧jJ 133 190 n Kf (ins (ins M ow) os) w' os ow∧∀j,bit Kf j=(decide (j<n)&& !bit ws j)):=by
 have hS:=h.s;have hW:=h.w;have hlen:=h.len;have hok:=h.ok;have W3:=h.nn;refine bc (args:=[_]) (fn:=Tryz.f67) Tryz.func67 rfl (n:=56) Tryz.ntmps67 (aj (ae (ah rfl rfl (ab (aj (ae (ad rfl rfl (bS rfl ⟨_,rfl⟩ rfl (bG iJ rfl rfl I3 (by decide) rfl rfl (aM ax rfl rfl rfl (by assumption) rfl ?_))))))))));refine aX rfl rfl E24 (vW (M:=M) W3) (fun r1 w1 h=>?_);obtain⟨os,ow,rfl,z1,z2,s1,hO1⟩:=h;obtain⟨M1,Ct⟩:∃M1,M1=ins (ins M ow) os:=⟨_,rfl⟩;rw[←Ct]at s1 hO1;have h1:=h.step s1 (fun h=>h) (fun h=>h);have hS1:=h1.s;have lbs:=ak hS;have lbw:=ak hW;refine ah rfl rfl (ab (aj (aj (ae (ad rfl rfl (bS rfl ⟨_,rfl⟩ rfl (bG iJ rfl rfl EW (by decide) rfl rfl (aM eP rfl rfl rfl (by assumption) rfl (Rg.mn eP rfl rfl (ad rfl rfl (ab ?_)))))))))));refine aZ ?_;refine de (σ:=Nat×List Nat) (fun s=>[(0,.pointer (some ⟨bs,0,none⟩)),(3,.pointer (some ⟨os,0,none⟩)),(15,.slice (some ⟨bw,0,none⟩) ws.length ws.length),(16,.int .i64 ws.length),(17,.int .i64 s.1)]) (fun s w=>s.1≤ws.length∧jJ 133 190 n ws M1 w bs bw∧jJ 133 190 n s.2 M1 w os ow∧(∀j,j<64*s.1→bit s.2 j= !bit ws j)∧(∀j,64*s.1≤j→bit s.2 j=false)∧Step M1 w1 M1 w (fun b=>b=ow)) (fun s=>ws.length-s.1) (0,List.replicate ((n+63)/64) 0) (.cons rfl (.cons rfl (.cons rfl (.cons rfl (.cons rfl .nil))))) ?_ ?_
 ·exact⟨bE _,h1,hO1,fun j hj=>by omega,fun j hj=>yu _ _,(aw _ _).cA (fun _ h=>h.elim) (fun b hb=>by rw[hb];exact hO1.mw)⟩
 ·rintro⟨k,vs⟩ w2 ⟨hk,h2,Cu,mv,pD,S2⟩;dsimp only at hk Cu mv pD ⊢;have hS2:=h2.s;have hOS:=Cu.s;have kn:=Cu.len;refine aj (ae (cj rfl rfl rfl (ab (aj ?_))));refine bN rfl (fun c3=>?_) (fun c3=>?_)
  ·refine aU (aj (aZ (aj (ae (ad rfl rfl (Rg.K6 eP zI rfl rfl rfl (by omega) (aM sC rfl rfl rfl h2.w (v:= .int .u64 ((ws.getD (k) 0:Nat):Int)) (by rw[show((k:Int)).toNat=k from by omega];exact mj (by omega)) (ah rfl rfl (ah rfl rfl (ab (ae ?_)))))))))));refine ad rfl rfl (bS rfl ⟨_,rfl⟩ rfl (bG iJ rfl rfl EW (by decide) rfl rfl (aM eP rfl rfl rfl (by assumption) rfl (ad rfl rfl (ad rfl rfl (Rg.XZ rfl rfl (hok.get _) (Rg.K6 eP zI rfl rfl rfl (by omega) ?_)))))));refine cu (M:=M1) (u:= .int .u64 ((vs.getD k 0:Nat):Int)) zI rfl rfl Cu.w (by rw[ay];exact mj (by omega)) rfl Cu.mw (fun w5 hW5 s5=>?_);rw[ay,yt]at hW5;refine ab (ae (bF rfl rfl rfl (by omega) (ad rfl rfl (ab ?_))));refine⟨rfl,(k+1,vs.set k (2^64-1-ws.getD k 0)),(.cons rfl (.cons rfl (.cons rfl (.cons rfl (.cons rfl .nil))))),?_,?_⟩
   ·refine⟨by simp only;omega,h2.step s5 (by omega) (by omega),Cu.put s5 (by simp) hW5 (Cu.ok.set (by omega)),fun j hj=>?_,fun j hj=>?_,S2.trans s5 (fun _ _ h=>h)⟩
    ·simp only at hj ⊢;rw[BU _ (by omega)];by_cases hjk:j/64=k
     ·rw[if_pos hjk,Lb (hok.get _) (by omega)];unfold bit;rw[hjk]
     ·rw[if_neg hjk];exact mv j (by omega)
    ·simp only at hj ⊢;rw[BU _ (by omega),if_neg (by omega)];exact pD j (by omega)
   ·simp only;omega
  ·refine cG (aj (aj (ae (ad rfl rfl (bS rfl ⟨_,rfl⟩ rfl (bG iJ rfl rfl I3 (by decide) rfl rfl (aM ax rfl rfl rfl (by assumption) rfl (Rg.BD rfl rfl rfl (by omega) (aV (v':= .int .i64 ((n%64:Nat):Int)) (congrArg _ (by omega)) (ah rfl rfl (ab ?_)))))))))));refine aj (ae (ad rfl rfl (jd rfl rfl rfl (ab ?_))));refine bN rfl (fun c8=>?_) (fun c8=>?_)
   ·have HG:=Nat.two_pow_pos (n%64);have hp3:2^(n%64)<2^64:=Nat.pow_lt_pow_right (by decide) (by omega);apply T.AR (M:=M1) mixed [] [cL.eq _,cL.eq _,cL.eq _,cL.eq (.slice (some ⟨ow,0,none⟩) vs.length vs.length),cL.eq _,cL.eq _,cL.eq _,cL.eq (.slice (some ⟨ow,0,none⟩) vs.length vs.length),cL.eq (.int .i64 vs.length),cL.eq (.int .i64 ((vs.length-1:Nat):Int)),cL.eq (.pointer (some ⟨ow,((vs.length-1:Nat):Int).toNat,none⟩)),cL.eq (.int .u64 ((vs.getD (vs.length-1) 0:Nat):Int)),cL.eq _,cL.eq (.int .u64 ((2^(n%64):Nat):Int)),cL.eq (.int .u64 ((2^(n%64)-1:Nat):Int)),cL.eq (.int .u64 (((vs.getD (vs.length-1) 0%2^(n%64)):Nat):Int)),cL.eq (.pointer (some ⟨ow,((vs.length-1:Nat):Int).toNat,none⟩))] 17
    ·rfl
    ·rfl
    ·rfl
    ·rfl
    ·rfl
    ·exact fun p hp=>by cases hp
    ·exact vg.none
    ·refine aF ?_ ?_
     ·intro wD E sD;refine ad rfl rfl ?_;exact ab ⟨rfl,rfl,_,rfl,rfl,aw _ _⟩
     refine aF ?_ ?_
     ·intro wD E sD;refine aR (bS rfl ⟨_,rfl⟩ rfl ?_);exact ab ⟨rfl,rfl,_,rfl,rfl,aw _ _⟩
     refine aF ?_ ?_
     ·intro wD E sD;refine aR (bG iJ rfl rfl EW (by decide) rfl rfl ?_);exact ab ⟨rfl,rfl,_,rfl,rfl,aw _ _⟩
     refine aF ?_ ?_
     ·intro wD E sD;refine aR (aM eP rfl rfl rfl (cW sD (by assumption)) rfl ?_);exact ab ⟨rfl,rfl,_,rfl,rfl,aw _ _⟩
     refine aF ?_ ?_
     ·intro wD E sD;refine ad rfl rfl ?_;exact ab ⟨rfl,rfl,_,rfl,rfl,aw _ _⟩
     refine aF ?_ ?_
     ·intro wD E sD;refine aR (bS rfl ⟨_,rfl⟩ rfl ?_);exact ab ⟨rfl,rfl,_,rfl,rfl,aw _ _⟩
     refine aF ?_ ?_
     ·intro wD E sD;refine aR (bG iJ rfl rfl EW (by decide) rfl rfl ?_);exact ab ⟨rfl,rfl,_,rfl,rfl,aw _ _⟩
     refine aF ?_ ?_
     ·intro wD E sD;refine aR (aM eP rfl rfl rfl (cW sD (by assumption)) rfl ?_);exact ab ⟨rfl,rfl,_,rfl,rfl,aw _ _⟩
     refine aF ?_ ?_
     ·intro wD E sD;refine aR (Rg.mn eP rfl rfl ?_);exact ab ⟨rfl,rfl,_,rfl,rfl,aw _ _⟩
     refine aF ?_ ?_
     ·intro wD E sD;refine aR (fe rfl rfl rfl (by omega) (aV (v':= .int .i64 ((vs.length-1:Nat):Int)) (congrArg _ (by omega)) ?_));exact ab ⟨rfl,rfl,_,rfl,rfl,aw _ _⟩
     refine aF ?_ ?_
     ·intro wD E sD;refine aR (aR (Rg.K6 eP zI rfl rfl rfl (by omega) ?_));exact ab ⟨rfl,rfl,_,rfl,rfl,aw _ _⟩
     refine aF ?_ ?_
     ·intro wD E sD;refine aR (aM sC rfl rfl rfl (sD.aK Cu.w) (v:= .int .u64 ((vs.getD (vs.length-1) 0:Nat):Int)) (by rw[ay];exact mj (by omega)) ?_);exact ab ⟨rfl,rfl,_,rfl,rfl,aw _ _⟩
     refine aF ?_ ?_
     ·intro wD E sD;refine ad rfl rfl ?_;exact ab ⟨rfl,rfl,_,rfl,rfl,aw _ _⟩
     refine aF ?_ ?_
     ·intro wD E sD;refine aR (Rg.shl rfl rfl rfl (by omega) (aV (v':= .int .u64 ((2^(n%64):Nat):Int)) (congrArg _ (adj _ (by omega))) ?_));exact ab ⟨rfl,rfl,_,rfl,rfl,aw _ _⟩
     refine aF ?_ ?_
     ·intro wD E sD;refine aR (Rg.Tl rfl rfl rfl (aV (v':= .int .u64 ((2^(n%64)-1:Nat):Int)) (congrArg _ (by rw[show((2^(n%64):Nat):Int)-1=((2^(n%64)-1:Nat):Int)from by omega,BS,nV (by omega)])) ?_));exact ab ⟨rfl,rfl,_,rfl,rfl,aw _ _⟩
     refine aF ?_ ?_
     ·intro wD E sD;refine aR (aR (Rg.and rfl rfl rfl (aV (v':= .int .u64 (((vs.getD (vs.length-1) 0%2^(n%64)):Nat):Int)) (congrArg _ (by rw[K7 _ _ (Cu.ok.get _) (by omega),Nat.and_two_pow_sub_one_eq_mod])) ?_)));exact ab ⟨rfl,rfl,_,rfl,rfl,aw _ _⟩
     refine aF ?_ ?_
     ·intro wD E sD;refine aR (aR (aR (aR (aR (aR (aR (aR (aR (aR (aR (aR ?_)))))))))));refine aR (aR (aR (aR (aR (aR (Rg.K6 eP zI rfl rfl rfl (by omega) ?_))))));exact ab ⟨rfl,rfl,_,rfl,rfl,aw _ _⟩
     exact sH
    ·intro Sk Et;refine aR (aR (aR (aR (aR (aR (aR (aR (aR (aR (aR (aR ?_)))))))))));refine aR (aR (aR (aR (aR ?_))));refine cu (M:=M1) (u:= .int .u64 ((vs.getD (vs.length-1) 0:Nat):Int)) zI rfl rfl (Et.aK Cu.w) (by rw[ay];exact mj (by omega)) rfl Cu.mw (fun w9 hW9 s9=>?_);rw[ay,yt]at hW9;refine ab (aj (ae (ad rfl rfl (ah rfl rfl (ab (aO ?_))))));have FO:k=ws.length:=by omega
     first
     |exact aS rfl rfl ⟨os,ow,vs.set (vs.length-1) (vs.getD (vs.length-1) 0%2^(n%64)),rfl,z1,z2,by rw[←Ct];exact(s1.cd S2 (fun b hb=>by omega)).aB Et |>.cd s9 (fun b hb=>by omega),by rw[←Ct];exact(Cu.step Et (fun h=>h) (fun h=>h)).put s9 (by simp) hW9 (Cu.ok.set (Nat.lt_of_le_of_lt (Nat.mod_le _ _) (Cu.ok.get _))),fun j=>Bw hlen kn (by omega) (by rw[←FO];exact mv) j⟩
     |exact aS rfl rfl ⟨os,ow,vs,rfl,z1,z2,by rw[←Ct];exact s1.cd S2 (fun b hb=>by omega),by rw[←Ct];exact Cu,fun j=>EX hlen (by omega) (by rw[←FO];exact mv) (by rw[←FO];exact pD) j⟩
   ·refine aU (aj (ae (ad rfl rfl (ah rfl rfl (ab (aO ?_))))));have FO:k=ws.length:=by omega
    first
    |exact aS rfl rfl ⟨os,ow,vs.set (vs.length-1) (vs.getD (vs.length-1) 0%2^(n%64)),rfl,z1,z2,by rw[←Ct];exact(s1.cd S2 (fun b hb=>by omega)).aB Et |>.cd s9 (fun b hb=>by omega),by rw[←Ct];exact(Cu.step Et (fun h=>h) (fun h=>h)).put s9 (by simp) hW9 (Cu.ok.set (Nat.lt_of_le_of_lt (Nat.mod_le _ _) (Cu.ok.get _))),fun j=>Bw hlen kn (by omega) (by rw[←FO];exact mv) j⟩
    |exact aS rfl rfl ⟨os,ow,vs,rfl,z1,z2,by rw[←Ct];exact s1.cd S2 (fun b hb=>by omega),by rw[←Ct];exact Cu,fun j=>EX hlen (by omega) (by rw[←FO];exact mv) (by rw[←FO];exact pD) j⟩
theorem JU {M:aD} {w0:World} {n:Nat} (hn:n≤1099511627776):
  Spec Tryz.prog 23 #[.int .i64 n] w0 (fun v' w'=>∃os ow Kf M',v'= .pointer (some ⟨os,0,none⟩)∧w0.heap.size≤os∧w0.heap.size≤ow∧Step M w0 M' w' aC∧jJ 133 190 n Kf M' w' os ow∧∀j,bit Kf j=decide (j<n)):=by
 refine bc (args:=[_]) (fn:=Tryz.f23) Tryz.func23 rfl (n:=6) Tryz.ntmps23 (aj (ae (ah rfl rfl (ab (aj (ae (ad rfl rfl ?_)))))));refine aX rfl rfl E24 (vW (M:=M) hn) (fun r1 w1 h=>?_);obtain⟨bs,bw,rfl,z1,z2,s1,h1⟩:=h;refine aX rfl rfl E67 (JT h1) (fun r2 w2 h=>?_);obtain⟨os,ow,Kf,rfl,z3,z4,s2,h2,hb⟩:=h;have y1:=s1.size;refine ah rfl rfl (ab (aO ?_));exact aS rfl rfl ⟨os,ow,Kf,_,rfl,by omega,by omega,s1.aB s2,h2,fun j=>by rw[hb j,yu];simp⟩
end Go.K
namespace Go.K
open Go.Proofs
namespace TKSet5
theorem ahM:Enters Tryz.prog 103:=enters Tryz.func103 rfl (by decide)
theorem ahN:Enters Tryz.prog 154:=enters Tryz.func154 rfl (by decide)
end TKSet5
open TKSet5
set_option maxRecDepth 10000
def low (ws:List Nat):Nat→List Int
 |0=>[]
 |p+1=>if bit ws p then low ws p++[(p:Int)]else low ws p
theorem Iq (ws:List Nat):∀p,(low ws p).length≤p
 |0=>aT _
 |p+1=>by
  have:=Iq ws p;unfold low;split
  ·simp;omega
  ·omega
theorem uA {ws:List Nat} {p:Nat}:∀{j:Nat},p≤j→(∀t,p≤t→t<j→bit ws t=false)→low ws j=low ws p
 |0,h,_=>by rw[show p=0 by omega]
 |j+1,h,j9=>by
  rcases lr h with e|h1
  ·rw[e]
  ·rw[low,j9 j (by omega) (by omega)];simp only[Bool.false_eq_true,if_false];exact uA (by omega) (fun t h1 h2=>j9 t h1 (by omega))
theorem Cv (ws:List Nat):∀p x,x∈low ws p↔∃t:Nat,x=(t:Int)∧t<p∧bit ws t=true
 |0,x=>by simp[low]
 |p+1,x=>by
  have ih:=Cv ws p x;unfold low;constructor
  ·intro h
   split at h
   ·rename_i hb
    rcases cp.1 h with h|h
    ·obtain⟨t,h1,h2,h3⟩:=ih.1 h;exact⟨t,h1,by omega,h3⟩
    ·rw[bJ.1 h];exact⟨p,rfl,by omega,hb⟩
   ·obtain⟨t,h1,h2,h3⟩:=ih.1 h;exact⟨t,h1,by omega,h3⟩
  ·rintro⟨t,h1,h2,h3⟩;rcases cI t p with h|h
   ·have:=ih.2 ⟨t,h1,h,h3⟩
    split
    ·exact cp.2 (.inl this)
    ·exact this
   ·have:t=p:=by omega
    subst this;rw[if_pos h3];exact cp.2 (.inr (by rw[h1];exact bJ.2 rfl))
theorem Ir:AB (RT.int .i64):=fun _ _ _ _ _ _ h=>h
structure Kr (n:Nat) (ws:List Nat) (bs bw bl:Nat) (M:aD) (w:World):Prop where
 f: ¬M bl∧¬M bs∧¬M bw∧¬M 1
 l:w.heap[bl]? =some (.cells #[.pointer (some ⟨bs,0,none⟩)] 47 (0,0))
 s:jJ 133 190 n ws (fun _=>True) w bs bw
 t:∃e fr,w.heap[1]? =some (.cells (IY.map fun(k:Nat)=>Value.int .u8 (k:Int)).toArray e fr)
theorem Kr.keeps {n:Nat} {ws:List Nat} {bs bw bl:Nat} {M M':aD} {w w':World} (h:Kr n ws bs bw bl M w) (l:Le M w M' w'):Kr n ws bs bw bl M' w':=by
 obtain⟨⟨f1,f2,f3,f4⟩,hl,hs,e,fr,ht⟩:=h;have a1:=l bl (ak hl) f1;have a2:=l bs (ak hs.s) f2;have a3:=l bw (ak hs.w) f3;have a4:=l 1 (ak ht) f4;exact⟨⟨a1.1,a2.1,a3.1,a4.1⟩,a1.2.trans hl,⟨trivial,trivial,hs.ne,a2.2.trans hs.s,a3.2.trans hs.w,hs.len,hs.ok,hs.nn⟩,e,fr,a4.2.trans ht⟩
theorem Hf {M:aD} {w0:World} {n:Nat} {ws:List Nat} {bs bw:Nat} (hM:Lt M w0) (h:jJ 133 190 n ws (fun _=>True) w0 bs bw) (hb:∀j,bit ws j=true→j<n) (hf: ¬M bs∧¬M bw∧¬M 1) (Hc:∃e fr,w0.heap[1]? =some (.cells (IY.map fun(k:Nat)=>Value.int .u8 (k:Int)).toArray e fr)):
  Spec Tryz.prog 57 #[.pointer (some ⟨bs,0,none⟩)] w0 (fun v w=>∃M',Own (RT.int .i64) 3 M' w w0.heap.size v (low ws n)∧Step M w0 M' w aC):=by
 have jM:=hM;refine oc (args:=[_]) (fn:=Tryz.f57) Tryz.func57 rfl (n:=13) Tryz.ntmps57 ?_;have S:Step M w0 M w0 aC:=(aw _ _).cA (fun _ h=>h.elim) (fun _ h=>h.elim);refine aj (ae (ah rfl rfl (ab (aj (ae ?_)))));refine dP M jL rfl (fun mA Dz Uf Ug jU nF=>?_);obtain⟨lg,mB⟩:∃M',M'=ins M mA:=⟨_,rfl⟩;rw[←mB]at nF;have iM:lg mA:=by rw[mB];exact .inl rfl
 change Dz.heap[mA]? =some (.cells #[.slice none 0 0] _ _)at jU;replace hM:=nF.lt hM;have:=S.size;replace S:=S.aB nF;refine ab (aj (aj (ae (ad rfl rfl ?_))));refine aX rfl rfl ahM (JS (bs:=bs) hM) (fun r2 w2 hc=>?_);obtain⟨bl,rfl,gl,k3,s2⟩:=hc;have fl: ¬lg bl:=fun h=>by have:=hM _ h;omega
 have hk:Kr n ws bs bw bl lg w2:=by
  obtain⟨e,fr,ht⟩:=Hc;have q:=S.aB s2;exact⟨⟨fl,fun hn=>hf.1 ((q.mem _ (ak h.s)).1 hn),fun hn=>hf.2.1 ((q.mem _ (ak h.w)).1 hn),fun hn=>hf.2.2 ((q.mem _ (ak ht)).1 hn)⟩,gl,⟨trivial,trivial,h.ne,q.aK h.s,q.aK h.w,h.len,h.ok,h.nn⟩,e,fr,q.aK ht⟩
 have:=ak jU;replace iM:=(s2.mem _ this).2 iM;replace jU:=s2.aK jU;replace hM:=s2.lt hM;have:=S.size;replace S:=S.aB s2;refine ab (aZ ?_);refine T.range (gf:=154) (lb:=[.pointer (some ⟨bl,0,none⟩)].toArray) rfl ahN (fun rec nD=>?_);obtain⟨D,hD⟩:∃D,D=w2.heap.size:=⟨_,rfl⟩;obtain⟨Mr,h0⟩:=ahl (A:=RT.int .i64) (e:=3) (T:=37) (C:=284) (K:=Kr n ws bs bw bl) (st:=rec .ready none) Kr.keeps hM S jU iM hk (by omega);rw[←hD]at nD h0 ⊢;refine Spec.mono (He (M:=fun _=>True) (J:=fun p Ma w=>Ma=(fun _=>True)∧∃M' vo,NS (RT.int .i64) 3 37 284 (Kr n ws bs bw bl) M w0 mA D (rec .ready none) vo (low ws p) M' w) (Jx:=fun _=>False) hb (fun p Ma w ⟨e,M',vo,h⟩=>by subst e;exact⟨h.k.l,h.k.s,h.k.t⟩) (fun p j Ma wr hJ XJ hbj j9=>?_) ⟨rfl,Mr,_,h0⟩) (fun _ w3 h3=>?_)
 ·obtain⟨_,M',vo,h⟩:=hJ;have Ke:=hb j hbj;have W3:=h.k.s.nn;have IE:=Iq ws p;refine lW (ps:=[7]) (vs:=[.int .i64 (j:Int)]) nD h.r rfl (by decide) (ae (ah rfl rfl (ab ?_)));refine⟨rfl,h.r,?_⟩;have h4:=h.mH Kr.keeps (st':=rec .busy none);have s4:Step M' wr M' (wr.putObj (D+1) (.loop (rec .busy none))) (fun k=>k=D+1):=dS h.mr;generalize wr.putObj (D+1) _=w4 at h4 s4 ⊢;refine aZ (ae (aM an rfl rfl rfl h4.o rfl (aV (v':=vo) rfl (ad rfl rfl ?_))));refine ed (A:=RT.int .i64) (hn:=by decide) (M:=M') an I3 (by decide) rfl rfl h4.lt (x5.2 ⟨rfl,by show-9223372036854775808≤(j:Int)∧(j:Int)≤9223372036854775807;omega⟩) (.inr ⟨rfl,rfl⟩) (fun u5 w5 Dw s5=>?_);have h6:=h4.aP Kr.keeps s5;refine cZ (M:=M') (base:=w0.heap.size) an I3 rfl rfl rfl rfl h6.own Dw (aq _ _) (by simp;omega) (by simp;omega) h6.S.size (fun v6 M6 w6 ue s6=>?_);obtain⟨⟨go6,mo6⟩,FJ⟩:=h6.grow Kr.keeps (by decide) s6 ue;refine cu (M:=M6) jL rfl rfl go6 rfl (by obtain⟨_,_,he,_⟩:=ue.isSlice;rw[he];rfl) mo6 (fun w7 g7 s7=>?_);refine ab ?_;have h8:=(FJ s7 g7).mH Kr.keeps (st':=rec .ready none);exact⟨(FJ s7 g7).r,true,rfl,fun _=>⟨_,rfl,M6,v6,by rw[low,if_pos hbj,uA XJ j9];exact h8⟩,fun h=>by cases h⟩
 ·obtain⟨p,_,⟨_,M',vo,h⟩,qm⟩:=h3.resolve_right id;left;refine⟨h.r,?_⟩;have h5:=h.mH Kr.keeps (st':=rec .exhausted none);generalize w3.putObj (D+1) _=wE at h5 ⊢;refine aj (ae (aM an rfl rfl rfl h5.o rfl (aV (v':=vo) rfl (ah rfl rfl (ab (aO ?_))))));have sE:Step M' wE M' (wE.putObj D (.deferred none)) (fun k=>k=D):=dS h5.md;have hz:=h5.z;have hS:=h5.S.cd sE (fun k (hk:k=D)=>by omega)
  have ho:=h5.own.step sE (fun b hb (hn:b=D)=>by
   obtain⟨cs,hc⟩:=h5.own.isCells hb;rw[hn,h5.d]at hc;cases hc)
  have e:low ws n=low ws p:=by
   rcases Nat.le_total p n with h1|h1
   ·exact uA h1 (fun t h2 _=>qm t h2)
   ·exact(uA h1 (fun t h2 _=>by
     cases QD:bit ws t with
     |false=>rfl
     |true=>have:=hb t QD;omega)).symm
  exact BN rfl rfl h5.d ⟨M',by rw[e];exact ho,hS⟩
end Go.K
namespace Go.K
open Go.Proofs
namespace TKMay11
theorem O9:TI Tryz.prog 25 (.pointer none) 1 8:=by unfold TI;kernel_rfl
theorem VY:TI Tryz.prog 47 (.pointer none) 1 8:=by unfold TI;kernel_rfl
theorem E34:Enters Tryz.prog 34:=enters Tryz.func34 rfl (by decide)
theorem ahO:Enters Tryz.prog 102:=enters Tryz.func102 rfl (by decide)
end TKMay11
open TKMay11
set_option maxRecDepth 10000
def Hg (M:aD) (w:World) (n:Nat) (ws:List Nat) (bs:Nat):Prop:=∃bw,jJ 133 190 n ws (fun _=>True) w bs bw∧¬M bs∧¬M bw
theorem Hg.le {M M':aD} {w w':World} {n:Nat} {ws:List Nat} {bs:Nat} (hl:Le M w M' w') (h:Hg M w n ws bs):Hg M' w' n ws bs:=by
 obtain⟨bw,h1,h2,h3⟩:=h;obtain⟨a1,a2⟩:=hl bs (ak h1.s) h2;obtain⟨b1,b2⟩:=hl bw (ak h1.w) h3;exact⟨bw,⟨trivial,trivial,h1.ne,a2.trans h1.s,b2.trans h1.w,h1.len,h1.ok,h1.nn⟩,a1,b1⟩
theorem Hg.all {M:aD} {w:World} {n:Nat} {ws:List Nat} {bs:Nat} (h:Hg M w n ws bs):∃bw,jJ 133 190 n ws (fun _=>True) w bs bw:=by
 obtain⟨bw,h1,_⟩:=h;exact⟨bw,h1⟩
def AE (M:aD) (w:World) (a:List Bool) (bs:Nat):Prop:=∃ws,Hg M w a.length ws bs∧∀j,bit ws j=true↔a[j]? =some true
theorem AE.le {M M':aD} {w w':World} {a:List Bool} {bs:Nat} (hl:Le M w M' w') (h:AE M w a bs):AE M' w' a bs:=by
 obtain⟨ws,h1,h2⟩:=h;exact⟨ws,h1.le hl,h2⟩
theorem xX (ws:List Nat):∀p,(low ws p).Pairwise (· < ·)
 |0=>List.Pairwise.nil
 |p+1=>by
  unfold low
  split
  ·refine ny.2 ⟨xX ws p,by simp,fun a ha b hb=>?_⟩;obtain⟨t,rfl,ht,_⟩:=(Cv ws p a).1 ha;rw[bJ.1 hb];omega
  ·exact xX ws p
theorem Hh {ws:List Nat} {a:List Bool} (h:∀j,bit ws j=true↔a[j]? =some true):low ws a.length=fZ a:=by
 refine uj (R:=fun a b=>a<b) (fun a b h1 h2=>by omega) (xX _ _) (uz _) ((xX _ _).imp fun h e=>by omega) ((uz _).imp fun h e=>by omega) fun x=> ?_
 rw[Cv,kU];constructor
 ·rintro⟨t,rfl,_,h2⟩;exact⟨t,rfl,(h t).1 h2⟩
 ·rintro⟨t,rfl,h2⟩;exact⟨t,rfl,(ao.1 h2).1,(h t).2 h2⟩
theorem EY {M:aD} {w0:World} {a:List Bool} {bs:Nat} (hM:Lt M w0) (h:AE M w0 a bs) (h0: ¬M 1) (Hc:∃e fr,w0.heap[1]? =some (.cells (IY.map fun(k:Nat)=>Value.int .u8 (k:Int)).toArray e fr)):Spec Tryz.prog 57 #[.pointer (some ⟨bs,0,none⟩)] w0 (fun v w=>((RT.int .i64).sl).V M w (fZ a) v∧Step M w0 M w aC):=by
 obtain⟨ws,⟨bw,h1,h2,h3⟩,h4⟩:=h;refine(Hf hM h1 (fun j hj=>(ao.1 ((h4 j).1 hj)).1) ⟨h2,h3,h0⟩ Hc).mono fun v w ⟨M',ho,s⟩=>?_
 rw[Hh h4]at ho;exact ho.G5 Ir s (aT _) hM (by have:=vT a;have:=h1.nn;omega)
theorem Hi {M:aD} {ss:List Se} {bs ns:List Nat} {v0 v1:Value} (w0:World) (hs:(((RT.se).ptr).sl).V M w0 ss v0) (hb:(RT.Lc.sl).V M w0 bs v1) (hl:bs.length=ss.length) (hn:ns.length=ss.length) (dA:∀(i b n:Nat),bs[i]? =some b→ns[i]? =some n→∃ws,Hg M w0 n ws b):
  Spec Tryz.prog 56 #[v0,v1] w0 (fun v w=>v= .bool (decide (ss.map (fun s=>s.1.length)=ns))∧w=w0):=by
 have hlen:=dy hs;refine bc (args:=[_,_]) (fn:=Tryz.f56) Tryz.func56 rfl (n:=39) Tryz.ntmps56 (aj (ae (ah rfl rfl (ab (aj (aj (ae (ad rfl rfl (bM eJ rfl hs rfl (ad rfl rfl (bM Tryz.underlying49 rfl hb rfl ?_)))))))))));refine eM rfl rfl rfl (ab (T.tF rfl ((fun h=>h (by rw[hl]))) (aU (aj (aj (ae (ad rfl rfl (bM eJ rfl hs rfl (ad rfl rfl (ab (aZ ?_)))))))))));refine de (σ:=Nat) (fun i=>[(1,v1),(12,v0),(13,.int .i64 (ss.length:Int)),(14,.int .i64 (i:Int))]) (fun i w=>i≤ss.length∧(∀(j:Nat),j<i→∀(s:Se) (n:Nat),ss[j]? =some s→ns[j]? =some n→s.1.length=n)∧w=w0) (fun i=>ss.length-i) 0 (.cons rfl (.cons rfl (.cons rfl (.cons rfl .nil)))) ?_ ?_
 ·exact⟨bE _,(fun j h=>by omega),rfl⟩
 ·rintro i w ⟨hi,l5,rfl⟩;refine aj (ae (cj rfl rfl rfl (ab (aj ?_))));refine bN rfl (fun c4=>?_) (fun c4=>?_)
  ·refine aU (aj (aZ (aj (ae (ad rfl rfl ?_)))));obtain⟨s,Ji⟩:∃s,ss[i]? =some s:=⟨_,ar (by omega)⟩;refine cy (M:=M) eJ O9 rfl rfl rfl hs (aq _ _) (by omega) (fun u5 x_ jc Dw=>?_);rw[ay]at jc;obtain rfl:=aH (Ji.symm.trans jc);refine bT (M:=M) ff rfl rfl rfl rfl rfl Dw (aq _ _) (fun v5 qg=>?_);have hp5:=lF.1 qg;obtain⟨a5,rfl⟩:=hp5.gz;refine ah rfl rfl (ah rfl rfl (ab (aj (ae (ad rfl rfl (Rg.Dg ff rfl ⟨_,rfl⟩ rfl rfl (ad rfl rfl (al rfl rfl (ad rfl rfl (al rfl rfl (ad rfl rfl ?_)))))))))));refine al rfl rfl ?_;obtain⟨b,PN⟩:∃b,bs[i]? =some b:=⟨_,ar (by omega)⟩;refine cy (M:=M) Tryz.underlying49 VY rfl rfl rfl hb (aq _ _) (by omega) (fun u6 x_ jc Gc=>?_);rw[ay]at jc;obtain rfl:=aH (PN.symm.trans jc);refine al rfl rfl ?_;refine bT (M:=M) Tryz.underlying47 rfl rfl rfl rfl rfl Gc (aq _ _) (fun vb Nc=>?_);obtain rfl:=Dn.1 Nc;refine al rfl rfl (Rg.Dg Tryz.underlying47 rfl ⟨_,rfl⟩ rfl rfl (aE rfl rfl rfl (ad rfl rfl (al rfl rfl (ad rfl rfl (al rfl rfl (ad rfl rfl (al rfl rfl ?_))))))));refine cy (M:=M) Tryz.underlying49 VY rfl rfl rfl hb (aq _ _) (by omega) (fun aq8 x_ jc aaD=>?_);rw[ay]at jc;obtain rfl:=aH (PN.symm.trans jc);refine al rfl rfl ?_;refine bT (M:=M) Tryz.underlying47 rfl rfl rfl rfl rfl aaD (aq _ _) (fun vb2 ahP=>?_);obtain rfl:=Dn.1 ahP;refine al rfl rfl ?_;obtain⟨nn,Rv⟩:∃n,ns[i]? =some n:=⟨_,ar (by omega)⟩;obtain⟨ws,Rq⟩:=dA i b nn PN Rv;obtain⟨bw,hsa⟩:=Rq.all;refine aX rfl rfl ahO (JR hsa) (fun r6 w6 hc=>?_);obtain⟨rfl,rfl⟩:=hc;refine al rfl rfl (ad rfl rfl (al rfl rfl ?_));refine aX rfl rfl E34 (vR _ hp5) (fun r7 w7 hc=>?_)
   obtain⟨rfl,rfl⟩:=hc;refine al rfl rfl (eM rfl rfl rfl (aE rfl rfl rfl (ab ?_)));refine bN rfl (fun c6=>?_) (fun c6=>?_)
   ·refine aj (ae (ah rfl rfl (ab (aO ?_))))
    exact aS rfl rfl ⟨congrArg Value.bool (dD (decide_eq_false fun h=>c6 (by
     have h1:=congrArg (·[i]?) h;rw[bC,Ji,Rv]at h1;have h9:s.1.length=nn:=aH h1;omega))),rfl⟩
   ·refine aU (ae (bF rfl rfl rfl (by omega) (ad rfl rfl (ab ?_))));refine⟨rfl,i+1,(.cons rfl (.cons rfl (.cons rfl (.cons rfl .nil)))),?_,?_⟩
    ·refine⟨by omega,fun j hj s' n' h1 h2=>?_,rfl⟩;rcases cI j i with h|h
     ·exact l5 j h s' n' h1 h2
     ·obtain rfl:j=i:=by omega
      rw[Ji]at h1;rw[Rv]at h2;cases h1;cases h2;omega
    ·omega
  ·refine cG (aj (ae (ah rfl rfl (ab (aO ?_)))))
   exact aS rfl rfl ⟨congrArg Value.bool (dD (decide_eq_true (by
    apply eZ;intro j;rw[bC];rcases cI j ss.length with h|h
    ·obtain⟨s,hs⟩:∃s,ss[j]? =some s:=⟨_,ar h⟩;obtain⟨n,Jj⟩:∃n,ns[j]? =some n:=⟨_,ar (by omega)⟩;rw[hs,Jj,dd,l5 j (by omega) s n hs Jj]
    ·rw[dU h,dU (by omega)];rfl))),rfl⟩
end Go.K
namespace Go.K
open Go.Proofs
set_option maxRecDepth 10000
theorem QU {M:aD} {w:World} {x:Po} {v:Value} (h:RT.po.V M w x v):∃u,v= .agg #[.int .i64 x.1,u]∧((RT.int .i64).sl).V M w x.2 u∧(-9223372036854775808≤x.1∧x.1≤9223372036854775807):=by
 obtain⟨vs,⟨va,vb,rfl,⟨rfl,hk⟩,hb⟩,rfl⟩:=h;obtain⟨a,cap,rfl,h2⟩:=hb;exact⟨.slice a x.2.length cap,rfl,⟨_,⟨a,cap,rfl,h2⟩,rfl⟩,hk⟩
theorem aaE {M:aD} {w:World} {x:Int} {ps:List Int} {u:Value} (hx: -9223372036854775808≤x∧x≤9223372036854775807) (hu:((RT.int .i64).sl).V M w ps u):RT.po.V M w (x,ps) (.agg #[.int .i64 x,u]):=eS (fV hx) hu rfl rfl rfl rfl
theorem Hj {M:aD} {l:List Po} {to:List Int} {v0 v1:Value} (w0:World) (hM:Lt M w0) (hv:(RT.po.sl).V M w0 l v0) (ht:((RT.int .i64).sl).V M w0 to v1) (hl:l.length≤1000000) (kq:∀p∈l,0≤p.1∧p.1<to.length):
  Spec Tryz.prog 63 #[v0,v1] w0 (fun v w=>∃M',Own RT.po 83 M' w w0.heap.size v (kV to l)∧Lt M' w∧Step M w0 M' w aC):=by
 have jM:=hM;refine bc (args:=[_,_]) (fn:=Tryz.f63) Tryz.func63 rfl (n:=33) Tryz.ntmps63 ?_;have S:Step M w0 M w0 aC:=(aw _ _).cA (fun _ h=>h.elim) (fun _ h=>h.elim);refine aj (ae (ah rfl rfl (ab (aj (ae (ah rfl rfl (ab (aj (aj (ae (ad rfl rfl ?_)))))))))));refine bM br rfl hv rfl (ad rfl rfl (ab (aZ ?_)));refine de (σ:=Nat×Value) (fun q=>[(1,v1),(5,q.2),(8,v0),(9,.int .i64 (l.length:Int)),(10,.int .i64 (q.1:Int))]) (fun q w=>q.1≤l.length∧∃M1,Lt M1 w∧(RT.po.sl).V M1 w l v0∧((RT.int .i64).sl).V M1 w to v1∧Own RT.po 83 M1 w w0.heap.size q.2 (kV to (l.take q.1))∧Step M w0 M1 w aC) (fun q=>l.length-q.1) (0,.slice none 0 0) (.cons rfl (.cons rfl (.cons rfl (.cons rfl (.cons rfl .nil))))) ?_ ?_
 ·exact⟨bE _,_,hM,hv,ht,dF _ _ _ _ _,S⟩
 ·clear hM hv ht S;rintro⟨i,u⟩ w ⟨hi,M1,hM,hv,ht,ho,S⟩;dsimp only at hi ho ⊢;have sK:=fun b hb=>(ho.base b hb).2
  refine aj (ae (cj rfl rfl rfl (ab (aj ?_))));refine bN rfl (fun c3=>?_) (fun c3=>?_)
  ·refine aU (aj (aZ (aj (ae ?_))));obtain⟨p,hk⟩:∃p,l[i]? =some p:=⟨_,ar (by omega)⟩;obtain⟨hp0,tz⟩:=kq p (aA hk);have RM:l.take (i+1)=l.take i++[p]:=by rw[bK,hk];rfl
   have ql:=tv to (l.take i);have ara:(l.take i).length=i:=by rw[bH];omega
   refine cy (M:=M1) br lM rfl rfl rfl hv (aq _ _) (by omega) (fun u40 y aaF ahQ=>?_);rw[ay]at aaF;obtain rfl:=aH (hk.symm.trans aaF);refine cX (M:=M1) (A:=RT.po) bI rfl lM (by decide) rfl rfl rfl ahQ (aq _ _) (fun v41 xB=>?_);obtain⟨ux,rfl,Fx,hpr⟩:=QU xB;obtain⟨ua,uc,rfl,_,_,_⟩:=iD.1 Fx;refine dP M1 lM rfl (fun QV PO arb arc lQ my=>?_);obtain⟨uB,N6⟩:∃M',M'=ins M1 QV:=⟨_,rfl⟩;rw[←N6]at my;have nK:uB QV:=by rw[N6];exact .inl rfl
   change PO.heap[QV]? =some (.cells #[.int .i64 0,.slice none 0 0] _ _)at lQ;replace hv:=hv.le my.le;replace ht:=ht.le my.le;replace xB:=xB.le my.le;replace Fx:=Fx.le my.le;replace ho:=ho.aP my;replace hM:=my.lt hM;have:=S.size;replace S:=S.aB my;refine dC (M:=uB) (vs:=[.int .i64 p.1,.slice ua p.2.length uc]) lM rfl rfl (vN rfl xB) rfl rfl lQ nK (fun w43 g43 QW=>?_);have:=ak lQ;replace nK:=(QW.mem _ this).2 nK;replace hv:=hv.le QW.le;replace ht:=ht.le QW.le;replace xB:=xB.le QW.le;replace Fx:=Fx.le QW.le;replace ho:=ho.step QW (fun b hb hk=>by have hk:b=QV:=hk;have:=sK b hb;omega);replace hM:=QW.lt hM;have:=S.size;replace S:=S.trans QW (fun k hk h=>by have h:_=_:=h;subst h;first|(exfalso;omega)|(show _≤_;omega)|exact⟨by first|omega|assumption,(S.mem _ hk).1 ((QW.mem _ (ak lQ)).1 nK)⟩|exact .inl rfl|exact .inr rfl|exact .inr (.inl rfl)|exact .inr (.inr rfl)|exact .inr (.inr (.inl rfl))|exact rfl);have SD:=g43;clear lQ;have lQ:=SD;clear SD;refine ab (aj (ae (ad rfl rfl (bG (o':=0) bI rfl rfl I3 (by decide) rfl rfl (aM ax rfl rfl rfl lQ rfl (aV (v':= .int .i64 p.1) rfl ?_))))));refine cy (M:=uB) an I3 rfl rfl rfl ht (aq _ _) (by omega) (fun u53 x53 ahR ahS=>?_);refine bT (M:=uB) ax rfl rfl rfl rfl rfl ahS (aq _ _) (fun v53 ahT=>?_);obtain⟨rfl,arh⟩:=x5.1 ahT;obtain rfl:to.getD p.1.toNat 0=x53:=by rw[az,ahR];rfl
   refine dV rfl rfl rfl (ab ?_);refine bN rfl (fun c5=>?_) (fun c5=>?_)
   ·apply T.pJ 9 [0] 1 aC mixed rfl rfl rfl rfl;intro wD6 QX;have tB:=QX uB;have:=ak lQ;replace nK:=(tB.mem _ this).2 nK;replace lQ:=tB.aK lQ;replace hv:=hv.le tB.le;replace ht:=ht.le tB.le;replace xB:=xB.le tB.le;replace Fx:=Fx.le tB.le;replace ho:=ho.aP tB;replace hM:=tB.lt hM;have:=S.size;replace S:=S.aB tB;refine ad rfl rfl ?_;refine ab ⟨rfl,rfl,rfl,?_⟩;refine ad rfl rfl ?_;refine ab ⟨rfl,rfl,rfl,?_⟩;refine bG (o':=0) bI rfl rfl I3 (by decide) rfl rfl ?_;refine ab ⟨rfl,rfl,rfl,?_⟩;refine aM ax rfl rfl rfl lQ rfl (aV (v':= .int .i64 p.1) rfl ?_);refine ab ⟨rfl,rfl,rfl,?_⟩;refine cy (M:=uB) an I3 rfl rfl rfl ht (aq _ _) (by omega) (fun u64 x64 ahU ahV=>?_);refine ab ⟨rfl,rfl,rfl,?_⟩;refine bT (M:=uB) ax rfl rfl rfl rfl rfl ahV (aq _ _) (fun v64 ahW=>?_);obtain⟨rfl,ahX⟩:=x5.1 ahW;obtain rfl:to.getD p.1.toNat 0=x64:=by rw[az,ahU];rfl
    refine ab ⟨rfl,rfl,rfl,?_⟩;refine bG (o':=1) bI rfl rfl jL (by decide) rfl rfl ?_;refine ab ⟨rfl,rfl,rfl,?_⟩;refine aM an rfl rfl rfl lQ rfl (aV (v':= .slice ua p.2.length uc) rfl ?_);refine ab ⟨rfl,rfl,rfl,?_⟩;refine iC (places:=[(0,1),(1,1)]) bI lM X3 rfl ⟨_,_,rfl,rfl,_,_,rfl,rfl,rfl⟩ (out:=[_,_]) ⟨0,[_],rfl,rfl,by simp[Value.cells],1,[_],rfl,rfl,by simp[Value.cells],rfl⟩ ?_;refine ab ⟨rfl,rfl,rfl,?_⟩;refine ew ?_;refine⟨iB ⟨gP,trivial⟩,?_⟩;have kp:=jF aC wD6;refine ed (A:=RT.po) (hn:=by decide) (M:=uB) br lM (by decide) rfl rfl hM (aaE (ps:=p.2) ahX Fx) (.inl rfl) (fun arj ark N7 Cw=>?_);have:=ak lQ;replace nK:=(Cw.mem _ this).2 nK;replace lQ:=Cw.aK lQ;replace hv:=hv.le Cw.le;replace ht:=ht.le Cw.le;replace xB:=xB.le Cw.le;replace Fx:=Fx.le Cw.le;replace ho:=ho.aP Cw;replace hM:=Cw.lt hM;have:=S.size;replace S:=S.aB Cw;refine(fun(kp:eF _ _ _)=>ab ⟨rfl,rfl,fun _=>kp,?_⟩) (by first|exact kp|exact kp.rB (by assumption)|exact kp.goN (by assumption)|exact kp.go (by assumption) (fun _ _ h=>by first|exact h|exact h.elim));refine cZ (M:=uB) (base:=w0.heap.size) br lM rfl rfl rfl rfl ho N7 (aq _ _) (by show _+1≤_;omega) (by show(_+1)*_≤_;omega) (S.size) (fun aaH al6 al7 VZ uC=>?_);have:=ak lQ;replace nK:=(uC.mem _ this).2 nK;replace lQ:=uC.keep lQ (fun h=>by have:=sK _ h;omega);replace hv:=hv.le uC.le;replace ht:=ht.le uC.le;replace xB:=xB.le uC.le;replace Fx:=Fx.le uC.le;replace N7:=N7.le uC.le;replace hM:=uC.lt hM;have:=S.size;replace S:=S.dg uC ho (aT _);replace ho:=VZ;refine ab ⟨rfl,rfl,fun h=>absurd rfl h,?_⟩;refine ah rfl rfl ?_;refine ab ⟨rfl,rfl,fun h=>absurd rfl h,?_⟩;refine mN (ae (bF rfl rfl rfl (by omega) (ad rfl rfl (ab ?_))))
    refine⟨rfl,(i+1,aaH),(.cons rfl (.cons rfl (.cons rfl (.cons rfl (.cons rfl .nil))))),?_,?_⟩
    ·exact⟨by dsimp only;omega,_,hM,hv,ht,by dsimp only;rw[RM,zE,if_pos c5];exact ho,S⟩
    ·dsimp only;omega
   ·refine aU (ae (bF rfl rfl rfl (by omega) (ad rfl rfl (ab ?_))));refine⟨rfl,(i+1,u),(.cons rfl (.cons rfl (.cons rfl (.cons rfl (.cons rfl .nil))))),?_,?_⟩
    ·exact⟨by dsimp only;omega,_,hM,hv,ht,by dsimp only;rw[RM,zE,if_neg c5];exact ho,S⟩
    ·dsimp only;omega
  ·refine cG (aj (ae (ad rfl rfl (ah rfl rfl (ab (aO ?_))))));rw[aW (by omega)]at ho;exact aS rfl rfl ⟨_,ho,hM,S⟩
end Go.K
namespace Go.Proofs
open Go.Shelf
def Tryz.Hk:Go.Shelf.Ren:=⟨fun|6=>64|15=>115|14=>114|28=>172|29=>173|20=>164|21=>165|22=>166|23=>167|24=>168|25=>169|26=>170|27=>171|46=>217|47=>218|48=>219|49=>220|50=>221|57=>262|n=>n,fun|22=>80|24=>83|25=>129|3=>3|39=>189|0=>0|53=>257|55=>190|4=>4|46=>251|45=>250|50=>202|5=>5|9=>9|66=>296|70=>300|76=>327|77=>328|n=>n,fun|n=>n⟩
theorem Tryz.V0:Go.Proofs.SlLaysF0.n6 Tryz.prog Tryz.Hk:={
 mixed:=by kernel_rfl
 f6:=⟨Tryz.f64.name,by decide,Tryz.func64.trans (congrArg some (by kernel_rfl))⟩
 f14:=⟨Tryz.f114.name,by decide,Tryz.func114.trans (congrArg some (by kernel_rfl))⟩
 f15:=Tryz.func115.trans (congrArg some (by kernel_rfl))
 f20:=⟨Tryz.f164.name,by decide,Tryz.func164.trans (congrArg some (by kernel_rfl))⟩
 f21:=⟨Tryz.f165.name,by decide,Tryz.func165.trans (congrArg some (by kernel_rfl))⟩
 f22:=⟨Tryz.f166.name,by decide,Tryz.func166.trans (congrArg some (by kernel_rfl))⟩
 f23:=⟨Tryz.f167.name,by decide,Tryz.func167.trans (congrArg some (by kernel_rfl))⟩
 f24:=⟨Tryz.f168.name,by decide,Tryz.func168.trans (congrArg some (by kernel_rfl))⟩
 f25:=⟨Tryz.f169.name,by decide,Tryz.func169.trans (congrArg some (by kernel_rfl))⟩
 f26:=⟨Tryz.f170.name,by decide,Tryz.func170.trans (congrArg some (by kernel_rfl))⟩
 f27:=⟨Tryz.f171.name,by decide,Tryz.func171.trans (congrArg some (by kernel_rfl))⟩
 f28:=Tryz.func172.trans (congrArg some (by kernel_rfl))
 f29:=Tryz.func173.trans (congrArg some (by kernel_rfl))
 f46:=⟨Tryz.f217.name,by decide,Tryz.func217.trans (congrArg some (by kernel_rfl))⟩
 f47:=Tryz.func218.trans (congrArg some (by kernel_rfl))
 f48:=Tryz.func219.trans (congrArg some (by kernel_rfl))
 f49:=⟨Tryz.f220.name,by decide,Tryz.func220.trans (congrArg some (by kernel_rfl))⟩
 f50:=⟨Tryz.f221.name,by decide,Tryz.func221.trans (congrArg some (by kernel_rfl))⟩
 f57:=⟨Tryz.f262.name,by decide,Tryz.func262.trans (congrArg some (by kernel_rfl))⟩
 t0:=fD
 a0:=lB
 z0:=j6
 v0:=gG
 t3:=ax
 a3:=lC
 z3:=j7
 v3:=gH
 t4:=iO
 a4:=rO
 z4:=nW
 v4:=jv
 t5:=cx
 a5:=Tryz.isAgg5
 z5:=Tryz.sizeOf5
 v5:=tC
 t9:=aJ
 a9:=lD
 z9:=j8
 v9:=gI
 t22:=br
 a22:=Tryz.isAgg80
 z22:=Tryz.sizeOf80
 v22:=Tryz.zeroValue80
 t25:=Tryz.underlying129
 a25:=Tryz.isAgg129
 z25:=Tryz.sizeOf129
 v25:=Tryz.zeroValue129
 t39:=jQ
 a39:=Tryz.isAgg189
 z39:=Tryz.sizeOf189
 v39:=Tryz.zeroValue189
 t45:=Tryz.underlying250
 a45:=Tryz.isAgg250
 z45:=Tryz.sizeOf250
 v45:=Tryz.zeroValue250
 t46:=Tryz.underlying251
 a46:=Tryz.isAgg251
 z46:=Tryz.sizeOf251
 v46:=Tryz.zeroValue251
 t50:=Tryz.underlying202
 a50:=Tryz.isAgg202
 z50:=Tryz.sizeOf202
 v50:=Tryz.zeroValue202
 t53:=Tryz.underlying257
 a53:=Tryz.isAgg257
 z53:=Tryz.sizeOf257
 v53:=Tryz.zeroValue257
 t55:=sC
 a55:=Tryz.isAgg190
 z55:=Tryz.sizeOf190
 v55:=Tryz.zeroValue190
 t66:=Tryz.underlying296
 a66:=Tryz.isAgg296
 z66:=Tryz.sizeOf296
 v66:=Tryz.zeroValue296
 t70:=Tryz.underlying300
 a70:=Tryz.isAgg300
 z70:=Tryz.sizeOf300
 v70:=Tryz.zeroValue300
 t76:=Tryz.underlying327
 a76:=Tryz.isAgg327
 z76:=Tryz.sizeOf327
 v76:=Tryz.zeroValue327
 t77:=Tryz.underlying328
 a77:=Tryz.isAgg328
 z77:=Tryz.sizeOf328
 v77:=Tryz.zeroValue328}
end Go.Proofs
namespace Go.K
open Go.Proofs
namespace TKSmall11
theorem E66:Enters Tryz.prog 66:=enters Tryz.func66 rfl (by decide)
theorem VL:Enters Tryz.prog 116:=enters Tryz.func116 rfl (by decide)
end TKSmall11
open TKSmall11
set_option maxRecDepth 10000
theorem zK {w0:World} {x:Int}:
  Spec Tryz.prog 116 #[.int .i64 x] w0 (fun v' w'=>v'= .bool (decide False)∧w0=w'):=by
 refine bc (args:=[_]) (fn:=Tryz.f116) Tryz.func116 rfl (n:=6) Tryz.ntmps116 (aj (ae (ah rfl rfl (ab (aj (ae (ad rfl rfl (ad rfl rfl (eM rfl rfl rfl (ah rfl rfl (ab ?_)))))))))));refine aO ?_;exact aS rfl rfl ⟨congrArg Value.bool (by simp),rfl⟩
theorem uD {w0:World} {x y:Int}:
  Spec Tryz.prog 66 #[.int .i64 x,.int .i64 y] w0 (fun v' w'=>v'= .int .i64 (if x<y then-1 else if x>y then 1 else 0)∧w0=w'):=by
 refine bc (args:=[_,_]) (fn:=Tryz.f66) Tryz.func66 rfl (n:=20) Tryz.ntmps66 (aj (ae (ah rfl rfl (ab (aj (ae (ad rfl rfl ?_)))))));refine aX rfl rfl VL (zK) (fun r wc h=>?_);obtain⟨rfl,rfl⟩:=h;refine ah rfl rfl (ab (aj (ae (ad rfl rfl ?_))));refine aX rfl rfl VL (zK) (fun r wc h=>?_);obtain⟨rfl,rfl⟩:=h;refine ah rfl rfl (ab (aj (aj (ae (ad rfl rfl (ab (T.tF rfl ((fun h=>h)) (aU (aj (aj (ae ?_)))))))))));refine ad rfl rfl (ab (T.tF rfl ((fun h=>h)) (aU (aj (aj (ae (ad rfl rfl (ad rfl rfl (cj rfl rfl rfl (ab ?_))))))))));refine bN rfl (fun c9=>?_) (fun c9=>?_)
 ·refine aj (ae (ah rfl rfl (ab (aO ?_))));exact aS rfl rfl ⟨by rw[if_pos c9],rfl⟩
 ·refine aU (aj (aj (ae (ad rfl rfl (ad rfl rfl (jd rfl rfl rfl (ab ?_)))))));refine bN rfl (fun F8=>?_) (fun F8=>?_)
  ·refine aj (ae (ah rfl rfl (ab (aO ?_))));exact aS rfl rfl ⟨by rw[if_neg c9,if_pos F8],rfl⟩
  ·refine aU (aj (ae (ah rfl rfl (ab (aO ?_)))));exact aS rfl rfl ⟨by rw[if_neg c9,if_neg F8],rfl⟩
noncomputable instance {xs:List Int}:Decidable (∀i,i+1<xs.length→xs.getD i 0≤xs.getD (i+1) 0):=Classical.propDecidable _
theorem ir {l:List Int} {i:Nat} {x:Int} (h:l[i]? =some x):l.getD i 0=x:=by rw[az,h];rfl
theorem AF {M:aD} {w0:World} {v:Value} {xs:List Int} (hv:((RT.int .i64).sl).V M w0 xs v) (tG:0<xs.length):
  Spec Tryz.prog 157 #[v,.func (.func 66) #[] #[]] w0 (fun v' w'=>v'= .bool (decide (∀i,i+1<xs.length→xs.getD i 0≤xs.getD (i+1) 0))∧Step M w0 M w' aC):=by
 have hlen:=dy hv;refine bc (args:=[_,_]) (fn:=Tryz.f157) Tryz.func157 rfl (n:=25) Tryz.ntmps157 (aj (ae (ah rfl rfl (ab (aj (aj (ae (ad rfl rfl (bM an rfl hv rfl (fe rfl rfl rfl (by omega) (aV (v':= .int .i64 ((xs.length-1:Nat):Int)) (congrArg _ (by omega)) ?_)))))))))));refine ah rfl rfl (ab (aZ ?_));refine de (σ:=Nat) (fun s=>[(0,v),(1,.func (.func 66) #[] #[]),(5,.int .i64 s)]) (fun s w=>s<xs.length∧(∀t,s≤t→t+1<xs.length→xs.getD t 0≤xs.getD (t+1) 0)∧Step M w0 M w aC) (fun s=>s) (xs.length-1) (.cons rfl (.cons rfl (.cons rfl .nil))) ?_ ?_
 ·exact⟨by omega,fun t h1 h2=>by omega,aw _ _⟩
 ·rintro k w1 ⟨hk,hs,S⟩;refine aj (aj (ae (ad rfl rfl (jd rfl rfl rfl (ab ?_)))));refine bN rfl (fun c2=>?_) (fun c2=>?_)
  ·refine aU (aj (aZ (aj ?_)));obtain⟨x,hx⟩:∃x,(xs)[k]? =some x:=⟨_,ar (by omega)⟩;obtain⟨y,hy⟩:∃x,(xs)[k-1]? =some x:=⟨_,ar (by omega)⟩;apply T.KM 10 mixed rfl rfl rfl rfl rfl;intro wD4 Zn;have Bi:=Zn M;refine ad rfl rfl ?_;refine ab ⟨rfl,rfl,rfl,?_⟩;refine ad rfl rfl ?_;refine ab ⟨rfl,rfl,rfl,?_⟩;refine ad rfl rfl ?_;refine ab ⟨rfl,rfl,rfl,?_⟩;refine cy (M:=M) an I3 rfl rfl rfl ((hv.le S.le).le Bi.le) (aq _ _) (by first|omega|decide) (fun TZ V1 N8 aaI=>?_);obtain rfl:x=V1:=dD (aH (N8.symm.trans (by rw[ay];exact hx)));refine ab ⟨rfl,rfl,rfl,?_⟩;refine cb (M:=M) ax rfl rfl (by assumption) (by repeat (first|exact aq _ _|refine a8 (bD (by assumption)) ?_)) (fun SE=>?_);refine aV (v':= .int .i64 (x)) rfl ?_;replace SE: -9223372036854775808≤(x:Int)∧x≤9223372036854775807:=SE;refine ab ⟨rfl,rfl,rfl,?_⟩;refine ad rfl rfl ?_;refine ab ⟨rfl,rfl,rfl,?_⟩;refine ad rfl rfl ?_;refine ab ⟨rfl,rfl,rfl,?_⟩;refine fe rfl rfl rfl (by omega) ?_;refine ab ⟨rfl,rfl,rfl,?_⟩;refine cy (M:=M) an I3 rfl rfl rfl ((hv.le S.le).le Bi.le) (aq _ _) (by first|omega|decide) (fun arl ahZ aaJ al8=>?_);obtain rfl:y=ahZ:=dD (aH (aaJ.symm.trans (by rw[show((k:Int)-1).toNat=k-1 from by omega];exact hy)));refine ab ⟨rfl,rfl,rfl,?_⟩;refine cb (M:=M) ax rfl rfl (by assumption) (by repeat (first|exact aq _ _|refine a8 (bD (by assumption)) ?_)) (fun SF=>?_);refine aV (v':= .int .i64 (y)) rfl ?_;replace SF: -9223372036854775808≤(y:Int)∧y≤9223372036854775807:=SF;refine ab ⟨rfl,rfl,rfl,?_⟩;refine ew ?_;refine rr (first:=[]) (captured:=[]) rfl rfl rfl E66 uD (fun r w1 h=>?_);obtain⟨rfl,rfl⟩:=h;refine cj rfl rfl rfl (ab ?_);refine bN rfl (fun c4=>?_) (fun c4=>?_)
   ·have hgt: ¬(y≤x):=fun h=>by
     first
     |omega
     |(split at c4<;>first|omega|(split at c4<;>omega))
    refine aj (ae (ah rfl rfl (ab (aO ?_))))
    exact aS rfl rfl ⟨congrArg Value.bool (dD (decide_eq_false fun h=>by
     have:=h (k-1) (by omega);rw[show k-1+1=k from by omega,ir hx,ir hy]at this;exact hgt this)),S.aB Bi⟩
   ·have hle:y≤x:=by
     first
     |omega
     |(split at c4<;>first|omega|(split at c4<;>omega))
    refine aU (ae (ad rfl rfl (fe rfl rfl rfl (by omega) (ah rfl rfl (ab ?_)))));refine⟨rfl,k-1,(.cons rfl (.cons rfl (.cons (congrArg (fun z=>some (Value.int .i64 z)) (by omega)) .nil))),?_,?_⟩
    ·refine⟨by omega,fun t h1 h2=>?_,S.aB Bi⟩;by_cases e:t=k-1
     ·subst e;rw[show k-1+1=k from by omega,ir hx,ir hy];exact hle
     ·exact hs t (by omega) h2
    ·show k-1<k;omega
  ·refine cG (aj (ae (ah rfl rfl (ab (aO ?_)))));exact aS rfl rfl ⟨congrArg Value.bool (dD (decide_eq_true fun i hi=>hs i (by omega) hi)),S⟩
theorem EZ {M:aD} {w0:World} {v:Value} {xs:List Int} (hM:Lt M w0) (hv:((RT.int .i64).sl).V M w0 xs v) (hl:xs.length≤1099511627776):
  Spec Tryz.prog 51 #[v] w0 (fun v' w'=>∃M',Own (RT.int .i64) 3 M' w' w0.heap.size v' xs∧Lt M' w'∧Step M w0 M' w' aC):=by
 obtain⟨a,cap,lP,hc,hlen,hs⟩:=iD.1 hv;refine bc (args:=[_]) (fn:=Tryz.f51) Tryz.func51 rfl (n:=8) Tryz.ntmps51 (aj (ae (ah rfl rfl (ab (aj (aj (ae (ad rfl rfl (aV (v':= .slice a xs.length cap) lP (Rg.tP an rfl rfl rfl (ab ?_)))))))))));refine bN rfl (fun c1=>?_) (fun c1=>?_)
 ·refine aj (ae (ah rfl rfl (ab (aO ?_))))
  obtain rfl:xs=[]:=by
   rcases hs with h|⟨b,o,h,_⟩
   ·exact h
   ·rw[c1]at h;cases h
  exact aS rfl rfl ⟨M,dF _ _ _ _ _,hM,aw _ _⟩
 ·refine aU (aj (ae ?_));refine Rg.XY an I3 M rfl (fun g w1 z1 z1' g1 s1=>?_);have nS:=s1.lt hM;refine ad rfl rfl ?_;refine cZ (M:=ins M g) (base:=w0.heap.size) an I3 rfl rfl rfl rfl (Own.empty g1 z1 (.inl rfl)) (hv.le s1.le) (aq _ _) (by simp;omega) (by simp;omega) (by have:=s1.size;omega) (fun v2 M2 w2 tq s2=>?_);refine ah rfl rfl (ab (aO ?_));exact aS rfl rfl ⟨M2,by rw[fK]at tq;exact tq,s2.lt nS,s1.cd s2 (fun b hb=>by have hb:b=g:=(aH hb).symm;rw[hb];exact z1)⟩
theorem Cx {M:aD} {w0:World} {base:Nat} {v:Value} {xs:List Int} (ho:Own (RT.int .i64) 3 M w0 base v xs) (hl:xs.length≤1099511627776):
  Spec Tryz.prog 158 #[v] w0 (fun v' w'=>∃a k cap,v'= .slice a k cap∧(k=xs.length↔(∀i,i+1<xs.length→xs.getD i 0≠xs.getD (i+1) 0))∧Step M w0 M w' (fz v)):=by
 refine bc (args:=[_]) (fn:=Tryz.f158) Tryz.func158 rfl (n:=61) Tryz.ntmps158 (aj (ae (ah rfl rfl (ab (aj (aj (ae (ad rfl rfl (fM an rfl ho rfl (cj rfl rfl rfl (ab ?_)))))))))));refine bN rfl (fun c1=>?_) (fun c1=>?_)
 ·refine aj (ae (ad rfl rfl (ah rfl rfl (ab (aO ?_)))));obtain⟨a,cap,rfl,hc⟩:=ho.isSlice;exact aS rfl rfl ⟨a,xs.length,cap,rfl,⟨fun _ i hi=>by omega,fun _=>rfl⟩,(aw _ _).cA (fun _ h=>h.elim) (fun b hb=>ho.mut_ b hb)⟩
 ·obtain⟨g,cap,cur,rfl,Tq,QP,EN⟩:=ho.vB (ho.Cs (by omega));obtain⟨_,ya,vG,tA⟩:=ho.isSlice;simp only[fQ]at vG;have lv:xs.length≤cap:=by omega
  have hN:∀b,b=g→fz (.slice (some ⟨g,0,none⟩) xs.length cap) b:=fun b hb=>by rw[hb];rfl
  refine aU (aj (aj (ae (ah rfl rfl (ab (aZ ?_))))));refine de (σ:=Nat) (fun s=>[(0,.slice (some ⟨g,0,none⟩) xs.length cap),(3,.int .i64 s)]) (fun s w=>1≤s∧s≤xs.length∧(∀i,i+1<s→xs.getD i 0≠xs.getD (i+1) 0)∧Step M w0 M w aC) (fun s=>xs.length-s) 1 (.cons rfl (.cons rfl .nil)) ?_ ?_
  ·exact⟨aT _,by omega,fun i hi=>by omega,aw _ _⟩
  ·rintro k w1 ⟨tL,hk,j9,S⟩;refine aj (aj (ae (ad rfl rfl (ad rfl rfl (Rg.mn an rfl rfl (cj rfl rfl rfl (ab ?_)))))));refine bN rfl (fun c4=>?_) (fun c4=>?_)
   ·refine aU (aj (aZ (aj ?_)));obtain⟨a,hx⟩:∃x,(xs)[k]? =some x:=⟨_,ar (by omega)⟩;obtain⟨b,hy⟩:∃x,(xs)[k-1]? =some x:=⟨_,ar (by omega)⟩;apply mQ mixed rfl rfl;intro wD6 QX;have tB:=QX M;refine ad rfl rfl ?_;refine ab ⟨rfl,rfl,rfl,?_⟩;refine ad rfl rfl ?_;refine ab ⟨rfl,rfl,rfl,?_⟩;refine wz (size:=1) an I3 rfl rfl rfl (by omega) (q:=k) (by rw[ay];omega) ?_;refine ab ⟨rfl,rfl,rfl,?_⟩;refine cb (M:=fun b=>M b∧b≠g) ax rfl rfl (((ho.aP S).aP tB).K5 hx) (aq _ _) (fun kq=>?_);refine ab ⟨rfl,rfl,rfl,?_⟩;refine ad rfl rfl ?_;refine ab ⟨rfl,rfl,rfl,?_⟩;refine ad rfl rfl ?_;refine ab ⟨rfl,rfl,rfl,?_⟩;refine fe rfl rfl rfl (by omega) ?_;refine ab ⟨rfl,rfl,rfl,?_⟩;refine wz (size:=1) an I3 rfl rfl rfl (by omega) (q:=k-1) (by omega) ?_;refine ab ⟨rfl,rfl,rfl,?_⟩;refine cb (M:=fun b=>M b∧b≠g) ax rfl rfl (((ho.aP S).aP tB).K5 hy) (aq _ _) (fun kq=>?_);refine ab ⟨rfl,rfl,rfl,?_⟩;refine nX rfl rfl rfl ?_;refine ab ⟨rfl,rfl,rfl,?_⟩;refine ew ?_;refine bN rfl (fun c6=>?_) (fun c6=>?_)
    ·refine aj (ae (ad rfl rfl (ad rfl rfl (Rg.K3 an I3 rfl rfl rfl (by omega) (aV (v':= .slice (some ⟨g,k,none⟩) (xs.length-k) (cap-k)) (by rw[ay,eG]) (ah rfl rfl (ab (aj (aj (ae (ah rfl rfl ?_)))))))))));refine ab (aZ ?_);refine de (σ:=Nat×Nat) (fun s=>[(0,.slice (some ⟨g,0,none⟩) xs.length cap),(3,.int .i64 s.2),(4,.slice (some ⟨g,k,none⟩) (xs.length-k) (cap-k)),(5,.int .i64 s.1)]) (fun s w=>1≤s.1∧s.1≤xs.length-k∧k≤s.2∧s.2+1≤k+s.1∧∃ys,Own (RT.int .i64) 3 M w base (.slice (some ⟨g,0,none⟩) xs.length cap) ys∧ys.length=xs.length∧Step M w0 M w (fz (.slice (some ⟨g,0,none⟩) xs.length cap))) (fun s=>xs.length-k-s.1) (1,k) (.cons rfl (.cons rfl (.cons rfl (.cons rfl .nil)))) ?_ ?_
     ·exact⟨aT _,by simp only;omega,aT _,aT _,xs,(ho.aP S).aP tB,rfl,(S.aB tB).cA (fun _ h=>h.elim) (fun b hb=>ho.mut_ b hb)⟩
     ·rintro⟨k2,kk⟩ w2 ⟨h21,h22,ah0,ah1,ys,tq,FU,S2⟩;dsimp only at h21 h22 ah0 ah1 tq ⊢;refine aj (aj (ae (ad rfl rfl (ad rfl rfl (Rg.mn an rfl rfl (cj rfl rfl rfl (ab ?_)))))));refine bN rfl (fun c9=>?_) (fun c9=>?_)
      ·refine aU (aj (aZ (aj ?_)));obtain⟨a2,hx⟩:∃x,(ys)[k+k2]? =some x:=⟨_,ar (by omega)⟩;obtain⟨b2,hy⟩:∃x,(ys)[k+k2-1]? =some x:=⟨_,ar (by omega)⟩;apply mQ mixed rfl rfl;intro MT MU;have jh:=MU M;refine ad rfl rfl ?_;refine ab ⟨rfl,rfl,rfl,?_⟩;refine ad rfl rfl ?_;refine ab ⟨rfl,rfl,rfl,?_⟩;refine wz (size:=1) an I3 rfl rfl rfl (by omega) (q:=k+k2) (by rw[ay];omega) ?_;refine ab ⟨rfl,rfl,rfl,?_⟩;refine cb (M:=fun b=>M b∧b≠g) ax rfl rfl ((tq.aP jh).K5 hx) (aq _ _) (fun kq=>?_);refine ab ⟨rfl,rfl,rfl,?_⟩;refine ad rfl rfl ?_;refine ab ⟨rfl,rfl,rfl,?_⟩;refine ad rfl rfl ?_;refine ab ⟨rfl,rfl,rfl,?_⟩;refine fe rfl rfl rfl (by omega) ?_;refine ab ⟨rfl,rfl,rfl,?_⟩;refine wz (size:=1) an I3 rfl rfl rfl (by omega) (q:=k+k2-1) (by omega) ?_;refine ab ⟨rfl,rfl,rfl,?_⟩;refine cb (M:=fun b=>M b∧b≠g) ax rfl rfl ((tq.aP jh).K5 hy) (aq _ _) (fun kq=>?_);refine ab ⟨rfl,rfl,rfl,?_⟩;refine eM rfl rfl rfl ?_;refine ab ⟨rfl,rfl,rfl,?_⟩;refine ew ?_;refine bN rfl (fun F8=>?_) (fun F8=>?_)
       ·refine aj (ae (ad rfl rfl (ad rfl rfl (ad rfl rfl (ad rfl rfl (wz (size:=1) an I3 rfl rfl rfl (by omega) (q:=k+k2) (by rw[ay];omega) ?_))))));refine cb (M:=fun b=>M b∧b≠g) ax rfl rfl ((tq.aP jh).K5 hx) (aq _ _) (fun kq=>?_);refine wz (size:=1) an I3 rfl rfl rfl (by omega) (q:=kk) (by rw[ay];omega) ?_;refine Rg.K4 (M:=M) I3 rfl rfl (tq.aP jh) (by omega) kq (fun w5 ho5 s5=>?_);refine ab (ae (ad rfl rfl (bF rfl rfl rfl (by omega) (ah rfl rfl (ab (ae (ad rfl rfl (bF rfl rfl rfl (by omega) (ah rfl rfl (ab ?_))))))))));refine⟨rfl,(k2+1,_),(.cons rfl (.cons rfl (.cons rfl (.cons rfl .nil)))),?_,?_⟩
        ·first
         |exact⟨by simp only;omega,by simp only;omega,by simp only;omega,by simp only;omega,_,ho5,by rw[fm];exact FU,(S2.aB jh).trans s5 (fun b _ hb=>hN b hb)⟩
         |exact⟨by simp only;omega,by simp only;omega,by simp only;omega,by simp only;omega,ys,tq.aP jh,FU,S2.aB jh⟩
        ·simp only;omega
       ·refine aU (ae (ad rfl rfl (bF rfl rfl rfl (by omega) (ah rfl rfl (ab ?_)))));refine⟨rfl,(k2+1,_),(.cons rfl (.cons rfl (.cons rfl (.cons rfl .nil)))),?_,?_⟩
        ·first
         |exact⟨by simp only;omega,by simp only;omega,by simp only;omega,by simp only;omega,_,ho5,by rw[fm];exact FU,(S2.aB jh).trans s5 (fun b _ hb=>hN b hb)⟩
         |exact⟨by simp only;omega,by simp only;omega,by simp only;omega,by simp only;omega,ys,tq.aP jh,FU,S2.aB jh⟩
        ·simp only;omega
      ·refine cG (aj (ae (ad rfl rfl (ad rfl rfl (Rg.K3 an I3 rfl rfl rfl (by omega) (aV (v':= .slice (some ⟨g,kk,none⟩) (xs.length-kk) (cap-kk)) (by rw[ay,eG]) ?_))))));refine Rg.TT (M:=M) an I3 rfl tq (by omega) (by omega) (by decide) (fun w6 ue s6=>?_);refine ab (aj (ae (ad rfl rfl (ad rfl rfl (Rg.TQ an I3 rfl rfl rfl (by omega) (aV (v':= .slice (some ⟨g,0,none⟩) kk cap) (by rw[ay]) (ah rfl rfl (ab (aO ?_)))))))));exact aS rfl rfl ⟨_,kk,cap,rfl,⟨fun h=>by omega,fun h=>absurd (h (k-1) (by omega)) (by rw[show k-1+1=k from by omega,ir hy,ir hx];exact fun h=>h c6.symm)⟩,S2.trans s6 (fun b _ hb=>hN b hb)⟩
    ·refine aU (ae (ad rfl rfl (bF rfl rfl rfl (by omega) (ah rfl rfl (ab ?_)))));refine⟨rfl,k+1,(.cons rfl (.cons rfl .nil)),?_,?_⟩
     ·refine⟨by omega,by omega,fun i hi=>?_,S.aB tB⟩;by_cases e:i+1=k
      ·rw[e,ir hx,show i=k-1 from by omega,ir hy];exact fun h=>c6 h.symm
      ·exact j9 i (by omega)
     ·show xs.length-(k+1)<xs.length-k;omega
   ·refine cG (aj (ae (ad rfl rfl (ah rfl rfl (ab (aO ?_))))));exact aS rfl rfl ⟨_,xs.length,cap,rfl,⟨fun _ i hi=>j9 i (by omega),fun _=>rfl⟩,S.cA (fun _ h=>h.elim) (fun b hb=>ho.mut_ b hb)⟩
end Go.K
namespace Go.K
open Go.Proofs
namespace TKSortP
theorem E65:Enters Tryz.prog 65:=enters Tryz.func65 rfl (by decide)
theorem E66:Enters Tryz.prog 66:=enters Tryz.func66 rfl (by decide)
end TKSortP
open TKSortP
set_option maxRecDepth 10000
open Go.Proofs Go.Sort
abbrev Ks (a:Int) (u:Value):Obj:= .cells #[.int .i64 a,u] 83 (0,0)
theorem QY {a b:Int} {u v:Value} (w0:World) (hu:u.oneCell'=true) (hv:v.oneCell'=true):
  Spec Tryz.prog 65 #[.agg #[.int .i64 a,u],.agg #[.int .i64 b,v]] w0 (fun r w=>r= .int .i64 (if a<b then-1 else if a>b then 1 else 0)∧w=(w0.alloc (Ks a u)).alloc (Ks b v)):=by
 refine bc (args:=[_,_]) (fn:=Tryz.f65) Tryz.func65 rfl (n:=10) Tryz.ntmps65 (aj (ae (Rg.Mi rfl rfl ?_)));change Rg _ _ _ _ _ _ _ (w0.alloc (Ks a u)) _;refine Rg.Mi rfl rfl ?_;change Rg _ _ _ _ _ _ _ ((w0.alloc (Ks a u)).alloc (Ks b v)) _;have ga:((w0.alloc (Ks a u)).alloc (Ks b v)).heap[w0.heap.size]? =some (Ks a u):=(cQ aC _ _).aK (cg w0 _);have gb:=cg (w0.alloc (Ks a u)) (Ks b v);refine ah rfl rfl (ab (aj (ae (bG (o':=0) bI rfl rfl I3 (by decide) rfl rfl (aM ax rfl rfl rfl ga rfl (aV (v':= .int .i64 a) rfl (bG (o':=0) bI rfl rfl I3 (by decide) rfl rfl (aM ax rfl rfl rfl gb rfl (aV (v':= .int .i64 b) rfl ?_)))))))));refine aX rfl rfl E66 uD (fun r7 w7 hc=>?_);obtain⟨rfl,rfl⟩:=hc;refine ah rfl rfl (ab (aO ?_));exact aS rfl rfl ⟨rfl,rfl⟩
abbrev TP (ps:List (Po×Value)):Type:={q:Po×Value // q∈ps}
def xC {ps:List (Po×Value)} (x:TP ps):List Value:=[.int .i64 x.1.1.1,x.1.2]
def QZ {ps:List (Po×Value)} (x y:TP ps):Int:=if x.1.1.1<y.1.1.1 then-1 else if x.1.1.1>y.1.1.1 then 1 else 0
theorem pA {ps:List (Po×Value)} (x y:TP ps):QZ x y<0↔x.1.1.1<y.1.1.1:=by
 unfold QZ;by_cases h:x.1.1.1<y.1.1.1
 ·rw[if_pos h];exact⟨fun _=>h,fun _=>by omega⟩
 ·rw[if_neg h];by_cases h2:x.1.1.1>y.1.1.1
  ·rw[if_pos h2];exact⟨fun h3=>by omega,fun h3=>absurd h3 h⟩
  ·rw[if_neg h2];exact⟨fun h3=>by omega,fun h3=>absurd h3 h⟩
theorem Q0 {ps:List (Po×Value)}:SWO (Go.Proofs.ltOf (QZ (ps:=ps))) where
 irrefl x:=by simp only[Go.Proofs.ltOf,decide_eq_false_iff_not,pA];omega
 trans x y z h1 h2:=by simp only[Go.Proofs.ltOf,decide_eq_true_eq,pA]at*;omega
 ntrans x y z h1 h2:=by simp only[Go.Proofs.ltOf,decide_eq_false_iff_not,pA]at*;omega
theorem ah2 (w:World):(isAgg 83).run Tryz.prog w= .ok true w:=by simp[isAgg,ck,run_underlying bI]
theorem aaK (w:World):(Go.sizeOf 83).run Tryz.prog w= .ok 2 w:=by
 obtain⟨i,h1,_,h2,_⟩:=lM.get;simp[Go.sizeOf,typeInfo,ck,program,Sem.run,h1,h2]
theorem N9 {ps:List (Po×Value)} [Inhabited (TP ps)] (h1:∀q∈ps,q.2.oneCell'=true) (fz off size:Nat) (w:World):CmpLays Tryz.prog 65 #[] (xC (ps:=ps)) 2 QZ fz off size w:=fun m os dk hs x y=>
 (show Calls Tryz.prog 65 #[.agg #[.int .i64 x.1.1.1,x.1.2],.agg #[.int .i64 y.1.1.1,y.1.2]] (sortWorldK xC 2 w fz off m dk os) (fun e w'=>∃v,e= .returned v∧_∧_)from QY (a:=x.1.1.1) (b:=y.1.1.1) _ (h1 _ x.2) (h1 _ y.2)).mono fun e w' ⟨v,h1,h2,h3⟩=>⟨by rw[h1,h2];rfl,0,#[Ks x.1.1.1 x.1.2,Ks y.1.1.1 y.1.2],by rw[h3];simp only[yX,Go.Sort.grow_grow];rfl⟩
theorem aaL {ps:List (Po×Value)} [Inhabited (TP ps)] (h1:∀q∈ps,q.2.oneCell'=true) (V2:∀a∈ps,∀b∈ps,a.1.1=b.1.1→a=b) (fz off cap:Nat) (d:Array (TP ps)) (w:World) (hH:HoldsK xC 2 w fz off d) (hblk:fz<w.heap.size) (jT:d.size<4611686018427387904):
  Spec Tryz.prog 64 #[.slice (some ⟨fz,off,none⟩) d.size cap,.func (.func 65) #[] #[]] w (fun v w'=>v= .tuple #[]∧∃n os,w'=sortWorldK xC 2 w fz off n (d.toList.mergeSort fun x y=> !(Go.Proofs.ltOf QZ) y x).toArray os):=by
 exact(Go.Proofs.AnyQ.slices_SortFunc_total Tryz.V0 2 ah2 aaK xC (fun _=>rfl) (fun x v hv=>by simp[xC]at hv;rcases hv with rfl|rfl<;>first|rfl|exact h1 _ x.2) QZ Q0 65 #[] fz off cap d w E65 (N9 h1 fz off d.size w) hH hblk jT (fun x y h1 h2=>by
  simp only[Go.Proofs.ltOf,decide_eq_false_iff_not,pA]at h1 h2;exact Subtype.ext (V2 _ x.2 _ y.2 (by omega)))).mono fun e w' ⟨h1,h2⟩=>⟨_,h1,rfl,h2⟩
theorem Is {M:aD} {w:World}:∀{l:List Po} {C:List Value},dX RT.po M w l C→∃ps:List (Po×Value),ps.map (·.1)=l∧C=ps.flatMap (fun q=>[.int .i64 q.1.1,q.2])∧∀q∈ps,RT.po.R M w q.1 [.int .i64 q.1.1,q.2]
 |[],C,h=>⟨[],rfl,h,fun q h=>by cases h⟩
 |x::l,C,⟨vs,r,h1,h2,h3⟩=>by
  obtain⟨ps,h4,h5,h6⟩:=Is h3;obtain⟨va,vb,rfl,⟨rfl,hk⟩,hb⟩:=h2;have OU:=hb;obtain⟨a,cap,rfl,_⟩:=hb;refine⟨(x,.slice a x.2.length cap)::ps,by simp[h4],by rw[h1,h5];rfl,fun q hq=>?_⟩;rcases cf.1 hq with rfl|hq
  ·exact⟨_,_,rfl,⟨rfl,hk⟩,OU⟩
  ·exact h6 q hq
theorem E0 {M:aD} {w:World}:∀{ps:List (Po×Value)},(∀q∈ps,RT.po.R M w q.1 [.int .i64 q.1.1,q.2])→dX RT.po M w (ps.map (·.1)) (ps.flatMap fun q=>[.int .i64 q.1.1,q.2])
 |[],_=>rfl
 |q::ps,h=>⟨_,_,rfl,h q (bP ..),E0 fun q hq=>h q (b9 _ hq)⟩
theorem E1 {M:aD} {base:Nat} {v:Value} {l:List Po} (w0:World) (ho:Own RT.po 83 M w0 base v l) (eK:l.Pairwise fun a b=>a.1≠b.1) (h0:0<l.length) (hl:l.length≤100000000):
  Spec Tryz.prog 64 #[v,.func (.func 65) #[] #[]] w0 (fun r w=>r= .tuple #[]∧∃s:List Po,s.Perm l∧(s.Pairwise fun a b=>a.1≤b.1)∧Own RT.po 83 M w base v s∧Step M w0 M w (fz v)):=by
 have ars:=ho.mut_;obtain⟨⟨C,⟨hC,hr⟩,hA⟩,hm⟩:=ho;rcases hr with⟨rfl,h0'⟩|⟨g,cap,cur,rfl,hb,hg,hle,UQ,Kl,rz⟩
 ·omega
 ·obtain⟨ps,rfl,rfl,kf⟩:=Is hA;have sJ:∀q∈ps,q.2.oneCell'=true:=fun q hq=>RT.po.one (kf q hq) _ (by simp)
  have Ph:=cz.1 eK
  have V2:∀a∈ps,∀b∈ps,a.1.1=b.1.1→a=b:=fun a ha b hb e=>by
   obtain⟨i,hi,rfl⟩:=xl.1 ha;obtain⟨j,hj,rfl⟩:=xl.1 hb;rcases fa i j with h|h|h
   ·exact absurd e ((cC.1 Ph) i j hi hj h)
   ·subst h;rfl
   ·exact absurd e.symm ((cC.1 Ph) j i hj hi h)
  rw[aL]at h0 hl hle rz hC
  haveI:Inhabited (TP ps):=⟨⟨ps[0],uV _⟩⟩
  obtain⟨d,hd⟩:∃d:Array (TP ps),d.toList.map (·.1)=ps:=⟨ps.attach.toArray,by rw[List.toList_toArray];exact List.attach_map_subtype_val ps⟩;have jT:d.size=ps.length:=by have:=congrArg List.length hd;simpa using this
  have hk:∀x:TP ps,(xC x).length=2:=fun _=>rfl
  have Gw:∀t:List (TP ps),(t.map (·.1)).flatMap (fun q:Po×Value=>[Value.int .i64 q.1.1,q.2])=t.flatMap xC:=fun t=>by rw[List.flatMap_map];rfl
  have e2:RT.po.n=2:=rfl;rw[e2]at rz Kl hC;have hH:HoldsK xC 2 w0 g 0 d:=A8 hk (by omega) hg (by rw[jT,rz,←Gw,hd]);have hs:=aaL sJ V2 g 0 cap d w0 hH (ak hg) (by omega);rw[jT]at hs;rw[aL];refine hs.mono fun r w' ⟨h1,n,os,h2⟩=> ?_
  have hp:=jg d.toList fun x y=> !(ltOf QZ) y x
  have Q1:(d.toList.mergeSort fun x y=> !(ltOf QZ) y x).Pairwise fun a b=>a.1.1.1≤b.1.1.1:=by
   refine(List.pairwise_mergeSort (fun a b c h1 h2=>?_) (fun a b=>?_) _).imp fun h=>?_
   ·simp only[ltOf,iU,decide_eq_false_iff_not,pA]at*;omega
   ·simp only[ltOf,qb,iU,decide_eq_false_iff_not,pA];omega
   ·simp only[ltOf,iU,decide_eq_false_iff_not,pA]at h;omega
  generalize (d.toList.mergeSort fun x y=> !(ltOf QZ) y x)=us at hp Q1 h2;have Km:(us.map (·.1)).length=ps.length:=by rw[aL,hp.length_eq,zY,jT]
  have Ai:us.toArray.size*2=ps.length*2:=by rw[←Km];simp
  have kD:Step M w0 M w' (fz (.slice (some ⟨g,0,none⟩) ps.length cap)):=by
   have hgm:M g:=hm g (by rw[aL];rfl);have s:=pP (enc:=xC (ps:=ps)) (k:=2) (w:=w0) (g:=g) (n:=n) (d:=us.toArray) (os:=os);rw[←h2]at s;exact⟨fun h b hb=>iu (h b hb) s.size,s.os,s.tape,s.output,s.size,fun _ _=>Iff.rfl,fun b hb hn=>s.same b hb (fun e=>hn (by have e:b=g:=e;subst e;rfl)),fun b hb=>by have hb:some g=some b:=hb;cases hb;exact hgm⟩
  refine⟨h1,(us.map (·.1)).map (·.1),?_,?_,⟨⟨(us.map (·.1)).flatMap (fun q:Po×Value=>[Value.int .i64 q.1.1,q.2]),⟨?_,.inr ⟨g,cap,putCells id 0 (flatK xC 2 us.toArray) cur,by rw[aL,Km],hb,by rw[h2];exact sd hg,by rw[aL,Km];exact hle,UQ,by rw[e2,←Kl];simp[putCells],?_⟩⟩,?_⟩,fun b hb=>hm b (by rw[aL];exact hb)⟩,kD⟩
  ·have:=(hp.map (·.1)).map (·.1);rw[hd]at this;exact this
  ·exact cz.2 (cz.2 Q1)
  ·rw[Gw,np hk,aL,aL,e2]
  ·rw[Gw,aL,Km,e2,←Ai,←size_flatK xC,sf (by rw[size_flatK,Ai,Kl];omega),ug hk (by omega)]
  ·refine E0 fun q hq=> ?_
   obtain⟨x,hx,rfl⟩:=ca.1 hq;exact RT.po.le (fun b hb xI=>⟨xI,kD.same b hb fun e=>xI (kD.sub b e)⟩) (kf x.1 x.2)
end Go.K
namespace Go.Proofs
open Go.Shelf
def Tryz.Cy:Go.Shelf.Ren:=⟨fun|44=>163|n=>n,fun|25=>57|26=>9|3=>3|4=>4|0=>0|n=>n,fun|n=>n⟩
theorem Tryz.E2:Go.Proofs.SlLaysN.n44 Tryz.prog Tryz.Cy:={
 mixed:=by kernel_rfl
 f44:=⟨Tryz.f163.name,by decide,Tryz.func163.trans (congrArg some (by kernel_rfl))⟩
 t0:=fD
 a0:=lB
 z0:=j6
 v0:=gG
 t3:=ax
 a3:=lC
 z3:=j7
 v3:=gH
 t4:=iO
 a4:=rO
 z4:=nW
 v4:=jv
 t25:=aI
 a25:=Tryz.isAgg57
 z25:=Tryz.sizeOf57
 v25:=Tryz.zeroValue57
 t26:=aJ
 a26:=lD
 z26:=j8
 v26:=gI
 i26:=by kernel_rfl}
def Tryz.vX:Go.Shelf.Ren:=⟨fun|4=>216|n=>n,fun|22=>57|25=>9|3=>3|4=>4|9=>9|20=>20|0=>0|n=>n,fun|n=>n⟩
theorem Tryz.SG:Go.Proofs.Lays8.n4 Tryz.prog Tryz.vX:={
 mixed:=by kernel_rfl
 f4:=⟨Tryz.f216.name,by decide,Tryz.func216.trans (congrArg some (by kernel_rfl))⟩
 t0:=fD
 a0:=lB
 z0:=j6
 v0:=gG
 t3:=ax
 a3:=lC
 z3:=j7
 v3:=gH
 t4:=iO
 a4:=rO
 z4:=nW
 v4:=jv
 t9:=aJ
 a9:=lD
 z9:=j8
 v9:=gI
 t20:=Tryz.underlying20
 a20:=Tryz.isAgg20
 z20:=Tryz.sizeOf20
 v20:=Tryz.zeroValue20
 t22:=aI
 a22:=Tryz.isAgg57
 z22:=Tryz.sizeOf57
 v22:=Tryz.zeroValue57}
end Go.Proofs
namespace Go.K
open Go.Sort Go.Proofs
section
variable {α:Type} [Inhabited α] {enc:α→Value}
theorem Bx {w:World} {g n:Nat} {cur:Array Value} {e:TypeId} {d:Array α} {os:Array Obj} (hg:w.heap[g]? =some (.cells cur e (0,0))):(grow (putRow enc (Go.Sort.ahead w n) g 0 d) os).heap[g]? =some (.cells (putCells enc 0 d cur) e (0,0)):=by
 have dR:g<w.heap.size:=ak hg
 have h1:(w.heap.modify g (onCells (putCells enc 0 d)))[g]? =some (.cells (putCells enc 0 d cur) e (0,0)):=by
  rw[jH,if_pos rfl,hg];rfl
 show((w.heap.modify g (onCells (putCells enc 0 d)))++os)[g]? =_;rw[Array.getElem?_append_left (by simpa using dR)];exact h1
theorem xd {w:World} {g n:Nat} {d:Array α} {os:Array Obj}:Step allM w allM (grow (putRow enc (Go.Sort.ahead w n) g 0 d) os) (fun b=>b=g):=
 ⟨fun h=>absurd (h w.heap.size trivial) (jt _),rfl,rfl,rfl,by show _≤((w.heap.modify g _)++os).size;simp,fun _ _=>Iff.rfl,fun b hb hn=>by
  have hn: ¬b=g:=hn;show((w.heap.modify g (onCells (putCells enc 0 d)))++os)[b]? =_;rw[Array.getElem?_append_left (by simpa using hb),jH,if_neg (fun h=>hn h.symm)],fun _ _=>trivial⟩
theorem qN {d:Array α} {cur:Array Value} {m:Nat} (h:d.size≤cur.size) (hm:m≤d.size):(putCells enc 0 d cur).toList.take m=(d.toList.map enc).take m:=by
 apply eZ;intro j;rw[cn,cn];by_cases hj:j<m
 ·have h1:j<d.size:=by omega
  have h2:j<cur.size:=by omega
  rw[if_pos hj,if_pos hj];simp[putCells,h1,h2]
 ·rw[if_neg hj,if_neg hj]
theorem holds_of {w:World} {g:Nat} {cur:Array Value} {e:TypeId} {d:Array α} (hg:w.heap[g]? =some (.cells cur e (0,0))) (hC:cur.toList.take d.size=d.toList.map enc):Holds enc w g 0 d:=fun j hj=>by
 have h1:(cur.toList.take d.size)[j]? =(d.toList.map enc)[j]? :=by rw[hC]
 rw[cn,if_pos hj,bC,Array.getElem?_toList,Array.getElem?_toList,Array.getElem?_eq_getElem hj,dd]at h1;constructor
 ·simp[World.cell?,hg,h1,hj]
 ·simp[World.frozen?,hg]
end
theorem zL:∀{xs:List (List UInt8)} {C:List Value} {M:aD} {w:World},dX RT.str M w xs C→C=xs.map encStr∧∀x∈xs,x.length≤140737488355328
 |[],C,_,_,h=>⟨h,fun x hx=>by cases hx⟩
 |x::xs,C,_,_,⟨vs,r,h1,h2,h3⟩=>by
  obtain⟨h4,h5⟩:=zL h3;obtain⟨h6,h7⟩:=h2;refine⟨by rw[h1,h4,h6];rfl,fun y hy=>?_⟩;rcases cf.1 hy with rfl|hy
  ·exact h7
  ·exact h5 y hy
theorem vY {M:aD} {w:World}:∀{xs:List (List UInt8)},(∀x∈xs,x.length≤140737488355328)→dX RT.str M w xs (xs.map encStr)
 |[],_=>rfl
 |x::xs,h=>⟨[encStr x],_,rfl,⟨rfl,h x (bP ..)⟩,vY fun y hy=>h y (b9 _ hy)⟩
theorem zM {d:Array (List UInt8)} (hs:∀i j,i≤j→j<d.size→¬d[j]! <d[i]!):∀m,m≤d.size→(Go.Lib.compactUpTo d m).Pairwise (fun a b=>a<b)∧(∀x∈Go.Lib.compactUpTo d m,∃j,j<m∧x=d[j]!)∧∀j,j<m→d[j]! ∈Go.Lib.compactUpTo d m
 |0,_=>⟨List.Pairwise.nil,(fun x h=>by cases h),fun j h=>by omega⟩
 |m+1,hm=>by
  obtain⟨h1,h2,h3⟩:=zM hs m (by omega);rw[Go.Lib.compactUpTo_succ]
  cases hk:Go.Lib.keeps d m with
  |true=>
   rw[if_pos rfl];have eK:m=0∨d[m]! ≠d[m-1]! :=by simpa[Go.Lib.keeps]using hk
   refine⟨ny.2 ⟨h1,by simp,fun a ha b hb=>?_⟩,fun x hx=>?_,fun j hj=>?_⟩
   ·rw[bJ]at hb;subst hb;obtain⟨j,hj,rfl⟩:=h2 a ha;have h4:=hs j m (by omega) (by omega);rcases jN d[j]! d[m]! with h|h|h
    ·exact h
    ·exfalso;have h5:=hs j (m-1) (by omega) (by omega);have h6:=hs (m-1) m (by omega) (by omega);rcases eK with h0|h0
     ·omega
     ·rcases jN d[m-1]! d[m]! with h7|h7|h7
      ·rw[←h]at h7;exact h5 h7
      ·exact h0 h7.symm
      ·exact h6 h7
    ·exact absurd h h4
   ·rcases cp.1 hx with hx|hx
    ·obtain⟨j,hj,e⟩:=h2 x hx;exact⟨j,by omega,e⟩
    ·exact⟨m,by omega,bJ.1 hx⟩
   ·rcases cI j m with h|h
    ·exact gu _ (h3 j h)
    ·obtain rfl:j=m:=by omega
     exact List.mem_append_right _ (bJ.2 rfl)
  |false=>
   rw[if_neg (by simp),iW];have he:m≠0∧d[m]! =d[m-1]! :=by simpa[Go.Lib.keeps]using hk
   refine⟨h1,fun x hx=>?_,fun j hj=>?_⟩
   ·obtain⟨j,hj,e⟩:=h2 x hx;exact⟨j,by omega,e⟩
   ·rcases cI j m with h|h
    ·exact h3 j h
    ·obtain rfl:j=m:=by omega
     rw[he.2];exact h3 _ (by omega)
def jr (ks:List (List (List UInt8))):List (List UInt8):=Go.Lib.compact (ks.flatten.mergeSort fun x y=>decide (x≤y))
theorem zN (ks:List (List (List UInt8))):(jr ks).Pairwise (fun a b=>a<b)∧∀x,x∈jr ks↔∃l∈ks,x∈l:=by
 have SH:(ks.flatten.mergeSort fun x y=>decide (x≤y)).Pairwise fun a b=>¬b<a:=by
  refine(List.pairwise_mergeSort (fun a b c h1 h2=>?_) (fun a b=>?_) _).imp fun h=>?_
  ·simp only[decide_eq_true_eq]at*
   intro h3;rcases jN b c with h|h|h
   ·exact h1 (l0 h h3)
   ·subst h;exact h1 h3
   ·exact h2 h
  ·simp only[qb,decide_eq_true_eq];rcases jN a b with h|h|h
   ·exact .inl fun h'=>absurd h' (iR h)
   ·subst h;exact .inl (jb _)
   ·exact .inr fun h'=>absurd h' (iR h)
  ·simp only[decide_eq_true_eq]at h;exact h
 generalize hz:(ks.flatten.mergeSort fun x y=>decide (x≤y))=zs at SH
 have eH:∀x,x∈zs↔∃l∈ks,x∈l:=fun x=>by
  rw[←hz,(jg _ _).mem_iff,List.mem_flatten]
 obtain⟨h1,h2,h3⟩:=zM (d:=zs.toArray) (fun i j ji hj=>by
  have hj':j<zs.length:=by simpa using hj
  have im:i<zs.length:=by omega
  rw[getElem!_pos _ i (by simpa using im),getElem!_pos _ j hj];rcases cI i j with h|h
  ·simpa using(cC.1 SH) i j im hj' h
  ·obtain rfl:i=j:=by omega
   exact jb _) zs.length (by simp)
 have e:jr ks=Go.Lib.compactUpTo zs.toArray zs.length:=by unfold jr Go.Lib.compact;rw[hz]
 rw[e];refine⟨h1,fun x=>?_⟩;rw[←eH];constructor
 ·intro hx;obtain⟨j,hj,rfl⟩:=h2 x hx;rw[getElem!_pos _ j (by simpa using hj)];simp
 ·intro hx;obtain⟨j,hj,rfl⟩:=xl.1 hx;have:=h3 j hj
  rwa [getElem!_pos _ j (by simpa using hj),List.getElem_toArray]at this
theorem JV (ks:List (List (List UInt8))):(jr ks).length≤ks.flatten.length:=by
 have h:=(zN ks).1.imp (S:=fun a b=>a≠b) fun h e=>by subst e;exact jb _ h
 exact List.Nodup.length_le_of_subset h fun x hx=>by
  obtain⟨l,hl,hx⟩:=((zN ks).2 x).1 hx;exact List.mem_flatten.2 ⟨l,hl,hx⟩
end Go.K
namespace Go.K
open Go.Proofs
set_option maxRecDepth 10000
open Go.Proofs Go.Sort
theorem nt:AB RT.str:=fun _ _ _ _ _ _ h=>h
theorem JW {base:Nat} {v:Value} {ts:List (List UInt8)} (w0:World) (ho:Own RT.str 9 allM w0 base v ts) (hl:ts.length≤100000000):
  Spec Tryz.prog 141 #[v] w0 (fun r w=>r= .tuple #[]∧Own RT.str 9 allM w base v (ts.mergeSort fun x y=>decide (x≤y))∧Step allM w0 allM w (mV v)):=by
 obtain⟨⟨C,⟨hC,hr⟩,hA⟩,hm⟩:=ho;rcases hr with⟨rfl,h0⟩|⟨g,cap,cur,rfl,hb,hg,hle,UQ,Kl,rz⟩
 ·have KO:ts=[]:=cR.1 h0;subst KO;exact(AnyM.slices_Sort_string_none Tryz.H6 none 0 w0).mono fun e w' ⟨h1,h2⟩=>⟨_,h1,rfl,by rw[List.mergeSort_nil];exact dF _ _ _ _ _,by rw[h2];exact(aw allM w0).cA (fun _ h=>h.elim) (fun _ _=>trivial)⟩
 ·obtain⟨rfl,jT⟩:=zL hA;have e1:RT.str.n=1:=rfl;rw[e1,eG]at rz Kl;have hH:Holds encStr w0 g 0 ts.toArray:=holds_of hg (by simpa using rz);refine(AnyM.slices_Sort_string Tryz.H6 g 0 cap ts w0 hH (ak hg) (by omega)).mono fun e w' ⟨h1,n,os,h2⟩=>⟨_,h1,rfl,?_,?_⟩
  ·rw[h2];have hp:=jg ts fun x y=>decide (x≤y)
   generalize (ts.mergeSort fun x y=>decide (x≤y))=us at hp;have Km:us.length=ts.length:=hp.length_eq;refine⟨⟨us.map encStr,⟨by simp[e1],.inr ⟨g,cap,_,by rw[Km],hb,Bx hg,by omega,UQ,by rw[e1,eG,←Kl];simp[putCells],?_⟩⟩,vY fun x hx=>jT x (hp.mem_iff.1 hx)⟩,fun _ _=>trivial⟩;rw[e1,eG,qN (by simp;omega) (by simp),aW (by simp)]
  ·rw[h2];exact xd.cA (fun b hb=>by have hb:b=g:=hb;subst hb;rfl) (fun _ _=>trivial)
theorem JX {base:Nat} {v:Value} {ts:List (List UInt8)} (w0:World) (ho:Own RT.str 9 allM w0 base v ts) (hl:ts.length≤100000000):
  Spec Tryz.prog 163 #[v] w0 (fun r w=>Own RT.str 9 allM w base r (Go.Lib.compact ts)∧Step allM w0 allM w (mV v)):=by
 obtain⟨⟨C,⟨hC,hr⟩,hA⟩,hm⟩:=ho;rcases hr with⟨rfl,h0⟩|⟨g,cap,cur,rfl,hb,hg,hle,UQ,Kl,rz⟩
 ·have KO:ts=[]:=cR.1 h0;subst KO;exact(AnyG.slices_Compact_string_empty Tryz.E2 none 0 w0).mono fun e w' ⟨h1,h2⟩=>⟨_,h1,dF _ _ _ _ _,by rw[h2];exact(aw allM w0).cA (fun _ h=>h.elim) (fun _ _=>trivial)⟩
 ·obtain⟨rfl,jT⟩:=zL hA;have e1:RT.str.n=1:=rfl;rw[e1,eG]at rz Kl;have hH:Holds encStr w0 g 0 ts.toArray:=holds_of hg (by simpa using rz);have lv:=Go.Lib.compact_length_le ts;refine(AnyG.slices_Compact_string Tryz.E2 g 0 cap ts w0 hH (by omega) hle).mono fun e w' ⟨h1,n,h2⟩=>⟨_,h1,?_,?_⟩
  ·have yc:w'=grow (putRow encStr (Go.Sort.ahead w0 n) g 0 (Go.Lib.compact ts++List.replicate (ts.length-(Go.Lib.compact ts).length) []).toArray) #[]:=by rw[grow_empty];exact h2
   rw[yc];refine⟨⟨(Go.Lib.compact ts).map encStr,⟨by simp[e1],.inr ⟨g,cap,_,rfl,hb,Bx hg,by omega,UQ,by rw[e1,eG,←Kl];simp[putCells],?_⟩⟩,vY fun x hx=>jT x ?_⟩,fun _ _=>trivial⟩
   ·rw[e1,eG,qN (by simp;omega) (by simp)];simp
   ·unfold Go.Lib.compact Go.Lib.compactUpTo at hx;obtain⟨j,hj,rfl⟩:=ca.1 hx;have hj:=List.mem_range.1 (fN.1 hj).1;rw[getElem!_pos _ j (by simpa using hj)];simp
  ·have yc:w'=grow (putRow encStr (Go.Sort.ahead w0 n) g 0 (Go.Lib.compact ts++List.replicate (ts.length-(Go.Lib.compact ts).length) []).toArray) #[]:=by rw[grow_empty];exact h2
   rw[yc];exact xd.cA (fun b hb=>by have hb:b=g:=hb;subst hb;rfl) (fun _ _=>trivial)
theorem JY {n:Nat} (w0:World) (hn:n≤1000000000):Spec Tryz.prog 216 #[.slice none 0 0,.int .i64 n] w0 (fun r w=>Own RT.str 9 allM w w0.heap.size r []∧Step allM w0 allM w aC):=by
 rcases Nat.eq_zero_or_pos n with rfl|h
 ·exact(Any8.slices_Grow_room Tryz.SG none 0 0 0 w0 (aT _) (by omega) (by omega) (aT _)).mono fun e w' ⟨h1,h2⟩=>⟨_,h1,dF _ _ _ _ _,by rw[h2];exact aw _ _⟩
 ·obtain⟨i0,hi,hz,hs,hb⟩:=I9.get;refine(Any8.slices_Grow_grow Tryz.SG i0 _ hi hz (by omega) none 0 0 n [] w0 (aT _) (by omega) (by rw[hb];omega) (by omega) (by simp) (fun _=>rfl) (fun a h=>by cases h)).mono fun e w' ⟨h1,h2⟩=>⟨_,h1,?_,?_⟩
  ·have hG:n≤grownCap w0 n 0 (Tryz.vX.t 25):=grownCap_ge w0 _ _ _;have hm:=grownCap_le_maxLen w0 (0+n) 0 9 (by unfold maxLen;omega);rw[h2];refine⟨⟨[],⟨rfl,.inr ⟨w0.heap.size,_,_,rfl,aT _,by exact cg w0.drew _,bE _,hm,?_,by simp⟩⟩,rfl⟩,fun _ _=>trivial⟩;show _=grownCap w0 (0+n) 0 (Tryz.vX.t 25)*1;simp[Builtin.zeroCells,Value.cells];omega
  ·rw[h2];exact(lU allM w0).aB (cQ allM w0.drew _)
end Go.K
namespace Go.K
open Go.Proofs
namespace TKJoinB
theorem ah3:Enters Tryz.prog 113:=enters Tryz.func113 rfl (by decide)
theorem ah4:Enters Tryz.prog 141:=enters Tryz.func141 rfl (by decide)
theorem ah5:Enters Tryz.prog 162:=enters Tryz.func162 rfl (by decide)
theorem ah6:Enters Tryz.prog 163:=enters Tryz.func163 rfl (by decide)
theorem ah7:Enters Tryz.prog 216:=enters Tryz.func216 rfl (by decide)
end TKJoinB
open TKJoinB
set_option maxRecDepth 10000
theorem E3 {ks:List (List (List UInt8))} {i:Nat} {l:List (List UInt8)} (h:ks[i]? =some l):((ks.take (i+1)).flatten).length=(ks.take i).flatten.length+l.length∧(ks.take (i+1)).flatten=(ks.take i).flatten++l:=by
 rw[bK,h,cT,List.flatten_append,bj];simp
theorem Cz (ks:List (List (List UInt8))) (i:Nat):(ks.take i).flatten.length≤ks.flatten.length:=by
 conv=>rhs;rw[←uP i ks,List.flatten_append,bj]
 omega
theorem CA {M:aD} {ks:List (List (List UInt8))} {v0:Value} (w0:World) (hM:Lt M w0) (hv:((RT.str.sl).sl).V M w0 ks v0) (hl:ks.flatten.length≤100000000):
  Spec Tryz.prog 162 #[v0] w0 (fun v w=>∃M',Own RT.str 9 M' w w0.heap.size v ks.flatten∧Lt M' w∧Step M w0 M' w aC):=by
 have hlen:=dy hv;have jM:=hM;refine bc (args:=[_]) (fn:=Tryz.f162) Tryz.func162 rfl (n:=36) Tryz.ntmps162 ?_;have S:Step M w0 M w0 aC:=(aw _ _).cA (fun _ h=>h.elim) (fun _ h=>h.elim);refine aj (ae (ah rfl rfl (ab (aj (ae (ah rfl rfl (ab (aj (aj (ae (ad rfl rfl ?_)))))))))));refine bM Tryz.underlying120 rfl hv rfl (ad rfl rfl (ab (aZ ?_)));refine de (σ:=Nat) (fun i=>[(0,v0),(3,.int .i64 ((ks.take i).flatten.length:Int)),(9,v0),(10,.int .i64 (ks.length:Int)),(11,.int .i64 (i:Int))]) (fun i w=>i≤ks.length∧Lt M w∧((RT.str.sl).sl).V M w ks v0∧Step M w0 M w aC) (fun i=>ks.length-i) 0 (.cons rfl (.cons rfl (.cons rfl (.cons rfl (.cons rfl .nil))))) ?_ ?_
 ·exact⟨bE _,hM,hv,S⟩
 ·clear hM hv S;rintro i w ⟨hi,hM,hv,S⟩;have nC:=Cz ks i;refine aj (ae (cj rfl rfl rfl (ab (aj ?_))));refine bN rfl (fun c3=>?_) (fun c3=>?_)
  ·refine aU (aj (aZ (aj (ae ?_))));obtain⟨l,hk⟩:∃l,ks[i]? =some l:=⟨_,ar (by omega)⟩;obtain⟨tL,BI⟩:=E3 hk;have hk3:=Cz ks (i+1);refine cy (M:=M) Tryz.underlying120 xN rfl rfl rfl hv (aq _ _) (by omega) (fun u4 x wO Ft=>?_);rw[ay]at wO;obtain rfl:=aH (hk.symm.trans wO);refine bT (M:=M) aI rfl rfl rfl rfl rfl Ft (aq _ _) (fun v4 qf=>?_);refine ah rfl rfl (ab (aj (ae (ad rfl rfl (ad rfl rfl (bM aI rfl qf rfl (bF rfl rfl rfl (by omega) (aV (v':= .int .i64 (((ks.take (i+1)).flatten.length:Nat):Int)) (congrArg _ (by rw[tL];omega)) (ah rfl rfl (ab (aj ?_)))))))))));refine ae (ad rfl rfl (cj rfl rfl rfl (ab (T.tF rfl ((by omega)) (aU (ae (bF rfl rfl rfl (by omega) (ad rfl rfl (ab ?_)))))))));refine⟨rfl,i+1,(.cons rfl (.cons rfl (.cons rfl (.cons rfl (.cons rfl .nil))))),?_,?_⟩
   ·exact⟨by omega,hM,hv,S⟩
   ·omega
  ·refine cG (aj (ae (ad rfl rfl ?_)));have hie:i=ks.length:=by omega
   refine aV (v':= .int .i64 ((ks.flatten.length:Nat):Int)) (by rw[hie,aW (aT _)]) ?_;refine aX rfl rfl ah7 (JY w (n:=ks.flatten.length) (by omega)) (fun r9 w9 hc=>?_);obtain⟨Qx,s9⟩:=hc;obtain⟨ho,s9'⟩:=Qx.NX (M:=allM) nt s9 (aT _) M;replace ho:=ho.nB S.size;have Sf:=s9'.lt hM;have DM:=hv.le s9'.le;have S9:=S.aB s9';refine ah rfl rfl (ab (aj (aj (ae (ad rfl rfl (bM Tryz.underlying120 rfl DM rfl (ad rfl rfl (ab (aZ ?_)))))))));refine de (σ:=Nat×Value) (fun q=>[(6,q.2),(25,v0),(26,.int .i64 (ks.length:Int)),(27,.int .i64 (q.1:Int))]) (fun q w=>q.1≤ks.length∧∃M1,Lt M1 w∧((RT.str.sl).sl).V M1 w ks v0∧Own RT.str 9 M1 w w0.heap.size q.2 (ks.take q.1).flatten∧Step M w0 M1 w aC) (fun q=>ks.length-q.1) (0,r9) (.cons rfl (.cons rfl (.cons rfl (.cons rfl .nil)))) ?_ ?_
   ·exact⟨bE _,_,Sf,DM,(by simpa using ho),S9⟩
   ·clear hM hv S Sf DM ho S9;rintro⟨i,u⟩ w ⟨hi,M1,hM,hv,ho,S⟩;dsimp only at hi ho ⊢;have nC:=Cz ks i;refine aj (ae (cj rfl rfl rfl (ab (aj ?_))));refine bN rfl (fun F8=>?_) (fun F8=>?_)
    ·refine aU (aj (aZ (aj (ae ?_))));obtain⟨l,hk⟩:∃l,ks[i]? =some l:=⟨_,ar (by omega)⟩;obtain⟨tL,BI⟩:=E3 hk;have hk3:=Cz ks (i+1);refine cy (M:=M1) Tryz.underlying120 xN rfl rfl rfl hv (aq _ _) (by omega) (fun u4 x wO Ft=>?_);rw[ay]at wO;obtain rfl:=aH (hk.symm.trans wO);refine bT (M:=M1) aI rfl rfl rfl rfl rfl Ft (aq _ _) (fun ama V3=>?_);refine ah rfl rfl (ab (ae (ad rfl rfl (ad rfl rfl ?_))));refine cZ (M:=M1) (base:=w0.heap.size) aI I9 rfl rfl rfl rfl ho V3 (aq _ _) (by omega) (by omega) (S.size) (fun aaM amb amc V4 Oa=>?_);replace hv:=hv.le Oa.le;replace hM:=Oa.lt hM;have:=S.size;replace S:=S.dg Oa ho (aT _);replace ho:=V4;refine ah rfl rfl (ab (ae (bF rfl rfl rfl (by omega) (ad rfl rfl (ab ?_)))));refine⟨rfl,(i+1,aaM),(.cons rfl (.cons rfl (.cons rfl (.cons rfl .nil)))),?_,?_⟩
     ·exact⟨by dsimp only;omega,_,hM,hv,by dsimp only;rw[BI];exact ho,S⟩
     ·dsimp only;omega
    ·refine cG (aj (ae (ad rfl rfl (ah rfl rfl (ab (aO ?_))))));rw[aW (by omega)]at ho;exact aS rfl rfl ⟨_,ho,hM,S⟩
theorem CB {M:aD} {ks:List (List (List UInt8))} {v0:Value} (w0:World) (hM:Lt M w0) (hv:((RT.str.sl).sl).V M w0 ks v0) (hl:ks.flatten.length≤100000000):
  Spec Tryz.prog 113 #[v0] w0 (fun v w=>∃M',Own RT.str 9 M' w w0.heap.size v (jr ks)∧Lt M' w∧Step M w0 M' w aC):=by
 refine bc (args:=[_]) (fn:=Tryz.f113) Tryz.func113 rfl (n:=10) Tryz.ntmps113 (aj (ae (ah rfl rfl (ab (aj (ae (ad rfl rfl ?_)))))));refine aX rfl rfl ah5 (CA w0 hM hv hl) (fun r1 w1 hc=>?_);obtain⟨M1,U3,nS,s1⟩:=hc;refine ah rfl rfl (ab (aj (ae (ad rfl rfl ?_))));refine aX rfl rfl ah4 (JW w1 (U3.QS nt (M':=allM) fun _ _=>trivial) hl) (fun r2 w2 hc=>?_);obtain⟨rfl,tq,s2⟩:=hc;refine ab (aj (ae (ad rfl rfl ?_)));refine aX rfl rfl ah6 (JX w2 tq (by rw[(jg _ _).length_eq];exact hl)) (fun r3 w3 hc=>?_);obtain⟨ze,s3⟩:=hc;have hbk:∀b,r1.ownBlock=some b→w0.heap.size≤b:=fun b hb=>(U3.base b hb).1
 have CV:Step allM w0 allM w3 aC:=(s1.all.trans s2 (fun b hb h=>by have:=hbk b h;omega)).trans s3 (fun b hb h=>by have:=hbk b h;omega);obtain⟨qe,s4⟩:=ze.NX nt CV (aT _) M;refine ah rfl rfl (ab (aO ?_));exact aS rfl rfl ⟨_,qe,s4.lt hM,s4⟩
theorem JZ {M:aD} {ks:List (List (List UInt8))} {v0:Value} (w0:World) (hM:Lt M w0) (hv:((RT.str.sl).sl).V M w0 ks v0) (hl:ks.flatten.length≤100000000):
  Spec Tryz.prog 62 #[v0] w0 (fun v w=>∃M',Own RT.str 9 M' w w0.heap.size v (jr ks)∧Lt M' w∧Step M w0 M' w aC):=by
 refine bc (args:=[_]) (fn:=Tryz.f62) Tryz.func62 rfl (n:=5) Tryz.ntmps62 (aj (ae (ah rfl rfl (ab (aj (ae (ad rfl rfl ?_)))))));refine aX rfl rfl ah3 (CB w0 hM hv hl) (fun r1 w1 hc=>?_);refine ah rfl rfl (ab (aO ?_));exact aS rfl rfl hc
end Go.K
namespace Go.K
open Go.Proofs
namespace TKHeads
theorem aaN:TI Tryz.prog 180 (.slice none 0 0) 1 24:=by unfold TI;kernel_rfl
theorem lT:TI Tryz.prog 183 (.agg #[(.int .i64 0),(.int .i64 0),(.int .i64 0)]) 3 24:=by unfold TI;kernel_rfl
end TKHeads
open TKHeads
set_option maxRecDepth 10000
theorem aaO:qq Tryz.prog 178 "Len" 110 false:=by unfold qq;kernel_rfl
theorem E4:qq Tryz.prog 178 "Less" 328 false:=by unfold qq;kernel_rfl
theorem E5:qq Tryz.prog 178 "Swap" 331 false:=by unfold qq;kernel_rfl
theorem aaP:qq Tryz.prog 178 "Push" 330 true:=by unfold qq;kernel_rfl
theorem ah9:qq Tryz.prog 178 "Pop" 329 true:=by unfold qq;kernel_rfl
theorem vZ {M:aD} {w0:World} {base:Nat} {v:Value} {hs:List Hd} (ho:Own RT.hd 183 M w0 base v hs):
  Spec Tryz.prog 110 #[v] w0 (fun v' w'=>v'= .int .i64 hs.length∧w0=w'):=by
 refine bc (args:=[_]) (fn:=Tryz.f110) Tryz.func110 rfl (n:=5) Tryz.ntmps110 (aj (ae (ah rfl rfl (ab (aj (ae (ad rfl rfl (fM bV rfl ho rfl (ah rfl rfl (ab (aO ?_)))))))))));exact aS rfl rfl ⟨rfl,rfl⟩
theorem oF {M:aD} {w0:World} {v:Value} {hs:List Hd} {i j:Nat} (hv:((RT.hd).sl).V M w0 hs v) (hi:i<hs.length) (hj:j<hs.length):
  Spec Tryz.prog 328 #[v,.int .i64 i,.int .i64 j] w0 (fun v' w'=>v'= .bool (decide (hn hs i<hn hs j))∧Step M w0 M w' aC):=by
 have hlen:=dy hv;obtain⟨⟨a1,a2,a3⟩,hx⟩:∃x,hs[i]? =some x:=⟨_,ar hi⟩;obtain⟨⟨b1,b2,b3⟩,hy⟩:∃x,hs[j]? =some x:=⟨_,ar hj⟩;refine bc (args:=[_,_,_]) (fn:=Tryz.f328) Tryz.func328 rfl (n:=18) Tryz.ntmps328 (aj (ae (ah rfl rfl (ab (aj ?_)))));apply mQ mixed rfl rfl;intro Fv Lv;have lY:=Lv M;refine ad rfl rfl ?_;refine ab ⟨rfl,rfl,rfl,?_⟩;refine ad rfl rfl ?_;refine ab ⟨rfl,rfl,rfl,?_⟩;refine cy (M:=M) bV lT rfl rfl rfl (hv.le lY.le) (aq _ _) (by first|omega|decide) (fun GF aia aaQ oz=>?_);obtain rfl:(a1,a2,a3)=aia:=dD (aH (aaQ.symm.trans (by rw[ay];exact hx)));refine ab ⟨rfl,rfl,rfl,?_⟩;refine aN (M:=M) (A:=RT.hd) (B:=RT.int .i64) dI rfl rfl I3 (by decide) (Sy) rfl rfl (by decide) (by assumption) (by repeat (first|exact aq _ _|refine a8 (bD (by assumption)) ?_)) (fun PT kJ=>?_);refine ab ⟨rfl,rfl,rfl,?_⟩;refine cb (M:=M) ax rfl rfl (by assumption) (by repeat (first|exact aq _ _|refine a8 (bD (by assumption)) ?_)) (fun SI=>?_);refine aV (v':= .int .i64 (a1)) rfl ?_;replace SI: -9223372036854775808≤(a1:Int)∧a1≤9223372036854775807:=SI;refine ab ⟨rfl,rfl,rfl,?_⟩;refine ad rfl rfl ?_;refine ab ⟨rfl,rfl,rfl,?_⟩;refine ad rfl rfl ?_;refine ab ⟨rfl,rfl,rfl,?_⟩;refine cy (M:=M) bV lT rfl rfl rfl (hv.le lY.le) (aq _ _) (by first|omega|decide) (fun arv aib aaR amd=>?_);obtain rfl:(b1,b2,b3)=aib:=dD (aH (aaR.symm.trans (by rw[ay];exact hy)));refine ab ⟨rfl,rfl,rfl,?_⟩;refine aN (M:=M) (A:=RT.hd) (B:=RT.int .i64) dI rfl rfl I3 (by decide) (Sy) rfl rfl (by decide) (by assumption) (by repeat (first|exact aq _ _|refine a8 (bD (by assumption)) ?_)) (fun arw ame=>?_);refine ab ⟨rfl,rfl,rfl,?_⟩
 refine cb (M:=M) ax rfl rfl (by assumption) (by repeat (first|exact aq _ _|refine a8 (bD (by assumption)) ?_)) (fun SJ=>?_);refine aV (v':= .int .i64 (b1)) rfl ?_;replace SJ: -9223372036854775808≤(b1:Int)∧b1≤9223372036854775807:=SJ;refine ab ⟨rfl,rfl,rfl,?_⟩;refine cj rfl rfl rfl ?_;refine ab ⟨rfl,rfl,rfl,?_⟩;refine ah rfl rfl ?_;refine ab ⟨rfl,rfl,rfl,?_⟩;refine ew (aO ?_);exact aS rfl rfl ⟨by rw[Sz hx,Sz hy],lY⟩
set_option maxHeartbeats 4000000 in
theorem oG {M:aD} {w0:World} {base:Nat} {v:Value} {hs:List Hd} {i j:Nat} (h:Own RT.hd 183 M w0 base v hs) (hv:v≠ .slice none 0 0) (hi:i<hs.length) (hj:j<hs.length):
  Spec Tryz.prog 331 #[v,.int .i64 i,.int .i64 j] w0 (fun v' w'=>Own RT.hd 183 M w' base v (swp hs i j)∧Step M w0 M w' (fz v)):=by
 obtain⟨g,cap,cur,rfl,Tq,QP,EN⟩:=h.vB hv;obtain⟨⟨x1,x2,x3⟩,hx⟩:∃x,hs[i]? =some x:=⟨_,ar hi⟩;obtain⟨⟨y1,y2,y3⟩,hy⟩:∃x,hs[j]? =some x:=⟨_,ar hj⟩;obtain⟨vx,rD⟩:∃vx,RT.hd.V M w0 (x1,x2,x3) vx:=h.val hx;obtain⟨vy,RH⟩:∃vy,RT.hd.V M w0 (y1,y2,y3) vy:=h.val hy;obtain⟨rfl,rx1,rx2,rx3⟩:=tp rD;obtain⟨rfl,ry1,ry2,ry3⟩:=tp RH;refine bc (args:=[_,_,_]) (fn:=Tryz.f331) Tryz.func331 rfl (n:=20) Tryz.ntmps331 ?_;apply T.Rt (M:=M) mixed [(13,fun k=>k=g),(15,fun k=>k=g)] [cL.eq _,cL.eq _,cL.eq _,cL.eq _,cL.eq _,cL.eq _,cL.eq (.pointer (some ⟨g,j*3,none⟩)),cL.eq (.agg #[.int .i64 y1,.int .i64 y2,.int .i64 y3]),cL.eq _,cL.eq _,cL.eq (.pointer (some ⟨g,i*3,none⟩)),cL.eq (.agg #[.int .i64 x1,.int .i64 x2,.int .i64 x3]),cL.eq (.pointer (some ⟨g,i*3,none⟩)),(cL.mk' (fun _ w=>Own RT.hd 183 M w base (.slice (some ⟨g,0,none⟩) hs.length cap) (hs.set i (y1,y2,y3))∨Own RT.hd 183 M w base (.slice (some ⟨g,0,none⟩) hs.length cap) (swp hs i j)) (fun h s=>h.imp (fun h=>h.aP s) (fun h=>h.aP s))),cL.eq (.pointer (some ⟨g,j*3,none⟩)),(cL.mk' (fun _ w=>Own RT.hd 183 M w base (.slice (some ⟨g,0,none⟩) hs.length cap) (swp hs i j)) (fun h s=>h.aP s))]
 ·rfl
 ·intro p hp b hb;simp only[cf,eC,or_false]at hp;rcases hp with rfl|rfl<;>(have hb:b=g:=hb;subst hb;exact QP)
 ·refine yd.of [(13,15)] ?_ ?_
  ·exact⟨fun _ _ _ _=>trivial,⟨fun _ _ _ _=>trivial,⟨fun _ _ _ _=>trivial,⟨fun _ _ _ _=>trivial,⟨fun _ _ _ _=>trivial,⟨fun _ _ _ _=>trivial,⟨fun _ _ _ _=>trivial,⟨fun _ _ _ _=>trivial,⟨fun _ _ _ _=>trivial,⟨fun _ _ _ _=>trivial,⟨fun _ _ _ _=>trivial,⟨fun _ _ _ _=>trivial,⟨fun _ _ _ _=>trivial,⟨fun p hp=>(eC (show p∈([]:List (Nat×aD))from hp)).elim,⟨fun _ _ _ _=>trivial,⟨fun p hp=>(eC (show p∈([]:List (Nat×aD))from hp)).elim,trivial⟩⟩⟩⟩⟩⟩⟩⟩⟩⟩⟩⟩⟩⟩⟩⟩
  ·intro x hx s sj h1 h2 v vj w w' hp st hq;obtain rfl:=bJ.1 hx;obtain rfl:=aH h1;obtain rfl:=aH h2;exact Or.inr hq
 ·refine cD ?_ ?_
  ·intro wD E sD;replace sD:Step M _ M wD aC:=sD;refine ad rfl rfl ?_;exact ab ⟨rfl,rfl,_,rfl,rfl,aw _ _⟩
  refine cD ?_ ?_
  ·intro wD E sD;replace sD:Step M _ M wD aC:=sD;refine ad rfl rfl ?_;exact ab ⟨rfl,rfl,_,rfl,rfl,aw _ _⟩
  refine cD ?_ ?_
  ·intro wD E sD;replace sD:Step M _ M wD (fun k=>k=g):=sD;refine ad rfl rfl ?_;exact ab ⟨rfl,rfl,_,rfl,rfl,aw _ _⟩
  refine cD ?_ ?_
  ·intro wD E sD;replace sD:Step M _ M wD (fun k=>k=g):=sD;refine ad rfl rfl ?_;exact ab ⟨rfl,rfl,_,rfl,rfl,aw _ _⟩
  refine cD ?_ ?_
  ·intro wD E sD;replace sD:Step M _ M wD aC:=sD;refine ad rfl rfl ?_;exact ab ⟨rfl,rfl,_,rfl,rfl,aw _ _⟩
  refine cD ?_ ?_
  ·intro wD E sD;replace sD:Step M _ M wD aC:=sD;refine ad rfl rfl ?_;exact ab ⟨rfl,rfl,_,rfl,rfl,aw _ _⟩
  refine cD ?_ ?_
  ·intro wD E sD;replace sD:Step M _ M wD aC:=sD;refine aR (aR (wz (size:=3) bV lT rfl rfl rfl (by omega) (q:=j*3) (by rw[ay,fL]) ?_));exact ab ⟨rfl,rfl,_,rfl,rfl,aw _ _⟩
  refine cD ?_ ?_
  ·intro wD E sD;replace sD:Step M _ M wD aC:=sD;refine aR ?_;refine cX (M:=fun k=>M k∧k≠g) (A:=RT.hd) dI rfl lT (by decide) rfl rfl rfl ((h.aP sD).ptr hy) (aq _ _) (fun va lP=>?_);obtain⟨rfl,_,_,_⟩:=tp lP;exact ab ⟨rfl,rfl,_,rfl,rfl,aw _ _⟩
  refine cD ?_ ?_
  ·intro wD E sD;replace sD:Step M _ M wD (fun k=>k=g):=sD;refine ad rfl rfl ?_;exact ab ⟨rfl,rfl,_,rfl,rfl,aw _ _⟩
  refine cD ?_ ?_
  ·intro wD E sD;replace sD:Step M _ M wD (fun k=>k=g):=sD;refine ad rfl rfl ?_;exact ab ⟨rfl,rfl,_,rfl,rfl,aw _ _⟩
  refine cD ?_ ?_
  ·intro wD E sD;replace sD:Step M _ M wD (fun k=>k=g):=sD;refine aR (aR (wz (size:=3) bV lT rfl rfl rfl (by omega) (q:=i*3) (by rw[ay,fL]) ?_));exact ab ⟨rfl,rfl,_,rfl,rfl,aw _ _⟩
  refine cD ?_ ?_
  ·intro wD E sD;replace sD:Step M _ M wD aC:=sD;refine aR ?_;refine cX (M:=fun k=>M k∧k≠g) (A:=RT.hd) dI rfl lT (by decide) rfl rfl rfl ((h.aP sD).ptr hx) (aq _ _) (fun va lP=>?_);obtain⟨rfl,_,_,_⟩:=tp lP;exact ab ⟨rfl,rfl,_,rfl,rfl,aw _ _⟩
  refine cD ?_ ?_
  ·intro wD E sD;replace sD:Step M _ M wD aC:=sD;refine aR (aR (aR (aR (aR (aR (aR (aR (aR (wz (size:=3) bV lT rfl rfl rfl (by omega) (q:=i*3) (by rw[ay,fL]) ?_)))))))));exact ab ⟨rfl,rfl,_,rfl,rfl,aw _ _⟩
  refine cD ?_ ?_
  ·intro wD E sD;replace sD:Step M _ M wD aC:=sD;refine aR (aR (aR (aR (aR (aR (aR (aR (aR ?_))))))));refine Rg.FZ (A:=RT.hd) (M:=M) lT rfl rfl rfl (h.aP sD) hi (NZ ry1 ry2 ry3) (fun w' fO s'=>?_);exact ab ⟨rfl,rfl,undef,rfl,.inl fO,s'⟩
  refine cD ?_ ?_
  ·intro wD E sD;replace sD:Step M _ M wD (fun k=>k=g):=sD;refine aR (aR (aR (aR (aR (aR (aR (aR (aR (aR (aR (aR ?_)))))))))));refine aR (aR (aR ?_));intro Sd Ob;refine wz (size:=3) bV lT rfl rfl rfl (by omega) (q:=j*3) (by rw[ay,fL]) ?_;exact ab ⟨rfl,rfl,_,rfl,rfl,aw _ _⟩
  refine cD ?_ ?_
  ·intro wD E sD;replace sD:Step M _ M wD (fun k=>k=g):=sD;refine aR (aR ?_);intro Sd Ob;refine aR (aR (aR (aR (aR (aR (aR (aR (aR (aR (aR (aR ?_)))))))))));refine aR ?_;intro Sd Ob;rcases Ob with ho|ho
   ·refine Rg.FZ (A:=RT.hd) (M:=M) lT rfl rfl rfl ho (by rw[fm];exact hj) (NZ rx1 rx2 rx3) (fun w' fO s'=>?_);exact ab ⟨rfl,rfl,undef,rfl,by rw[Ik hx hy];exact fO,s'⟩
   ·refine Rg.FZ (A:=RT.hd) (M:=M) lT rfl rfl rfl ho (by rw[lR];exact hj) (NZ rx1 rx2 rx3) (fun w' fO s'=>?_);exact ab ⟨rfl,rfl,undef,rfl,by rw[JM hx hy]at fO;exact fO,s'⟩
  exact eh.nil
 ·intro wD0 V5;replace V5:Step M _ M wD0 (fun b=>(fun k=>k=g) b∨(fun k=>k=g) b):=V5;refine aR (aR (aR (aR (aR (aR (aR (aR (aR (aR (aR (aR ?_)))))))))));refine aR ?_;intro ami aid;refine aR ?_;intro amj V6
  first|refine rq ?_|simp+decide only[ru,jx,if_true,if_false]|skip
  exact fR rfl ⟨V6,V5.cA (fun b hb=>by rcases hb with hb|hb<;>(have hb:b=g:=hb;subst hb;rfl)) (fun b hb=>by have hb:b=g:=(aH hb).symm;subst hb;exact QP)⟩
theorem Hl {M:aD} {w0:World} {bh base:Nat} {v:Value} {hs:List Hd} {a b c:Int} (hM:Lt M w0) (h:rI 180 183 M w0 bh base v hs) (ra:lS a) (rb:lS b) (rc:lS c) (hl:hs.length≤1099511627776):
  Spec Tryz.prog 330 #[.pointer (some ⟨bh,0,none⟩),.iface 183 (.agg #[.int .i64 a,.int .i64 b,.int .i64 c])] w0 (fun v' w'=>∃M' v2,rI 180 183 M' w' bh base v2 (hs++[(a,b,c)])∧Lt M' w'∧Step M w0 M' w' (NB 183 M w0 bh base)):=by
 have hbh:=h.h;obtain⟨g,cap,cur,hvg,Tq,QP,EN⟩:=h.o.vB h.nn;have V7:=ak EN;refine bc (args:=[_,_]) (fn:=Tryz.f330) Tryz.func330 rfl (n:=13) Tryz.ntmps330 ?_;apply T.AR (M:=M) mixed [(7,fz v)] [cL.eq _,cL.eq _,cL.eq _,cL.eq _,cL.eq _,cL.eq _,cL.V ((RT.hd).sl) [(a,b,c)],(cL.mk' (fun v w=>∃M2,(∀b,b<w0.heap.size→(M2 b↔M b))∧Lt M2 w∧Own RT.hd 183 M2 w base v (hs++[(a,b,c)])) (fun⟨M2,h1,h2,h3⟩ s=>⟨M2,h1,(s.any M2).lt h2,h3.aP (s.any M2)⟩))] 8
 ·rfl
 ·rfl
 ·rfl
 ·rfl
 ·rfl
 ·intro p hp b hb;obtain rfl:=bJ.1 hp;exact h.o.mut_ b hb
 ·exact⟨fun _ _ _ _=>trivial,⟨fun _ _ _ _=>trivial,⟨fun _ _ _ _=>trivial,⟨fun _ _ _ _=>trivial,⟨fun _ _ _ _=>trivial,⟨fun _ _ _ _=>trivial,⟨fun _ _ _ _=>trivial,⟨fun p hp=>(eC (show p∈([]:List (Nat×aD))from hp)).elim,trivial⟩⟩⟩⟩⟩⟩⟩⟩
 ·refine aF ?_ ?_
  ·intro wD E sD;replace sD:Step M _ M wD (fz v):=sD;refine ad rfl rfl ?_;exact ab ⟨rfl,rfl,_,rfl,rfl,aw _ _⟩
  refine aF ?_ ?_
  ·intro wD E sD;replace sD:Step M _ M wD (fz v):=sD;refine ad rfl rfl ?_;exact ab ⟨rfl,rfl,_,rfl,rfl,aw _ _⟩
  refine aF ?_ ?_
  ·intro wD E sD;replace sD:Step M _ M wD (fz v):=sD;refine aR (bS rfl ⟨_,rfl⟩ rfl ?_);exact ab ⟨rfl,rfl,_,rfl,rfl,aw _ _⟩
  refine aF ?_ ?_
  ·intro wD E sD;replace sD:Step M _ M wD aC:=sD;refine aR (aM bV rfl rfl rfl (cW sD (by assumption)) rfl ?_);exact ab ⟨rfl,rfl,_,rfl,rfl,aw _ _⟩
  refine aF ?_ ?_
  ·intro wD E sD;replace sD:Step M _ M wD (fz v):=sD;refine ad rfl rfl ?_;exact ab ⟨rfl,rfl,_,rfl,rfl,aw _ _⟩
  refine aF ?_ ?_
  ·intro wD E sD;replace sD:Step M _ M wD (fz v):=sD;refine aR (Rg.HH dI rfl rfl rfl ?_);exact ab ⟨rfl,rfl,_,rfl,rfl,aw _ _⟩
  refine aF ?_ ?_
  ·intro wD E sD;replace sD:Step M _ M wD aC:=sD;refine aR ?_;refine ed (A:=RT.hd) (hn:=by decide) (M:=M) bV lT (by decide) rfl rfl (sD.lt hM) (NZ ra rb rc) (.inl rfl) (fun u6 w6 Gc s6=>?_);exact ab ⟨rfl,rfl,_,rfl,Gc,s6⟩
  refine aF ?_ ?_
  ·intro wD E sD;replace sD:Step M _ M wD aC:=sD;refine aR ?_;intro v6 wT;refine cZ (M:=M) (base:=base) bV lT rfl rfl rfl rfl (h.o.aP sD) wT (aq _ _) (by simp;omega) (by simp;omega) (by have:=sD.size;omega) (fun v7 M7 w7 nh s7=>?_);exact ab ⟨rfl,rfl,_,rfl,⟨M7,fun b hb=>(s7.mem b (iu hb sD.size)),s7.lt (sD.lt hM),nh⟩,s7.back⟩
  exact sH
 ·intro wD0 V5;replace V5:Step M _ M wD0 (fz v):=V5;refine aR (aR (aR (aR (aR (aR ?_)))));intro arA amk;intro aie aaS;obtain⟨M7,hm7,hl7,nh⟩:=aaS;have s7:=V5.aaq hm7 hl7;have hb7:=s7.keep h.h (fun hk=>h.apart bh hk rfl);have mb7:M7 bh:=(hm7 bh (ak h.h)).2 h.mh;refine bS rfl ⟨_,rfl⟩ rfl ?_;refine cu (M:=M7) (u:=v) aaN rfl rfl hb7 rfl (by obtain⟨_,_,he,_⟩:=nh.isSlice;rw[he];rfl) mb7 (fun w9 h9 s9=>?_);refine ab ?_
  first|refine rq ?_|simp+decide only[ru,jx,if_true,if_false]|skip
  refine fR rfl ⟨M7,aie,⟨h9,mb7,nh.step s9 (fun k hk=>nh.apart hb7 h.ne k hk),nh.Cs (by simp),h.ne⟩,s9.lt hl7,?_⟩;exact(s7.nbw h).trans s9 (fun b hb he=>⟨he▸h.mh,.inl he⟩)
theorem J0 {M:aD} {w0:World} {bh base:Nat} {v:Value} {hs:List Hd} {a b c:Int} (hM:Lt M w0) (h:rI 180 183 M w0 bh base v hs) (hx:hs[hs.length-1]? =some (a,b,c)):
  Spec Tryz.prog 329 #[.pointer (some ⟨bh,0,none⟩)] w0 (fun v' w'=>v'= .iface 183 (.agg #[.int .i64 a,.int .i64 b,.int .i64 c])∧∃M' v2,rI 180 183 M' w' bh base v2 (hs.take (hs.length-1))∧Lt M' w'∧Step M w0 M' w' (NB 183 M w0 bh base)):=by
 obtain⟨g,cap,cur,rfl,Tq,QP,EN⟩:=h.o.vB h.nn;have hbh:=h.h;have hlen:=h.o.ltM;have tG:=(ao.1 hx).1;obtain⟨vx,rD⟩:=h.o.val hx;obtain⟨rfl,ra,rb,rc⟩:=tp rD;obtain⟨_,XA,aaT,amp⟩:=h.o.isSlice;simp only[fQ]at aaT;have lv:hs.length≤cap:=by omega
 refine bc (args:=[_]) (fn:=Tryz.f329) Tryz.func329 rfl (n:=27) Tryz.ntmps329 (aj (ae (ah rfl rfl (ab (aj ?_)))));apply T.AR (M:=M) mixed [] [cL.eq _,cL.eq _,cL.eq _,cL.eq _,cL.eq _,cL.eq _,cL.eq _,cL.eq _,cL.eq (.pointer (some ⟨g,(hs.length-1)*3,none⟩)),cL.eq (.agg #[.int .i64 a,.int .i64 b,.int .i64 c]),(cL.mk' (fun v w=>∃b:Nat,v= .pointer (some ⟨b,0,none⟩)∧w0.heap.size≤b∧b<w.heap.size∧w.heap[b]? =some (.cells #[.int .i64 0,.int .i64 0,.int .i64 0] 183 (0,0))) (fun⟨b,h1,h2,h3,h4⟩ s=>⟨b,h1,h2,iu h3 s.size,s.aK h4⟩))] 11
 ·rfl
 ·rfl
 ·rfl
 ·rfl
 ·rfl
 ·exact fun p hp=>by cases hp
 ·exact vg.none
 ·refine aF ?_ ?_
  ·intro wD E sD;refine ad rfl rfl ?_;exact ab ⟨rfl,rfl,_,rfl,rfl,aw _ _⟩
  refine aF ?_ ?_
  ·intro wD E sD;refine aR (bS rfl ⟨_,rfl⟩ rfl ?_);exact ab ⟨rfl,rfl,_,rfl,rfl,aw _ _⟩
  refine aF ?_ ?_
  ·intro wD E sD;refine aR (aM bV rfl rfl rfl (cW sD (by assumption)) rfl ?_);exact ab ⟨rfl,rfl,_,rfl,rfl,aw _ _⟩
  refine aF ?_ ?_
  ·intro wD E sD;refine ad rfl rfl ?_;exact ab ⟨rfl,rfl,_,rfl,rfl,aw _ _⟩
  refine aF ?_ ?_
  ·intro wD E sD;refine aR (bS rfl ⟨_,rfl⟩ rfl ?_);exact ab ⟨rfl,rfl,_,rfl,rfl,aw _ _⟩
  refine aF ?_ ?_
  ·intro wD E sD;refine aR (aM bV rfl rfl rfl (cW sD (by assumption)) rfl ?_);exact ab ⟨rfl,rfl,_,rfl,rfl,aw _ _⟩
  refine aF ?_ ?_
  ·intro wD E sD;refine aR (Rg.mn bV rfl rfl ?_);exact ab ⟨rfl,rfl,_,rfl,rfl,aw _ _⟩
  refine aF ?_ ?_
  ·intro wD E sD;refine aR (fe rfl rfl rfl (by omega) ?_);exact ab ⟨rfl,rfl,_,rfl,rfl,aw _ _⟩
  refine aF ?_ ?_
  ·intro wD E sD;refine aR (aR (wz (size:=3) bV lT rfl rfl rfl (by omega) (q:=(hs.length-1)*3) (by rw[show((hs.length:Int)-1).toNat=hs.length-1 from by omega,fL]) ?_));exact ab ⟨rfl,rfl,_,rfl,rfl,aw _ _⟩
  refine aF ?_ ?_
  ·intro wD E sD;refine aR ?_;refine cX (M:=fun k=>M k∧k≠g) (A:=RT.hd) dI rfl lT (by decide) rfl rfl rfl ((h.o.aP sD).ptr hx) (aq _ _) (fun va lP=>?_);obtain⟨rfl,_,_,_⟩:=tp lP;exact ab ⟨rfl,rfl,_,rfl,rfl,aw _ _⟩
  refine aF ?_ ?_
  ·intro wD E sD;refine dP M lT rfl (fun b7 w7 z7 z7' g7 s7=>?_);exact ab ⟨rfl,rfl,_,rfl,⟨b7,rfl,ez sD.size z7,z7',g7⟩,s7.any M⟩
  exact sH
 ·intro Fv lY;refine aR (aR (aR (aR (aR (aR (aR (aR (aR (aR ?_)))))))));intro amq V8;obtain⟨b7,rfl,z7,z7',g7⟩:=V8;have s7:=lY.own z7 z7';refine dC (M:=ins M b7) (vs:=[.int .i64 a,.int .i64 b,.int .i64 c]) lT rfl rfl (by intro u hu;simp only[cf,eC,or_false]at hu;rcases hu with rfl|rfl|rfl<;>rfl) rfl rfl g7 (.inl rfl) (fun w8 g8 s8=>?_);have S8:=s7.cd s8 (fun b hb=>by have hb:b=b7:=hb;rw[hb];exact z7);have Mu:=ak hbh;have aih:=S8.aK hbh;clear hbh;refine ab (aj ?_);apply T.AR (M:=ins M b7) mixed [] [cL.eq _,cL.eq _,cL.eq _,cL.eq _,cL.eq _,cL.eq _,cL.eq _,cL.eq _,cL.eq _,cL.eq (.slice (some ⟨g,0,none⟩) (hs.length-1) cap)] 10
  ·rfl
  ·rfl
  ·rfl
  ·rfl
  ·rfl
  ·exact fun p hp=>by cases hp
  ·exact vg.none
  ·refine aF ?_ ?_
   ·intro wD E sD;refine ad rfl rfl ?_;exact ab ⟨rfl,rfl,_,rfl,rfl,aw _ _⟩
   refine aF ?_ ?_
   ·intro wD E sD;refine ad rfl rfl ?_;exact ab ⟨rfl,rfl,_,rfl,rfl,aw _ _⟩
   refine aF ?_ ?_
   ·intro wD E sD;refine aR (bS rfl ⟨_,rfl⟩ rfl ?_);exact ab ⟨rfl,rfl,_,rfl,rfl,aw _ _⟩
   refine aF ?_ ?_
   ·intro wD E sD;refine aR (aM bV rfl rfl rfl (cW sD (by assumption)) rfl ?_);exact ab ⟨rfl,rfl,_,rfl,rfl,aw _ _⟩
   refine aF ?_ ?_
   ·intro wD E sD;refine ad rfl rfl ?_;exact ab ⟨rfl,rfl,_,rfl,rfl,aw _ _⟩
   refine aF ?_ ?_
   ·intro wD E sD;refine aR (bS rfl ⟨_,rfl⟩ rfl ?_);exact ab ⟨rfl,rfl,_,rfl,rfl,aw _ _⟩
   refine aF ?_ ?_
   ·intro wD E sD;refine aR (aM bV rfl rfl rfl (cW sD (by assumption)) rfl ?_);exact ab ⟨rfl,rfl,_,rfl,rfl,aw _ _⟩
   refine aF ?_ ?_
   ·intro wD E sD;refine aR (Rg.mn bV rfl rfl ?_);exact ab ⟨rfl,rfl,_,rfl,rfl,aw _ _⟩
   refine aF ?_ ?_
   ·intro wD E sD;refine aR (fe rfl rfl rfl (by omega) ?_);exact ab ⟨rfl,rfl,_,rfl,rfl,aw _ _⟩
   refine aF ?_ ?_
   ·intro wD E sD;refine aR (aR (Rg.TQ bV lT rfl rfl rfl (by omega) (aV (v':= .slice (some ⟨g,0,none⟩) (hs.length-1) cap) (by rw[show((hs.length:Int)-1).toNat=hs.length-1 from by omega]) ?_)));exact ab ⟨rfl,rfl,_,rfl,rfl,aw _ _⟩
   exact sH
  ·intro wD2 JI;refine aR (aR (aR (aR (aR (aR (aR (aR (aR (aR (bS rfl ⟨_,rfl⟩ rfl ?_))))))))));refine cu (M:=ins M b7) (u:= .slice (some ⟨g,0,none⟩) hs.length cap) aaN rfl rfl (JI.aK aih) rfl rfl (.inr h.mh) (fun w9 h9 s9=>?_);have g9:=s9.keep (JI.aK g8) (fun e=>by have e:b7=bh:=e;omega);refine ab (aj (ae (fE (vs:=[.int .i64 a,.int .i64 b,.int .i64 c]) dI rfl lT rfl rfl rfl g9 (Rg.xM dI rfl rfl rfl (ah rfl rfl (ab (aO ?_)))))));have Qx:Own RT.hd 183 (ins M b7) w9 base (.slice (some ⟨g,0,none⟩) hs.length cap) hs:=((h.o.aP S8).aP JI).step s9 (fun k hk e=>h.apart k hk e);have S9:=(S8.aB JI).cA (N':=NB 183 M w0 bh base) (fun _ h=>h.elim) (fun _ h=>h.1);exact aS rfl rfl ⟨rfl,ins M b7,_,⟨h9,.inr h.mh,Qx.cut (by omega),by simp,h.ne⟩,s9.lt (JI.lt (S8.lt hM)),S9.trans s9 (fun b hb he=>⟨he▸h.mh,.inl he⟩)⟩
end Go.K
namespace Go.K
open Go.Proofs
namespace TKHeap11
theorem Q2:Enters Tryz.prog 110:=enters Tryz.func110 rfl (by decide)
theorem aii:Enters Tryz.prog 159:=enters Tryz.func159 rfl (by decide)
theorem aij:Enters Tryz.prog 160:=enters Tryz.func160 rfl (by decide)
theorem Oc:Enters Tryz.prog 328:=enters Tryz.func328 rfl (by decide)
theorem aik:Enters Tryz.prog 329:=enters Tryz.func329 rfl (by decide)
theorem ail:Enters Tryz.prog 330:=enters Tryz.func330 rfl (by decide)
theorem Od:Enters Tryz.prog 331:=enters Tryz.func331 rfl (by decide)
end TKHeap11
open TKHeap11
set_option maxRecDepth 10000
theorem Q3 {M:aD} {w0:World} {bh base:Nat} {v:Value} {hs:List Hd} {j:Nat} (h0:rI 180 183 M w0 bh base v hs) (dn:O7 hs j) (XF:j<hs.length) (hl:hs.length≤140737488355328):
  Spec Tryz.prog 159 #[.iface 178 (.pointer (some ⟨bh,0,none⟩)),.int .i64 j] w0 (fun v' w'=>∃rh,rI 180 183 M w' bh base v rh∧p8 rh∧rh.Perm hs∧Step M w0 M w' (fz v)):=by
 refine bc (args:=[_,_]) (fn:=Tryz.f159) Tryz.func159 rfl (n:=23) Tryz.ntmps159 (aZ ?_);refine de (σ:=Nat×List Hd) (fun s=>[(0,.iface 178 (.pointer (some ⟨bh,0,none⟩))),(1,.int .i64 s.1)]) (fun s w=>rI 180 183 M w bh base v s.2∧O7 s.2 s.1∧s.1<s.2.length∧s.2.length=hs.length∧s.2.Perm hs∧Step M w0 M w (fz v)) (fun s=>s.1) (j,hs) (.cons rfl (.cons rfl .nil)) ?_ ?_
 ·exact⟨h0,dn,XF,rfl,List.Perm.refl _,(aw _ _).cA (fun _ h=>h.elim) (fun b hb=>h0.o.mut_ b hb)⟩
 ·rintro⟨k,xs⟩ w1 ⟨h,hu,hk,qV,hp,S⟩;dsimp only at h hu hk qV hp ⊢;refine aZ (aj (ae (ad rfl rfl (fe rfl rfl rfl (by omega) (Rg.par rfl rfl rfl (by omega) ?_)))));obtain⟨i,hi⟩:∃i:Nat,i=(k-1)/2:=⟨_,rfl⟩;rw[←hi];refine ah rfl rfl (ab (aj (aj (ae (ad rfl rfl (ad rfl rfl (nX rfl rfl rfl (ad rfl rfl ?_))))))));refine aQ (g:=11) rfl (fun lh=>?_) (fun lh=>?_)
  ·refine au rfl rfl rfl rfl (au rfl rfl rfl rfl (au rfl rfl rfl rfl (au rfl rfl rfl rfl (au rfl rfl rfl rfl (aY rfl rfl rfl (ab (nQ rfl (cG ?_))))))))
   first|refine rq ?_|simp+decide only[ru,jx,if_true,if_false]|skip
   first
   |exact fR rfl ⟨xs,h,hu.done (.inl (by omega)),hp,S⟩
   |exact fR rfl ⟨xs,h,hu.done (.inr (by rw[←hi];omega)),hp,S⟩
  ·refine al rfl rfl (ad rfl rfl (al rfl rfl (ad rfl rfl (al rfl rfl (ad rfl rfl (al rfl rfl ?_))))));refine mS rfl rfl rfl (E4.load dj bV rfl h.h rfl) Oc (oF (i:=k) (j:=i) (h.view (by omega)) (by omega) (by omega)) (fun r w2 hq=>?_);obtain⟨rfl,sq⟩:=hq;have h:=h.aP (sq.any M);replace S:=S.aB (sq.any M);refine al rfl rfl (lH rfl rfl (aV (v':= .bool (decide (¬(hn xs k<hn xs i)))) (by rw[decide_not]) (aE rfl rfl rfl (ab ?_))));refine bN rfl (fun c1=>?_) (fun c1=>?_)
   ·refine cG ?_
    first|refine rq ?_|simp+decide only[ru,jx,if_true,if_false]|skip
    first
    |exact fR rfl ⟨xs,h,hu.done (.inl (by omega)),hp,S⟩
    |exact fR rfl ⟨xs,h,hu.done (.inr (by rw[←hi];omega)),hp,S⟩
   ·have dR:=cJ.1 c1;refine aU (aj (ae (ad rfl rfl (ad rfl rfl (ad rfl rfl ?_)))));refine mS rfl rfl rfl (E5.load dj bV rfl h.h rfl) Od (oG (i:=i) (j:=k) h.o h.nn (by omega) (by omega)) (fun r w3 hq=>?_);obtain⟨ho,sq⟩:=hq;have h2:=h.wrote sq ho;have S2:=S.trans sq (fun _ _ h=>h);refine ab (ae (ad rfl rfl (ah rfl rfl (ab ?_))));refine⟨rfl,(i,swp xs i k),(.cons rfl (.cons rfl .nil)),?_,?_⟩
    ·refine⟨h2,?_,by rw[lR];simp only;omega,by rw[lR];exact qV,(qL (by omega) hk).trans hp,S2⟩;simp only;rw[hi];exact hu.swap hk (by omega) (by rw[←hi];exact dR)
    ·simp only;omega
theorem J1 {M:aD} {w0:World} {bh base:Nat} {v:Value} {hs:List Hd} {n:Nat} (h0:rI 180 183 M w0 bh base v hs) (Sy:Kp hs n 0) (hn0:n≤hs.length) (hl:hs.length≤140737488355328):
  Spec Tryz.prog 160 #[.iface 178 (.pointer (some ⟨bh,0,none⟩)),.int .i64 0,.int .i64 n] w0 (fun v' w'=>∃rh,rI 180 183 M w' bh base v rh∧(∀k,0<k→k<n→hn rh ((k-1)/2)≤hn rh k)∧rh.Perm hs∧(∀k,n≤k→rh.getD k (0,0,0)=hs.getD k (0,0,0))∧Step M w0 M w' (fz v)):=by
 refine bc (args:=[_,_,_]) (fn:=Tryz.f160) Tryz.func160 rfl (n:=48) Tryz.ntmps160 (aj (ae (ah rfl rfl (ab (aj (ae (ad rfl rfl (ah rfl rfl (ab (aj (aZ ?_)))))))))));refine de (σ:=Nat×List Hd) (fun s=>[(0,.iface 178 (.pointer (some ⟨bh,0,none⟩))),(1,.int .i64 0),(2,.int .i64 n),(7,.int .i64 s.1)]) (fun s w=>rI 180 183 M w bh base v s.2∧Kp s.2 n s.1∧s.1≤n∧s.2.length=hs.length∧s.2.Perm hs∧(∀k,n≤k→s.2.getD k (0,0,0)=hs.getD k (0,0,0))∧Step M w0 M w (fz v)) (fun s=>n-s.1) (0,hs) (.cons rfl (.cons rfl (.cons rfl (.cons rfl .nil)))) ?_ ?_
 ·exact⟨h0,Sy,bE _,rfl,List.Perm.refl _,fun _ _=>rfl,(aw _ _).cA (fun _ h=>h.elim) (fun b hb=>h0.o.mut_ b hb)⟩
 ·rintro⟨i,xs⟩ w1 ⟨h,hd,kq,qV,hp,hk,S⟩;dsimp only at h hd kq qV hp hk ⊢;refine aZ (aj (ae (ad rfl rfl (Rg.Pk rfl rfl rfl (by omega) (bF rfl rfl rfl (by omega) (aV (v':= .int .i64 ((2*i+1:Nat):Int)) (congrArg _ (by omega)) (ah rfl rfl (ab (aj (aj (ae ?_)))))))))));refine ad rfl rfl (ad rfl rfl (dV rfl rfl rfl (ad rfl rfl ?_)));refine aQ (g:=18) rfl (fun aim=>?_) (fun aim=>?_)
  ·refine au rfl rfl rfl rfl (au rfl rfl rfl rfl (aY rfl rfl rfl (ab (nQ rfl (cG (aj (ae (ad rfl rfl (ad rfl rfl (jd rfl rfl rfl (ah rfl rfl ?_)))))))))));refine ab (aO ?_)
   first
   |exact aS rfl rfl ⟨xs,h,hd.leaf (by omega),hp,hk,S⟩
   |exact aS rfl rfl ⟨xs,h,hd.stay CC K2 (by omega),hp,hk,S⟩
  ·refine al rfl rfl (ad rfl rfl (al rfl rfl (cj rfl rfl rfl (aE rfl rfl rfl (ab (T.tF rfl ((by omega)) (aU (aj (ae (ad rfl rfl (ah rfl rfl ?_)))))))))));refine ab (aj (aj (ae (ad rfl rfl (bF rfl rfl rfl (by omega) (aV (v':= .int .i64 ((2*i+2:Nat):Int)) (congrArg _ (by omega)) (ah rfl rfl (ab (aj (ae (ad rfl rfl ?_)))))))))));refine ad rfl rfl (cj rfl rfl rfl (ad rfl rfl ?_));refine aQ (g:=28) rfl (fun ot=>?_) (fun ot=>?_)
   ·refine al rfl rfl (ad rfl rfl (al rfl rfl (ad rfl rfl (al rfl rfl (ad rfl rfl (al rfl rfl ?_))))));refine mS rfl rfl rfl (E4.load dj bV rfl h.h rfl) Oc (oF (i:=2*i+2) (j:=2*i+1) (h.view (by omega)) (by omega) (by omega)) (fun r w2 hq=>?_);obtain⟨rfl,sq⟩:=hq;have h:=h.aP (sq.any M);replace S:=S.aB (sq.any M);refine aY rfl rfl rfl (ab ?_);refine bN rfl (fun c6=>?_) (fun c6=>?_)
    ·obtain⟨j,hj⟩:∃j:Nat,j=2*i+2:=⟨_,rfl⟩;have CC:j=2*i+1∨j=2*i+2:=by omega
     have Ke:j<n:=by omega
     have K2:∀k,(k=2*i+1∨k=2*i+2)→k<n→hn xs j≤hn xs k:=fun k hk GM=>by
      rcases hk with e|e
      ·rw[e,hj];omega
      ·rw[e,hj];exact Int.le_refl _
     refine ae (ad rfl rfl (ah rfl rfl (ab (aj (aj (ae (ad rfl rfl (ad rfl rfl (aV (v':= .int .i64 (j:Int)) (congrArg _ (by omega)) (ad rfl rfl ?_))))))))));refine mS rfl rfl rfl (E4.load dj bV rfl h.h rfl) Oc (oF (i:=j) (j:=i) (h.view (by omega)) (by omega) (by omega)) (fun r w3 hq=>?_);obtain⟨rfl,sq⟩:=hq;have h:=h.aP (sq.any M);replace S:=S.aB (sq.any M);refine lH rfl rfl (aV (v':= .bool (decide (¬(hn xs j<hn xs i)))) (by rw[decide_not]) (ab ?_));refine bN rfl (fun c8=>?_) (fun c8=>?_)
     ·refine cG (aj (ae (ad rfl rfl (ad rfl rfl (jd rfl rfl rfl (ah rfl rfl (ab (aO ?_))))))))
      first
      |exact aS rfl rfl ⟨xs,h,hd.leaf (by omega),hp,hk,S⟩
      |exact aS rfl rfl ⟨xs,h,hd.stay CC K2 (by omega),hp,hk,S⟩
     ·have dR:=cJ.1 c8;refine aU (aj (ae (ad rfl rfl (ad rfl rfl (ad rfl rfl (aV (v':= .int .i64 (j:Int)) (congrArg _ (by omega)) ?_))))));refine mS rfl rfl rfl (E5.load dj bV rfl h.h rfl) Od (oG (i:=i) (j:=j) h.o h.nn (by omega) (by omega)) (fun r w4 hq=>?_);obtain⟨ho,sq⟩:=hq;have h2:=h.wrote sq ho;have S2:=S.trans sq (fun _ _ h=>h);refine ab (ae (ad rfl rfl (aV (v':= .int .i64 (j:Int)) (congrArg _ (by omega)) (ah rfl rfl (ab ?_)))));refine⟨rfl,(j,swp xs i j),(.cons rfl (.cons rfl (.cons rfl (.cons rfl .nil)))),?_,?_⟩
      ·refine⟨h2,hd.swap (by omega) Ke CC K2 dR,by simp only;omega,by simp only;rw[lR];exact qV,(qL (by omega) (by omega)).trans hp,fun k GM=>?_,S2⟩;simp only;rw[qK (by omega) (by omega),if_neg (by omega),if_neg (by omega)];exact hk k GM
      ·simp only;omega
    ·obtain⟨j,hj⟩:∃j:Nat,j=2*i+1:=⟨_,rfl⟩;have CC:j=2*i+1∨j=2*i+2:=by omega
     have Ke:j<n:=by omega
     have K2:∀k,(k=2*i+1∨k=2*i+2)→k<n→hn xs j≤hn xs k:=fun k hk GM=>by
      rcases hk with e|e
      ·rw[e,hj];exact Int.le_refl _
      ·rw[e,hj];exact Int.not_lt.1 c6
     refine aU (aj (aj (ae (ad rfl rfl (ad rfl rfl (aV (v':= .int .i64 (j:Int)) (congrArg _ (by omega)) (ad rfl rfl ?_)))))));refine mS rfl rfl rfl (E4.load dj bV rfl h.h rfl) Oc (oF (i:=j) (j:=i) (h.view (by omega)) (by omega) (by omega)) (fun r w3 hq=>?_);obtain⟨rfl,sq⟩:=hq;have h:=h.aP (sq.any M);replace S:=S.aB (sq.any M);refine lH rfl rfl (aV (v':= .bool (decide (¬(hn xs j<hn xs i)))) (by rw[decide_not]) (ab ?_));refine bN rfl (fun c8=>?_) (fun c8=>?_)
     ·refine cG (aj (ae (ad rfl rfl (ad rfl rfl (jd rfl rfl rfl (ah rfl rfl (ab (aO ?_))))))))
      first
      |exact aS rfl rfl ⟨xs,h,hd.leaf (by omega),hp,hk,S⟩
      |exact aS rfl rfl ⟨xs,h,hd.stay CC K2 (by omega),hp,hk,S⟩
     ·have dR:=cJ.1 c8;refine aU (aj (ae (ad rfl rfl (ad rfl rfl (ad rfl rfl (aV (v':= .int .i64 (j:Int)) (congrArg _ (by omega)) ?_))))));refine mS rfl rfl rfl (E5.load dj bV rfl h.h rfl) Od (oG (i:=i) (j:=j) h.o h.nn (by omega) (by omega)) (fun r w4 hq=>?_);obtain⟨ho,sq⟩:=hq;have h2:=h.wrote sq ho;have S2:=S.trans sq (fun _ _ h=>h);refine ab (ae (ad rfl rfl (aV (v':= .int .i64 (j:Int)) (congrArg _ (by omega)) (ah rfl rfl (ab ?_)))));refine⟨rfl,(j,swp xs i j),(.cons rfl (.cons rfl (.cons rfl (.cons rfl .nil)))),?_,?_⟩
      ·refine⟨h2,hd.swap (by omega) Ke CC K2 dR,by simp only;omega,by simp only;rw[lR];exact qV,(qL (by omega) (by omega)).trans hp,fun k GM=>?_,S2⟩;simp only;rw[qK (by omega) (by omega),if_neg (by omega),if_neg (by omega)];exact hk k GM
      ·simp only;omega
   ·obtain⟨j,hj⟩:∃j:Nat,j=2*i+1:=⟨_,rfl⟩;have CC:j=2*i+1∨j=2*i+2:=by omega
    have Ke:j<n:=by omega
    have K2:∀k,(k=2*i+1∨k=2*i+2)→k<n→hn xs j≤hn xs k:=fun k hk GM=>by
     rcases hk with e|e
     ·rw[e,hj];exact Int.le_refl _
     ·omega
    refine au rfl rfl rfl rfl (au rfl rfl rfl rfl (au rfl rfl rfl rfl (au rfl rfl rfl rfl (aE rfl rfl rfl (ab (jE rfl (aU (aj (aj (ae (ad rfl rfl ?_)))))))))));refine ad rfl rfl (aV (v':= .int .i64 (j:Int)) (congrArg _ (by omega)) (ad rfl rfl ?_));refine mS rfl rfl rfl (E4.load dj bV rfl h.h rfl) Oc (oF (i:=j) (j:=i) (h.view (by omega)) (by omega) (by omega)) (fun r w3 hq=>?_);obtain⟨rfl,sq⟩:=hq;have h:=h.aP (sq.any M);replace S:=S.aB (sq.any M);refine lH rfl rfl (aV (v':= .bool (decide (¬(hn xs j<hn xs i)))) (by rw[decide_not]) (ab ?_));refine bN rfl (fun c8=>?_) (fun c8=>?_)
    ·refine cG (aj (ae (ad rfl rfl (ad rfl rfl (jd rfl rfl rfl (ah rfl rfl (ab (aO ?_))))))))
     first
     |exact aS rfl rfl ⟨xs,h,hd.leaf (by omega),hp,hk,S⟩
     |exact aS rfl rfl ⟨xs,h,hd.stay CC K2 (by omega),hp,hk,S⟩
    ·have dR:=cJ.1 c8;refine aU (aj (ae (ad rfl rfl (ad rfl rfl (ad rfl rfl (aV (v':= .int .i64 (j:Int)) (congrArg _ (by omega)) ?_))))));refine mS rfl rfl rfl (E5.load dj bV rfl h.h rfl) Od (oG (i:=i) (j:=j) h.o h.nn (by omega) (by omega)) (fun r w4 hq=>?_);obtain⟨ho,sq⟩:=hq;have h2:=h.wrote sq ho;have S2:=S.trans sq (fun _ _ h=>h);refine ab (ae (ad rfl rfl (aV (v':= .int .i64 (j:Int)) (congrArg _ (by omega)) (ah rfl rfl (ab ?_)))));refine⟨rfl,(j,swp xs i j),(.cons rfl (.cons rfl (.cons rfl (.cons rfl .nil)))),?_,?_⟩
     ·refine⟨h2,hd.swap (by omega) Ke CC K2 dR,by simp only;omega,by simp only;rw[lR];exact qV,(qL (by omega) (by omega)).trans hp,fun k GM=>?_,S2⟩;simp only;rw[qK (by omega) (by omega),if_neg (by omega),if_neg (by omega)];exact hk k GM
     ·simp only;omega
theorem J2 {M:aD} {w0:World} {bh base:Nat} {v:Value} {hs:List Hd} {a b c:Int} (hM:Lt M w0) (h:rI 180 183 M w0 bh base v hs) (hh:p8 hs) (ra:lS a) (rb:lS b) (rc:lS c) (hl:hs.length≤1099511627776):
  Spec Tryz.prog 109 #[.iface 178 (.pointer (some ⟨bh,0,none⟩)),.iface 183 (.agg #[.int .i64 a,.int .i64 b,.int .i64 c])] w0 (fun v' w'=>∃M' v2 rh,rI 180 183 M' w' bh base v2 rh∧p8 rh∧rh.Perm (hs++[(a,b,c)])∧Lt M' w'∧Step M w0 M' w' (NB 183 M w0 bh base)):=by
 refine bc (args:=[_,_]) (fn:=Tryz.f109) Tryz.func109 rfl (n:=12) Tryz.ntmps109 (aj (ae (ad rfl rfl (ad rfl rfl ?_))));refine mS rfl rfl rfl (aaP.ptr dj _) ail (Hl hM h ra rb rc hl) (fun r w1 hq=>?_);obtain⟨M1,v1,h1,nS,s1⟩:=hq;refine ab (ae (ad rfl rfl (ad rfl rfl ?_)));refine mS rfl rfl rfl (aaO.load dj bV rfl h1.h rfl) Q2 (vZ h1.o) (fun r w2 hq=>?_);obtain⟨rfl,rfl⟩:=hq;have IE:(hs++[(a,b,c)]).length=hs.length+1:=by simp
 refine fe rfl rfl rfl (by omega) (aV (v':= .int .i64 (hs.length:Int)) (congrArg _ (by omega)) ?_);refine aX rfl rfl aii (Q3 h1 (O7.push hh _) (by omega) (by omega)) (fun r2 w3 h=>?_);obtain⟨rh,h2,hh2,HG,s2⟩:=h;refine ab ?_
 first|refine rq ?_|simp+decide only[ru,jx,if_true,if_false]|skip
 exact fR rfl ⟨M1,v1,rh,h2,hh2,HG,s2.lt nS,s1.nb (s2.nbw h1)⟩
theorem Oe {M:aD} {w0:World} {bh base:Nat} {v:Value} {hs:List Hd} (hM:Lt M w0) (h:rI 180 183 M w0 bh base v hs) (hh:p8 hs) (tG:0<hs.length) (hl:hs.length≤1099511627776):
  Spec Tryz.prog 111 #[.iface 178 (.pointer (some ⟨bh,0,none⟩))] w0 (fun v' w'=>∃a b c M' v2 rh,v'= .iface 183 (.agg #[.int .i64 a,.int .i64 b,.int .i64 c])∧(lS a∧lS b∧lS c)∧rI 180 183 M' w' bh base v2 rh∧p8 rh∧((a,b,c)::rh).Perm hs∧(∀x∈hs,a≤x.1)∧Lt M' w'∧Step M w0 M' w' (NB 183 M w0 bh base)):=by
 refine bc (args:=[_]) (fn:=Tryz.f111) Tryz.func111 rfl (n:=15) Tryz.ntmps111 (aj (ae (ah rfl rfl (ab (aj (ae (ad rfl rfl ?_)))))));refine mS rfl rfl rfl (aaO.load dj bV rfl h.h rfl) Q2 (vZ h.o) (fun r w1 hq=>?_);obtain⟨rfl,rfl⟩:=hq;refine fe rfl rfl rfl (by omega) (aV (v':= .int .i64 ((hs.length-1:Nat):Int)) (congrArg _ (by omega)) (ah rfl rfl (ab (aj (ae (ad rfl rfl (ad rfl rfl ?_)))))));refine mS rfl rfl rfl (E5.load dj bV rfl h.h rfl) Od (oG (i:=0) (j:=hs.length-1) h.o h.nn (by omega) (by omega)) (fun r w2 hq=>?_);obtain⟨tq,s2⟩:=hq;have h2:=h.wrote s2 tq;have nC:=lR hs 0 (hs.length-1);refine ab (aj (ae (ad rfl rfl (ad rfl rfl ?_))));refine aX rfl rfl aij (J1 h2 (Kp.pop hh tG) (by omega) (by omega)) (fun r3 w3 h=>?_);obtain⟨ys,h3,IC,hp3,hk3,s3⟩:=h;have hpp:=hp3.trans (qL (xs:=hs) (i:=0) (j:=hs.length-1) (by omega) (by omega));have FU:=hpp.length_eq;have jk:ys.getD (hs.length-1) (0,0,0)=hs.getD 0 (0,0,0):=by rw[hk3 _ (aT _),qK (by omega) (by omega),if_pos rfl]
 obtain⟨⟨a,b,c⟩,JC⟩:∃x,ys[ys.length-1]? =some x:=⟨_,ar (by omega)⟩;obtain⟨x,hxe,hpx⟩:=QM tG hpp jk;have ain:x=(a,b,c):=by rw[←hxe,az,←FU,JC];rfl
 subst ain;obtain⟨vx,rD⟩:=h3.o.val JC;obtain⟨_,ra,rb,rc⟩:=tp rD;refine ab (aj (ae (ad rfl rfl ?_)));refine mS rfl rfl rfl (ah9.ptr dj _) aik (J0 (s3.lt (s2.lt hM)) h3 JC) (fun r w4 hq=>?_);obtain⟨rfl,M4,v4,h4,hM4,s4⟩:=hq;refine ah rfl rfl (ab (aO ?_));rw[FU]at h4
 have NY:∀x∈hs,a≤x.1:=fun x hx=>by
  obtain⟨k,hk,_,BI⟩:=VV hx;have:=hh.min k hk;have e0:hn hs 0=a:=by unfold hn;rw[←jk,hxe]
  omega
 have sS:=((s2.trans s3 (fun _ _ h=>h)).nbw h).nb s4;exact aS rfl rfl ⟨a,b,c,M4,v4,_,rfl,⟨ra,rb,rc⟩,h4,p8.take (by omega) IC,hpx,NY,hM4,sS⟩
end Go.K
namespace Go.K
open Go.Proofs
namespace TKPut11
theorem lT:TI Tryz.prog 183 (.agg #[(.int .i64 0),(.int .i64 0),(.int .i64 0)]) 3 24:=by unfold TI;kernel_rfl
theorem aio:placesOf Tryz.prog 183=[(0,1),(1,1),(2,1)].map some:=by kernel_rfl
theorem aip:Enters Tryz.prog 109:=enters Tryz.func109 rfl (by decide)
end TKPut11
open TKPut11
set_option maxRecDepth 10000
theorem E6 {M:aD} {w0:World} {bl b4 bh base:Nat} {vl v:Value} {ls:List (List Int)} {hs:List Hd} {i k:Nat} (hM:Lt M w0) (k3:w0.heap[bl]? =some (.cells #[vl] 119 (0,0))) (rF:w0.heap[b4]? =some (.cells #[.pointer (some ⟨bh,0,none⟩)] 178 (0,0))) (hv:(((RT.int .i64).sl).sl).V M w0 ls vl) (h:rI 180 183 M w0 bh base v hs) (hh:p8 hs) (hi:i<ls.length) (hk:k≤1099511627776) (hl:hs.length≤1099511627776):
  Spec Tryz.prog 108 #[.int .i64 i,.int .i64 k,.pointer (some ⟨bl,0,none⟩),.pointer (some ⟨b4,0,none⟩)] w0 (fun v' w'=>∃M' v2 rh,rI 180 183 M' w' bh base v2 rh∧p8 rh∧rh.Perm (hs++JL ls i k)∧Lt M' w'∧Step M w0 M' w' (NB 183 M w0 bh base)):=by
 have hlen:=dy hv;obtain⟨li,hli⟩:∃x,ls[i]? =some x:=⟨_,ar hi⟩;have o9:ls.getD i []=li:=by rw[az,hli];rfl
 refine bc (args:=[_,_,_,_]) (fn:=Tryz.f108) Tryz.func108 rfl (n:=27) Tryz.ntmps108 (aj (ae (ad rfl rfl (aM cK rfl rfl rfl k3 rfl (ad rfl rfl ?_)))));refine cy (M:=M) cK jL rfl rfl rfl (hv) (aq _ _) (by first|omega|decide) (fun arB air aaV ams=>?_);obtain rfl:li=air:=dD (aH (aaV.symm.trans (by rw[ay];exact hli)));refine bT (M:=M) an rfl rfl rfl rfl rfl (by assumption) (by repeat (first|exact aq _ _|refine a8 (bD (by assumption)) ?_)) (fun ais Of=>?_);replace Of:(((RT.int .i64).sl)).V M _ li ais:=Of
 first|refine bM an rfl (by assumption) rfl ?_|refine fM an rfl (by assumption) rfl ?_
 refine cj rfl rfl rfl (ab ?_);refine bN rfl (fun c0=>?_) (fun c0=>?_)
 ·obtain⟨n,hn⟩:∃x,li[k]? =some x:=⟨_,ar (by omega)⟩;have rn:lS n:=BE Of hn;have Ul:JL ls i k=[(n,(i:Int),(k:Int))]:=by unfold JL;rw[o9,hn]
  apply T.AR (M:=M) mixed [] [cL.eq _,cL.eq (.iface 178 (.pointer (some ⟨bh,0,none⟩))),cL.eq _,cL.eq _,cL.ptr (((RT.int .i64).sl)) li,cL.V (((RT.int .i64).sl)) li,cL.eq _,cL.ptr (RT.int .i64) n,cL.eq (.int .i64 n),cL.eq _,cL.eq _,cL.eq (.agg #[.int .i64 n,.int .i64 i,.int .i64 k]),cL.eq (.iface 183 (.agg #[.int .i64 n,.int .i64 i,.int .i64 k]))] 13
  ·rfl
  ·rfl
  ·rfl
  ·rfl
  ·rfl
  ·exact fun p hp=>by cases hp
  ·exact vg.none
  ·refine aF ?_ ?_
   ·intro wD E sD;refine aM dj rfl rfl rfl (sD.aK rF) rfl ?_;exact ab ⟨rfl,rfl,_,rfl,rfl,aw _ _⟩
   refine aF ?_ ?_
   ·intro wD E sD;refine aR (Rg.xM dj rfl rfl rfl ?_);exact ab ⟨rfl,rfl,_,rfl,rfl,aw _ _⟩
   refine aF ?_ ?_
   ·intro wD E sD;refine aM cK rfl rfl rfl (sD.aK k3) rfl ?_;exact ab ⟨rfl,rfl,_,rfl,rfl,aw _ _⟩
   refine aF ?_ ?_
   ·intro wD E sD;refine ad rfl rfl ?_;exact ab ⟨rfl,rfl,_,rfl,rfl,aw _ _⟩
   refine aF ?_ ?_
   ·intro wD E sD;refine aR (aR ?_);refine cy (M:=M) cK jL rfl rfl rfl (hv.le sD.le) (aq _ _) (by omega) (fun ui ai mO hui=>?_);obtain rfl:li=ai:=dD (aH (mO.symm.trans (by rw[ay];exact hli)));exact ab ⟨rfl,rfl,_,rfl,hui,aw _ _⟩
   refine aF ?_ ?_
   ·intro wD E sD;intro v4 qf;refine bT (M:=M) an rfl rfl rfl rfl rfl (show cN (((RT.int .i64).sl)) M wD v4 li from qf) (aq _ _) (fun va lP=>?_);exact ab ⟨rfl,rfl,_,rfl,lP,aw _ _⟩
   refine aF ?_ ?_
   ·intro wD E sD;refine ad rfl rfl ?_;exact ab ⟨rfl,rfl,_,rfl,rfl,aw _ _⟩
   refine aF ?_ ?_
   ·intro wD E sD;intro v5 qg;refine aR ?_;refine cy (M:=M) an I3 rfl rfl rfl ((show((RT.int .i64).sl).V M wD li v5 from qg)) (aq _ _) (by omega) (fun ui ai mO hui=>?_);obtain rfl:n=ai:=dD (aH (mO.symm.trans (by rw[ay];exact hn)));exact ab ⟨rfl,rfl,_,rfl,hui,aw _ _⟩
   refine aF ?_ ?_
   ·intro wD E sD;intro v7 Gp;refine cb (M:=M) ax rfl rfl (show cN (RT.int .i64) M wD v7 n from Gp) (aq _ _) (fun kq=>?_);exact ab ⟨rfl,rfl,_,rfl,rfl,aw _ _⟩
   refine aF ?_ ?_
   ·intro wD E sD;refine ad rfl rfl ?_;exact ab ⟨rfl,rfl,_,rfl,rfl,aw _ _⟩
   refine aF ?_ ?_
   ·intro wD E sD;refine ad rfl rfl ?_;exact ab ⟨rfl,rfl,_,rfl,rfl,aw _ _⟩
   refine aF ?_ ?_
   ·intro wD E sD;refine aR (aR (aR (iC (places:=[(0,1),(1,1),(2,1)]) dI lT aio rfl ⟨_,_,rfl,rfl,_,_,rfl,rfl,_,_,rfl,rfl,rfl⟩ (out:=[_,_,_]) ⟨0,[_],rfl,rfl,by simp[Value.cells],1,[_],rfl,rfl,by simp[Value.cells],2,[_],rfl,rfl,by simp[Value.cells],rfl⟩ ?_)));exact ab ⟨rfl,rfl,_,rfl,rfl,aw _ _⟩
   refine aF ?_ ?_
   ·intro wD E sD;refine aR (Rg.xM dI rfl rfl rfl ?_);exact ab ⟨rfl,rfl,_,rfl,rfl,aw _ _⟩
   exact sH
  ·intro Fv lY;refine aR (aR (aR (aR ?_)));intro aiu aaW;intro arC amt;refine aR ?_;intro ZD Si;refine aR (aR (aR (aR (aR ?_))));refine aX rfl rfl aip (J2 (lY.lt hM) (h.aP lY) hh rn (by unfold lS;omega) (by unfold lS;omega) hl) (fun r w1 hq=>?_);obtain⟨M1,v1,rh,h1,hh1,O4,nS,s1⟩:=hq;refine ab ?_
   first|refine rq ?_|simp+decide only[ru,jx,if_true,if_false]|skip
   exact fR rfl ⟨M1,v1,rh,h1,hh1,by rw[Ul];exact O4,nS,lY.nb0.nb s1⟩
 ·have Ul:JL ls i k=[]:=by unfold JL;rw[o9,dU (by omega)]
  refine aU ?_
  first|refine rq ?_|simp+decide only[ru,jx,if_true,if_false]|skip
  exact fR rfl ⟨M,v,hs,h,hh,by rw[Ul,iW],hM,(aw _ _).nb0⟩
end Go.K
namespace Go.K
open Go.Proofs
namespace TKRises11
theorem Qt:Enters Tryz.prog 51:=enters Tryz.func51 rfl (by decide)
theorem aiv:Enters Tryz.prog 106:=enters Tryz.func106 rfl (by decide)
theorem aiw:Enters Tryz.prog 107:=enters Tryz.func107 rfl (by decide)
theorem aix:Enters Tryz.prog 156:=enters Tryz.func156 rfl (by decide)
theorem aiy:Enters Tryz.prog 157:=enters Tryz.func157 rfl (by decide)
theorem aiz:Enters Tryz.prog 158:=enters Tryz.func158 rfl (by decide)
end TKRises11
open TKRises11
set_option maxRecDepth 10000
theorem E7 {M:aD} {w0:World} {v:Value} {l:List Int} (hM:Lt M w0) (hv:((RT.int .i64).sl).V M w0 l v) (hl:l.length≤1099511627776):
  Spec Tryz.prog 107 #[v] w0 (fun v' w'=>v'= .bool (eo (-1) l)∧Step M w0 M w' aC):=by
 refine bc (args:=[_]) (fn:=Tryz.f107) Tryz.func107 rfl (n:=25) Tryz.ntmps107 (aj (ae (ah rfl rfl (ab (aj (ae (ad rfl rfl (bM an rfl hv rfl (nX rfl rfl rfl (ad rfl rfl ?_))))))))));refine aQ (g:=6) rfl (fun lh=>?_) (fun lh=>?_)
 ·refine au rfl rfl rfl rfl (au rfl rfl rfl rfl (au rfl rfl rfl rfl (au rfl rfl rfl rfl (au rfl rfl rfl rfl (cq rfl rfl rfl (cq rfl rfl rfl (au rfl rfl rfl rfl (au rfl rfl rfl rfl (cq rfl rfl rfl (cq rfl rfl rfl (cq rfl rfl rfl ?_)))))))))));refine cq rfl rfl rfl (cq rfl rfl rfl (cq rfl rfl rfl (cq rfl rfl rfl (au rfl rfl rfl rfl (aY rfl rfl rfl (ah rfl rfl (ab (aO ?_))))))))
  first
  |(obtain rfl:l=[]:=cR.1 (by omega)
    exact aS rfl rfl ⟨rfl,aw _ _⟩)
  |exact aS rfl rfl ⟨congrArg Value.bool (by
    rw[lI,hY (by omega),decide_eq_true_iff,ir hx];exact⟨fun h=>⟨CD,uE,Pb.1 (by omega)⟩,fun h=>by have:=Pb.2 h.2.2;omega⟩),(s1.aB S3.back)⟩
  |exact aS rfl rfl ⟨congrArg Value.bool (dD (by
    rw[cV];intro h;exact uE ((hY (by omega)).1 h).2.1)),s1⟩
  |exact aS rfl rfl ⟨congrArg Value.bool (dD (by
    rw[cV];intro h;have:=((hY (by omega)).1 h).1;rw[ir hx]at this;exact CD this)),aw _ _⟩
 ·refine al rfl rfl (ad rfl rfl (al rfl rfl ?_));obtain⟨x,hx⟩:∃x,(l)[0]? =some x:=⟨_,ar (by omega)⟩;refine cy (M:=M) an I3 rfl rfl rfl (hv) (aq _ _) (by first|omega|decide) (fun arD aiA aaX amu=>?_);obtain rfl:x=aiA:=dD (aH (aaX.symm.trans hx));refine al rfl rfl ?_;refine cb (M:=M) ax rfl rfl (by assumption) (by repeat (first|exact aq _ _|refine a8 (bD (by assumption)) ?_)) (fun SK=>?_);refine aV (v':= .int .i64 (x)) rfl ?_;replace SK: -9223372036854775808≤(x:Int)∧x≤9223372036854775807:=SK;refine al rfl rfl (dV rfl rfl rfl (al rfl rfl (ad rfl rfl ?_)));refine aQ (g:=11) rfl (fun CD=>?_) (fun CD=>?_)
  ·refine al rfl rfl (ad rfl rfl (al rfl rfl ?_));refine aX rfl rfl aiy (AF hv (by omega)) (fun r1 w1 h=>?_);obtain⟨rfl,s1⟩:=h;refine al rfl rfl (aY rfl rfl rfl (al rfl rfl (ad rfl rfl ?_)));refine aQ (g:=15) rfl (fun uE=>?_) (fun uE=>?_)
   ·refine al rfl rfl (ad rfl rfl (al rfl rfl ?_));refine aX rfl rfl Qt (EZ (s1.lt hM) (hv.le s1.le) hl) (fun r2 w2 h=>?_);obtain⟨M2,tq,Fw,s2⟩:=h;refine al rfl rfl ?_;refine aX rfl rfl aiz (Cx tq hl) (fun r3 w3 h=>?_);obtain⟨ac,kc,cc,rfl,Pb,s3⟩:=h;have S3:=s2.cd s3 (fun b hb=>(tq.base b hb).1);refine al rfl rfl (Rg.mn an rfl rfl (al rfl rfl (ad rfl rfl (al rfl rfl (bM an rfl hv rfl (al rfl rfl (nX rfl rfl rfl (al rfl rfl (aY rfl rfl rfl (aE rfl rfl rfl (ah rfl rfl ?_)))))))))));refine ab (aO ?_)
    first
    |(obtain rfl:l=[]:=cR.1 (by omega)
      exact aS rfl rfl ⟨rfl,aw _ _⟩)
    |exact aS rfl rfl ⟨congrArg Value.bool (by
      rw[lI,hY (by omega),decide_eq_true_iff,ir hx];exact⟨fun h=>⟨CD,uE,Pb.1 (by omega)⟩,fun h=>by have:=Pb.2 h.2.2;omega⟩),(s1.aB S3.back)⟩
    |exact aS rfl rfl ⟨congrArg Value.bool (dD (by
      rw[cV];intro h;exact uE ((hY (by omega)).1 h).2.1)),s1⟩
    |exact aS rfl rfl ⟨congrArg Value.bool (dD (by
      rw[cV];intro h;have:=((hY (by omega)).1 h).1;rw[ir hx]at this;exact CD this)),aw _ _⟩
   ·refine au rfl rfl rfl rfl (au rfl rfl rfl rfl (au rfl rfl rfl rfl (au rfl rfl rfl rfl (au rfl rfl rfl rfl (au rfl rfl rfl rfl (au rfl rfl rfl rfl (al rfl rfl (aE rfl rfl rfl (aE rfl rfl rfl (ah rfl rfl (ab ?_)))))))))));refine aO ?_
    first
    |(obtain rfl:l=[]:=cR.1 (by omega)
      exact aS rfl rfl ⟨rfl,aw _ _⟩)
    |exact aS rfl rfl ⟨congrArg Value.bool (by
      rw[lI,hY (by omega),decide_eq_true_iff,ir hx];exact⟨fun h=>⟨CD,uE,Pb.1 (by omega)⟩,fun h=>by have:=Pb.2 h.2.2;omega⟩),(s1.aB S3.back)⟩
    |exact aS rfl rfl ⟨congrArg Value.bool (dD (by
      rw[cV];intro h;exact uE ((hY (by omega)).1 h).2.1)),s1⟩
    |exact aS rfl rfl ⟨congrArg Value.bool (dD (by
      rw[cV];intro h;have:=((hY (by omega)).1 h).1;rw[ir hx]at this;exact CD this)),aw _ _⟩
  ·refine au rfl rfl rfl rfl (au rfl rfl rfl rfl (al rfl rfl (aE rfl rfl rfl (al rfl rfl (ad rfl rfl (au rfl rfl rfl rfl (au rfl rfl rfl rfl (au rfl rfl rfl rfl (au rfl rfl rfl rfl (au rfl rfl rfl rfl (au rfl rfl rfl rfl ?_)))))))))));refine au rfl rfl rfl rfl (al rfl rfl (aE rfl rfl rfl (aE rfl rfl rfl (ah rfl rfl (ab (aO ?_))))))
   first
   |(obtain rfl:l=[]:=cR.1 (by omega)
     exact aS rfl rfl ⟨rfl,aw _ _⟩)
   |exact aS rfl rfl ⟨congrArg Value.bool (by
     rw[lI,hY (by omega),decide_eq_true_iff,ir hx];exact⟨fun h=>⟨CD,uE,Pb.1 (by omega)⟩,fun h=>by have:=Pb.2 h.2.2;omega⟩),(s1.aB S3.back)⟩
   |exact aS rfl rfl ⟨congrArg Value.bool (dD (by
     rw[cV];intro h;exact uE ((hY (by omega)).1 h).2.1)),s1⟩
   |exact aS rfl rfl ⟨congrArg Value.bool (dD (by
     rw[cV];intro h;have:=((hY (by omega)).1 h).1;rw[ir hx]at this;exact CD this)),aw _ _⟩
theorem E8 {M:aD} {w0:World} {v:Value} {l:List Int} (hM:Lt M w0) (hv:((RT.int .i64).sl).V M w0 l v) (hl:l.length≤1099511627776):
  Spec Tryz.prog 106 #[v] w0 (fun v' w'=>v'= .bool (decide (eo (-1) l=false))∧Step M w0 M w' aC):=by
 refine bc (args:=[_]) (fn:=Tryz.f106) Tryz.func106 rfl (n:=6) Tryz.ntmps106 (aj (ae (ah rfl rfl (ab (aj (ae (ad rfl rfl ?_)))))));refine aX rfl rfl aiw (E7 hM hv hl) (fun r1 w1 h=>?_);obtain⟨rfl,s1⟩:=h;refine lH rfl rfl (aV (v':= .bool (decide (eo (-1) l=false))) (congrArg Value.bool (by cases eo (-1) l<;>rfl)) (ah rfl rfl (ab (aO ?_))));exact aS rfl rfl ⟨rfl,s1⟩
theorem E9 {M:aD} {w0:World} {v:Value} {ls:List (List Int)} (hM:Lt M w0) (hv:(((RT.int .i64).sl).sl).V M w0 ls v) (hl:∀l∈ls,l.length≤1099511627776):
  Spec Tryz.prog 156 #[v,.func (.func 106) #[] #[]] w0 (fun v' w'=>(∃r:Int,v'= .int .i64 r∧(r≥0↔∃l∈ls,eo (-1) l=false))∧Step M w0 M w' aC):=by
 have hlen:=dy hv;refine bc (args:=[_,_]) (fn:=Tryz.f156) Tryz.func156 rfl (n:=19) Tryz.ntmps156 (aj (ae (ah rfl rfl (ab (aj (aj (ae (ad rfl rfl (bM cK rfl hv rfl (ad rfl rfl (ab ?_)))))))))));refine aZ ?_;refine de (σ:=Nat) (fun s=>[(0,v),(1,.func (.func 106) #[] #[]),(7,.int .i64 ls.length),(8,.int .i64 s)]) (fun s w=>s≤ls.length∧(∀t,t<s→∀l,ls[t]? =some l→eo (-1) l=true)∧Step M w0 M w aC) (fun s=>ls.length-s) 0 (.cons rfl (.cons rfl (.cons rfl (.cons rfl .nil)))) ?_ ?_
 ·exact⟨bE _,fun t h=>by omega,aw _ _⟩
 ·rintro k w2 ⟨hk,j9,S⟩;refine aj (ae (cj rfl rfl rfl (ab (aj ?_))));refine bN rfl (fun c2=>?_) (fun c2=>?_)
  ·refine aU (aj (aZ (aj (ae (ad rfl rfl (ah rfl rfl (ab (aj (ae (ad rfl rfl (ad rfl rfl ?_)))))))))));refine ad rfl rfl ?_;obtain⟨l,hx⟩:∃x,(ls)[k]? =some x:=⟨_,ar (by omega)⟩;refine cy (M:=M) cK jL rfl rfl rfl (hv.le S.le) (aq _ _) (by first|omega|decide) (fun TZ V1 N8 aaI=>?_);obtain rfl:l=V1:=dD (aH (N8.symm.trans (by rw[ay];exact hx)));refine bT (M:=M) an rfl rfl rfl rfl rfl (by assumption) (by repeat (first|exact aq _ _|refine a8 (bD (by assumption)) ?_)) (fun aiB Og=>?_);replace Og:(((RT.int .i64).sl)).V M _ l aiB:=Og;refine rr (first:=[]) (captured:=[]) rfl rfl rfl aiv (E8 (S.lt hM) Og (hl _ (aA hx))) (fun r w1 h=>?_);obtain⟨rfl,s1⟩:=h;refine ab ?_;refine bN rfl (fun c4=>?_) (fun c4=>?_)
   ·refine aj (ae (ad rfl rfl (ah rfl rfl (ab (aO ?_)))));exact aS rfl rfl ⟨⟨k,rfl,⟨fun _=>⟨l,aA hx,c4⟩,fun _=>by omega⟩⟩,S.aB s1⟩
   ·refine aU (ae (bF rfl rfl rfl (by omega) (ad rfl rfl (ab ?_))));refine⟨rfl,k+1,(.cons rfl (.cons rfl (.cons rfl (.cons rfl .nil)))),?_,?_⟩
    ·refine⟨by omega,fun t ht l' hl'=>?_,S.aB s1⟩;rcases cI t k with h|h
     ·exact j9 t h l' hl'
     ·rw[show t=k from by omega,hx]at hl';cases hl';simpa using c4
    ·show _-(k+1)<_-k;omega
  ·refine cG (aj (ae (ah rfl rfl (ab (aO ?_)))));refine aS rfl rfl ⟨⟨-1,rfl,⟨fun h=>by omega,fun⟨l,hm,hf⟩=>?_⟩⟩,S⟩;obtain⟨t,ht⟩:=bB.1 hm;have:=j9 t (by have:=(ao.1 ht).1;omega) l ht;rw[this]at hf;cases hf
theorem zO {M:aD} {w0:World} {v:Value} {ls:List (List Int)} (hM:Lt M w0) (hv:(((RT.int .i64).sl).sl).V M w0 ls v) (hl:∀l∈ls,l.length≤1099511627776):
  Spec Tryz.prog 105 #[v,.func (.func 106) #[] #[]] w0 (fun v' w'=>v'= .bool (decide (¬Up ls))∧Step M w0 M w' aC):=by
 refine bc (args:=[_,_]) (fn:=Tryz.f105) Tryz.func105 rfl (n:=9) Tryz.ntmps105 (aj (ae (ah rfl rfl (ab (aj (ae (ad rfl rfl (ad rfl rfl ?_))))))));refine aX rfl rfl aix (E9 hM hv hl) (fun r1 w1 h=>?_);obtain⟨⟨r0,rfl,hr⟩,s1⟩:=h;refine dV rfl rfl rfl (ah rfl rfl (ab (aO ?_)));refine aS rfl rfl ⟨congrArg Value.bool (decide_eq_decide.2 (hr.trans ?_)),s1⟩;unfold Up;constructor
 ·rintro⟨l,hm,hf⟩ h;rw[h l hm]at hf;cases hf
 ·intro h;refine Classical.byContradiction fun hn=>h fun l hm=> ?_
  cases OW:eo (-1) l with
  |true=>rfl
  |false=>exact absurd ⟨l,hm,OW⟩ hn
end Go.K
namespace Go.K
open Go.Proofs
namespace TKOrder11
theorem kx:TI Tryz.prog 124 (.agg #[(.int .i64 0),(.int .i64 0)]) 2 16:=by unfold TI;kernel_rfl
theorem aaY:TI Tryz.prog 178 (.pointer none) 1 8:=by unfold TI;kernel_rfl
theorem lT:TI Tryz.prog 183 (.agg #[(.int .i64 0),(.int .i64 0),(.int .i64 0)]) 3 24:=by unfold TI;kernel_rfl
theorem aiD:Enters Tryz.prog 105:=enters Tryz.func105 rfl (by decide)
theorem aaZ:Enters Tryz.prog 108:=enters Tryz.func108 rfl (by decide)
theorem Q2:Enters Tryz.prog 110:=enters Tryz.func110 rfl (by decide)
theorem aiE:Enters Tryz.prog 111:=enters Tryz.func111 rfl (by decide)
end TKOrder11
open TKOrder11
set_option maxRecDepth 10000
theorem zP {M:aD} {w0:World} {v:Value} {ls:List (List Int)} (hM:Lt M w0) (hv:(((RT.int .i64).sl).sl).V M w0 ls v) (IE:ls.length≤1099511627776) (hl:∀l∈ls,l.length≤1099511627776) (Vx:rW ls≤1099511627776):
  Spec Tryz.prog 59 #[v] w0 (fun v' w'=>∃M',Lt M' w'∧Step M w0 M' w' aC∧∃vo:Value,∃e:Int,v'= .tuple #[vo,.int .i64 e]∧((¬Up ls∧e=1∧vo= .slice none 0 0)∨(Up ls∧∃r,rH ls r∧((r=none∧e=5∧vo= .slice none 0 0)∨∃out,r=some out∧e=0∧(dT out).length≤1099511627776∧Own RT.fo 124 M' w' w0.heap.size vo (dT out))))):=by
 have hlen:=dy hv;refine bc (args:=[_]) (fn:=Tryz.f59) Tryz.func59 rfl (n:=55) Tryz.ntmps59 (aj (ae ?_));refine xj M rfl rfl (fun bl wb zb zb' gb sb=>?_);have gb:wb.heap[bl]? =some (.cells #[v] 119 (0,0)):=by rw[gb];obtain⟨a,cap,rfl,_⟩:=iD.1 hv;rfl
 refine ah rfl rfl (ah rfl rfl (ab (aj (aj (ae (aM cK rfl rfl rfl gb rfl ?_))))));refine aX rfl rfl aiD (zO (M:=ins M bl) (sb.lt hM) (hv.le sb.le) hl) (fun rc wc h=>?_);obtain⟨rfl,sc⟩:=h;have k3:=sc.aK gb;have Sc:=sb.aB sc;clear gb;refine ab ?_;refine bN rfl (fun c1=>?_) (fun c1=>?_)
 ·refine aj (ae (ah rfl rfl (ah rfl rfl (ab (aO ?_)))));exact eY rfl rfl rfl ⟨_,Sc.lt hM,Sc,_,1,rfl,.inl ⟨c1,rfl,rfl⟩⟩
 ·refine aU (aj (ae ?_));have CW:Up ls:=Classical.byContradiction c1;refine Rg.XY bV lT (ins M bl) rfl (fun g wg zg zg' gg sg=>?_);have Sg:=Sc.aB sg;have aa0:=sg.aK k3;clear k3;refine xj (ins (ins M bl) g) rfl rfl (fun bh wh zh zh' gh sh=>?_);have gh:wh.heap[bh]? =some (.cells #[.slice (some ⟨g,0,none⟩) 0 0] 180 (0,0)):=gh;have Sh:=Sg.aB sh;have aa1:=sh.aK aa0;have ggh:=sh.aK gg;clear aa0 gg;refine dP (ins (ins (ins M bl) g) bh) aaY rfl (fun b4 w4 z4 z4' g4 s4=>?_);have S4:=Sh.aB s4;have J3:=s4.aK aa1;have gg4:=s4.aK ggh;have gh4:=s4.aK gh;clear aa1 ggh gh;refine cu (M:=ins (ins (ins (ins M bl) g) bh) b4) (u:= .pointer none) aaY rfl rfl g4 rfl rfl (.inl rfl) (fun w5 g5 s5=>?_);have rF:w5.heap[b4]? =some (.cells #[.pointer (some ⟨bh,0,none⟩)] 178 (0,0)):=g5;have hz:=Sc.size;have z2:=sg.size;have z3:=sh.size;have hz5:=ak J3;have k3:=s5.keep J3 (fun e=>by have e:bl=b4:=e;have:=ak J3;have:=Sh.size;rw[e]at J3;rw[g4]at J3;simp at J3);have gg5:=s5.keep gg4 (fun e=>by have e:g=b4:=e;omega);have gh5:=s5.keep gh4 (fun e=>by have e:bh=b4:=e;omega);have S5:=S4.cd s5 (fun b hb=>by have hb:b=b4:=hb;omega);have hM5:=S5.lt hM;have hp5:rI 180 183 (ins (ins (ins (ins M bl) g) bh) b4) w5 bh w0.heap.size (.slice (some ⟨g,0,none⟩) 0 0) []:=⟨gh5,.inr (.inl rfl),Own.empty gg5 (by omega) (.inr (.inr (.inl rfl))),by simp,by decide⟩;refine ab (aj (ae (kb (xs:=[]) (ys:=[.tmp 1,.tmp 4]) rfl rfl rfl (ah rfl rfl (ab (aj (aj (ae (aM cK rfl rfl rfl k3 rfl (bM cK rfl (hv.le S5.le) rfl (ad rfl rfl ?_)))))))))));refine ab (aZ ?_);refine de (σ:=Nat×List Hd) (fun s=>[(1,.pointer (some ⟨bl,0,none⟩)),(2,.slice none 0 0),(3,.int .i64 0),(4,.pointer (some ⟨b4,0,none⟩)),(5,.func (.func 108) #[] #[.pointer (some ⟨bl,0,none⟩),.pointer (some ⟨b4,0,none⟩)]),(16,.int .i64 ls.length),(17,.int .i64 s.1)]) (fun s w=>s.1≤ls.length∧oE ls (fun _=>0) s.1 s.2∧p8 s.2∧(∃M1 v1,Lt M1 w∧rI 180 183 M1 w bh w0.heap.size v1 s.2∧Step M w0 M1 w aC∧w.heap[bl]? =some (.cells #[v] 119 (0,0))∧w.heap[b4]? =some (.cells #[.pointer (some ⟨bh,0,none⟩)] 178 (0,0)))) (fun s=>ls.length-s.1) (0,[]) (.cons rfl (.cons rfl (.cons rfl (.cons rfl (.cons rfl (.cons rfl (.cons rfl .nil))))))) ?_ ?_
  ·exact⟨bE _,oE.zero ls,fun k h0 hk=>by simp at hk,_,_,hM5,hp5,S5,k3,rF⟩
  ·rintro⟨i,hs⟩ w1 ⟨hi,Ku,hh,M1,v1,nS,h,S,k3,rF⟩;dsimp only at hi Ku hh h ⊢;clear hp5;refine aj (ae (cj rfl rfl rfl (ab (aj ?_))));refine bN rfl (fun c6=>?_) (fun c6=>?_)
   ·refine aU (aj (aZ (aj (ae (ad rfl rfl (ah rfl rfl (ab (ae (ad rfl rfl (ad rfl rfl ?_))))))))));refine rr (first:=[]) (captured:=[.pointer (some ⟨bl,0,none⟩),.pointer (some ⟨b4,0,none⟩)]) rfl rfl rfl aaZ (E6 (i:=i) (k:=0) nS k3 rF (hv.le S.le) h hh (by omega) (by omega) (by have:=Ku.len;omega)) (fun rp w2 hq=>?_);obtain⟨M2,v2,nR,h2,hh2,HG,Fw,s2⟩:=hq;have k3:=s2.keep k3 (NB.not ⟨_,_,k3⟩ (by decide) (fun e=>by subst e;have:=k3.symm.trans h.h;simp at this));have rF:=s2.keep rF (NB.not ⟨_,_,rF⟩ (by decide) (fun e=>by subst e;have:=rF.symm.trans h.h;simp at this));refine ab (ae (bF rfl rfl rfl (by omega) (ad rfl rfl (ab ?_))));refine⟨rfl,(i+1,nR),(.cons rfl (.cons rfl (.cons rfl (.cons rfl (.cons rfl (.cons rfl (.cons rfl .nil))))))),?_,?_⟩
    ·exact⟨by simp only;omega,Ku.fill (by omega) HG,hh2,M2,v2,Fw,h2,S.cd s2 (fun b hb=>hb.2.elim (fun e=>by have e:b=bh:=e;omega) (fun h=>h.1)),k3,rF⟩
    ·show ls.length-(i+1)<ls.length-i;omega
   ·refine cG (aj (ae (ah rfl rfl (ab (aj (aj (ae (ah rfl rfl (ab (aZ ?_))))))))));obtain rfl:i=ls.length:=by omega
    refine de (σ:=(Nat→Nat)×List Hd×Int×Value×List Hd) (fun s=>[(1,.pointer (some ⟨bl,0,none⟩)),(4,.pointer (some ⟨b4,0,none⟩)),(5,.func (.func 108) #[] #[.pointer (some ⟨bl,0,none⟩),.pointer (some ⟨b4,0,none⟩)]),(7,s.2.2.2.1),(8,.int .i64 s.2.2.1)]) (fun s w=>zz ls s.1 s.2.1 s.2.2.1∧oE ls s.1 ls.length s.2.2.2.2∧p8 s.2.2.2.2∧lS s.2.2.1∧(∃M1 v1,Lt M1 w∧rI 180 183 M1 w bh w0.heap.size v1 s.2.2.2.2∧Step M w0 M1 w aC∧w.heap[bl]? =some (.cells #[v] 119 (0,0))∧w.heap[b4]? =some (.cells #[.pointer (some ⟨bh,0,none⟩)] 178 (0,0))∧Own RT.fo 124 M1 w w0.heap.size s.2.2.2.1 (dT s.2.1))) (fun s=>rem ls s.1) (fun _=>0,[],-1,_,hs) (.cons rfl (.cons rfl (.cons rfl (.cons rfl (.cons rfl .nil))))) ?_ ?_
    ·exact⟨zz.zero ls CW,Ku,hh,⟨by simp only;decide,by simp only;decide⟩,M1,v1,nS,h,S,k3,rF,dF _ _ _ _ _⟩
    ·clear h k3 rF S nS;rintro⟨at_,out,last,vo,hs⟩ w1 ⟨SL,Ku,hh,hlr,M1,v1,nS,h,S,k3,rF,ho⟩;dsimp only at SL Ku hh hlr h ho ⊢;refine aj (aj (ae (aM dj rfl rfl rfl rF rfl (bS rfl ⟨_,rfl⟩ rfl (aM bV rfl rfl rfl h.h rfl ?_)))));refine aX rfl rfl Q2 (vZ h.o) (fun rl wl h=>?_);obtain⟨rfl,rfl⟩:=h;refine jd rfl rfl rfl (ab ?_);refine bN rfl (fun T4=>?_) (fun T4=>?_)
     ·refine aU (aZ (aj (ae (aM dj rfl rfl rfl rF rfl (Rg.xM dj rfl rfl rfl ?_)))));refine aX rfl rfl aiE (Oe nS h hh (by omega) (by have:=Ku.len;omega)) (fun rp w2 h=>?_);obtain⟨a,b,c,M2,v2,nR,rfl,⟨ra,rb,rc⟩,h2,hh2,HG,NY,Fw,s2⟩:=h;have k3:=s2.keep k3 (NB.not ⟨_,_,k3⟩ (by decide) (fun e=>by subst e;have:=k3.symm.trans h.h;simp at this));have rF:=s2.keep rF (NB.not ⟨_,_,rF⟩ (by decide) (fun e=>by subst e;have:=rF.symm.trans h.h;simp at this));have S2:=S.cd s2 (fun b hb=>hb.2.elim (fun e=>by have e:b=bh:=e;omega) (fun h=>h.1));have tq:=ho.step s2 (fun k hk=>NB.not (ho.bt k hk) (by decide) (ho.apart h.h (by decide) k hk));obtain⟨i,n,hi,kq,wH⟩:=(Ku.2 _).1 (HG.mem_iff.1 (bP ..));simp only[ec]at kq;obtain⟨rfl,rfl,rfl⟩:=kq;have Nh:=wH.lt.2
      have dR:qM ls i≤1099511627776:=by
       obtain⟨l,Rx,_⟩:=wH;unfold qM;rw[az,Rx];exact hl _ (aA Rx)
      have SM:∀j m,Tr ls j (at_ j) m→a≤m:=fun j m hj=>NY _ ((Ku.2 (m,(j:Int),((at_ j:Nat):Int))).2 ⟨j,m,hj.lt.1,rfl,hj⟩)
      have JC:RT.hd.V M2 w2 (a,(i:Int),((at_ i:Nat):Int)) _:=NZ ra rb rc;clear h s2;refine Rg.HH dI rfl rfl rfl ?_;refine xG (A:=RT.hd) (M:=M2) lT rfl rfl rfl rfl rfl JC (aq _ _) Fw (fun u3 w3 Jk s3 z3=>?_);have k3:=s3.aK k3;have rF:=s3.aK rF;have h3:=h2.aP s3;have ze:=tq.aP s3;have S3:=S2.aB s3;have ZJ:=s3.lt Fw;have hz3:=S3.size;refine ab (aj (aj (ae ?_)));refine aN (M:=M2) (A:=RT.hd) (B:=RT.int .i64) dI rfl rfl I3 (by decide) (Sy) rfl rfl (by decide) (by assumption) (by repeat (first|exact aq _ _|refine a8 (bD (by assumption)) ?_)) (fun ZW Nu=>?_);refine cb (M:=M2) ax rfl rfl (by assumption) (by repeat (first|exact aq _ _|refine a8 (bD (by assumption)) ?_)) (fun Oh=>?_);refine aV (v':= .int .i64 (a)) rfl ?_;replace Oh: -9223372036854775808≤(a:Int)∧a≤9223372036854775807:=Oh;refine ad rfl rfl (nX rfl rfl rfl (ab ?_));refine bN rfl (fun Ki=>?_) (fun Ki=>?_)
      ·refine aj (ae (ah rfl rfl (ah rfl rfl (ab (aO ?_)))));exact eY rfl rfl rfl ⟨_,ZJ,S3,_,5,rfl,.inr ⟨CW,none,SL.aap CW wH Ki,.inl ⟨rfl,rfl,rfl⟩⟩⟩
      ·refine aU (aj (ae (ad rfl rfl ?_)));refine aN (M:=M2) (A:=RT.hd) (B:=RT.int .i64) dI rfl rfl I3 (by decide) (xS) rfl rfl (by decide) (by assumption) (by repeat (first|exact aq _ _|refine a8 (bD (by assumption)) ?_)) (fun amw aiF=>?_);refine cb (M:=M2) ax rfl rfl (by assumption) (by repeat (first|exact aq _ _|refine a8 (bD (by assumption)) ?_)) (fun Oi=>?_);refine aV (v':= .int .i64 ((i:Int))) rfl ?_;replace Oi: -9223372036854775808≤((i:Int):Int)∧(i:Int)≤9223372036854775807:=Oi;refine aN (M:=M2) (A:=RT.hd) (B:=RT.int .i64) dI rfl rfl I3 (by decide) (zA) rfl rfl (by decide) (by assumption) (by repeat (first|exact aq _ _|refine a8 (bD (by assumption)) ?_)) (fun amx aiG=>?_);refine cb (M:=M2) ax rfl rfl (by assumption) (by repeat (first|exact aq _ _|refine a8 (bD (by assumption)) ?_)) (fun Oj=>?_);refine aV (v':= .int .i64 (((at_ i:Nat):Int))) rfl ?_;replace Oj: -9223372036854775808≤(((at_ i:Nat):Int):Int)∧((at_ i:Nat):Int)≤9223372036854775807:=Oj;refine Rg.PE cw kx I3 rfl rfl rfl ?_;refine ed (A:=RT.fo) (hn:=by decide) (M:=M2) eO kx (by decide) rfl rfl ZJ (adk rb rc) (.inl rfl) (fun u6 w6 Gc s6=>?_);have k3:=s6.aK k3;have rF:=s6.aK rF;have h6:=h3.aP s6;have S6:=S3.aB s6;have JB:=s6.lt ZJ;have hz6:=S6.size;have hal:=SL.f;have hlo:(dT out).length=out.length:=by unfold dT;simp
       refine cZ (M:=M2) (base:=w0.heap.size) eO kx rfl rfl rfl rfl (ze.aP s6) Gc (aq _ _) (by rw[hlo];simp;omega) (by rw[hlo];simp;omega) (by omega) (fun vo7 M7 w7 nh s7=>?_);have xQ:∀k,vo.ownBlock=some k→k≠bl∧k≠b4∧k≠bh:=fun k hk=>⟨fun e=>(ze.aP s6).apart k3 (by decide) k hk e,fun e=>(ze.aP s6).apart rF (by decide) k hk e,fun e=>(ze.aP s6).apart h6.h (by decide) k hk e⟩
       have k3:=s7.keep k3 (fun hk=>(xQ _ hk).1 rfl);have rF:=s7.keep rF (fun hk=>(xQ _ hk).2.1 rfl);have h7:=h6.keep s7 (fun hk=>(xQ _ hk).2.2 rfl) (fun k hk BI=>(BT.ne ((ze.aP s6).bt k BI) (h6.o.bt k hk) (by decide)) rfl);have S7:=S6.cd s7 (fun b hb=>(ze.base b hb).1);have hM7:=s7.lt JB;have hu7:=Jk.le (by decide) (s6.le.trans s7.le);clear h2 h3 h6 tq ze;refine ah rfl rfl (ab (aj (ae ?_)));refine aN (M:=M7) (A:=RT.hd) (B:=RT.int .i64) dI rfl rfl I3 (by decide) (Sy) rfl rfl (by decide) (by assumption) (by repeat (first|exact aq _ _|refine a8 (bD (by assumption)) ?_)) (fun amy aiH=>?_);refine cb (M:=M7) ax rfl rfl (by assumption) (by repeat (first|exact aq _ _|refine a8 (bD (by assumption)) ?_)) (fun Ol=>?_);refine aV (v':= .int .i64 (a)) rfl ?_;replace Ol: -9223372036854775808≤(a:Int)∧a≤9223372036854775807:=Ol;refine ah rfl rfl (ab (ae (ad rfl rfl ?_)));refine aN (M:=M7) (A:=RT.hd) (B:=RT.int .i64) dI rfl rfl I3 (by decide) (xS) rfl rfl (by decide) (by assumption) (by repeat (first|exact aq _ _|refine a8 (bD (by assumption)) ?_)) (fun amz aiI=>?_);refine cb (M:=M7) ax rfl rfl (by assumption) (by repeat (first|exact aq _ _|refine a8 (bD (by assumption)) ?_)) (fun Om=>?_);refine aV (v':= .int .i64 ((i:Int))) rfl ?_;replace Om: -9223372036854775808≤((i:Int):Int)∧(i:Int)≤9223372036854775807:=Om;refine aN (M:=M7) (A:=RT.hd) (B:=RT.int .i64) dI rfl rfl I3 (by decide) (zA) rfl rfl (by decide) (by assumption) (by repeat (first|exact aq _ _|refine a8 (bD (by assumption)) ?_)) (fun amA aiJ=>?_);refine cb (M:=M7) ax rfl rfl (by assumption) (by repeat (first|exact aq _ _|refine a8 (bD (by assumption)) ?_)) (fun On=>?_);refine aV (v':= .int .i64 (((at_ i:Nat):Int))) rfl ?_
       replace On: -9223372036854775808≤(((at_ i:Nat):Int):Int)∧((at_ i:Nat):Int)≤9223372036854775807:=On;refine bF rfl rfl rfl (by omega) (aV (v':= .int .i64 ((at_ i+1:Nat):Int)) (congrArg _ (by omega)) ?_);refine rr (first:=[]) (captured:=[.pointer (some ⟨bl,0,none⟩),.pointer (some ⟨b4,0,none⟩)]) rfl rfl rfl aaZ (E6 (i:=i) (k:=at_ i+1) hM7 k3 rF (hv.le S7.le) h7 hh2 hi (by omega) (by have h1:=HG.length_eq;have h2:=Ku.len;rw[cM]at h1;omega)) (fun rp w8 hq=>?_);obtain⟨M8,v8,hs8,h8,hh8,hp8,hM8,s8⟩:=hq;have arO:=k3;have k3:=s8.keep k3 (NB.not ⟨_,_,k3⟩ (by decide) (fun e=>by subst e;have:=k3.symm.trans h7.h;simp at this));have rF:=s8.keep rF (NB.not ⟨_,_,rF⟩ (by decide) (fun e=>by subst e;have:=rF.symm.trans h7.h;simp at this));have ho8:=nh.step s8 (fun k hk=>NB.not (nh.bt k hk) (by decide) (nh.apart h7.h (by decide) k hk));have S8:=S7.cd s8 (fun b hb=>hb.2.elim (fun e=>by have e:b=bh:=e;omega) (fun h=>h.1));refine ab ?_;refine⟨rfl,(EI at_ i,out++[(a,(i:Int),((at_ i:Nat):Int))],a,vo7,hs8),(.cons rfl (.cons rfl (.cons rfl (.cons rfl (.cons rfl .nil))))),?_,?_⟩
       ·refine⟨SL.step CW wH SM Ki,Ku.next HG hi hp8,hh8,ra,M8,v8,hM8,h8,S8,k3,rF,?_⟩;unfold dT at ho8 ⊢;rw[eA];exact ho8
       ·show rem ls (EI at_ i)<rem ls at_;have h1:=(SL.step CW wH SM Ki).f;have h2:=SL.f;rw[bj,eu]at h1;omega
     ·refine cG (aj (ae (ad rfl rfl (ah rfl rfl (ah rfl rfl (ab (aO ?_)))))));have rA:hs=[]:=cR.1 (by omega);subst rA;exact eY rfl rfl rfl ⟨_,nS,S,_,0,rfl,.inr ⟨CW,some out,SL.fin (Ku.ahu),.inr ⟨out,rfl,rfl,(by have:=SL.f;unfold dT;rw[aL];omega),ho⟩⟩⟩
theorem Fa {M:aD} {w0:World} {v:Value} {ls:List (List Int)} (hM:Lt M w0) (hv:((RT.int .i64).sl.sl).V M w0 ls v) (IE:ls.length≤1099511627776) (hl:∀l∈ls,l.length≤1099511627776) (Vx:rW ls≤1099511627776):
  Spec Tryz.prog 59 #[v] w0 (fun v' w'=>(∃vo:Value,∃e:Int,v'= .tuple #[vo,.int .i64 e]∧((¬Up ls∧e=1∧vo= .slice none 0 0)∨(Up ls∧∃r,rH ls r∧((r=none∧e=5∧vo= .slice none 0 0)∨∃out,r=some out∧e=0∧((RT.fo).sl).V M w' (dT out) vo))))∧Step M w0 M w' aC):=
 (zP hM hv IE hl Vx).mono fun _ w' ⟨M',hM',S,vo,e,h0,h⟩=>⟨⟨vo,e,h0,h.imp id fun⟨hu,r,hr,h⟩=>⟨hu,r,hr,h.imp id fun⟨out,h1,h2,h3,ho⟩=>⟨out,h1,h2,xF hM S ho (by omega)⟩⟩⟩,S.back⟩
end Go.K
namespace Go.K
open Go.Proofs
namespace TKSegG
theorem aad:Enters Tryz.prog 180:=enters Tryz.func180 rfl (by decide)
end TKSegG
open TKSegG
set_option maxRecDepth 10000
theorem Hm {M:aD} {w0:World} {v:Value} (hM:Lt M w0):
  Spec Tryz.prog 124 #[v] w0 (fun v' w'=>∃bp,v'= .func (.func 179) [].toArray [.pointer (some ⟨bp,0,none⟩)].toArray∧w'.heap[bp]? =some (.cells v.cells 142 (0,0))∧w0.heap.size≤bp∧Step M w0 M w' aC):=by
 refine bc (args:=[_]) (fn:=Tryz.f124) Tryz.func124 rfl (n:=4) Tryz.ntmps124 (aj (ae ?_));refine xj M rfl rfl (fun bp w1 h1 W7 hS s1=>?_);refine ah rfl rfl (ab (aj (ae (kb (xs:=[]) (ys:=[.tmp 1]) rfl rfl rfl (ah rfl rfl (ab (aO ?_)))))));exact aS rfl rfl ⟨bp,rfl,hS,h1,s1.back⟩
theorem Fb {w0:World} {bp yl:Nat} {v:Value} {l:List Po} {J:Nat→aD→World→Prop} {M:aD} {Jx:World→Prop} (Ia:∀i M w,J i M w→w.heap[bp]? =some (.cells #[v] 142 (0,0))∧Lt M w∧cN RT.li M w v (mU l)∧∀w',Step M w M w' aC→J i M w') (mY:fH (-1) l=true) (kf:∀p∈l,p.2.length≤1099511627776) (k3:(dY (-1) l).length≤1099511627776) (IE:l.length≤1099511627776) (hy:∀(i:Nat) (M:aD) (w:World) (u:Value),J i M w→i<(l.length+7)/8→((RT.po).sl).V M w ((l.drop (8*i)).take 8) u→wJ Tryz.prog yl [u].toArray w (fun r w'=>∃b,r= .bool b∧(b=true→∃M',J (i+1) M' w')∧(b=false→Jx w'))) (h0:J 0 M w0):
  Spec Tryz.prog 179 #[.func (.yield yl) #[] #[],.pointer (some ⟨bp,0,none⟩)] w0 (fun _ w'=>(∃M',J ((l.length+7)/8) M' w')∨Jx w'):=by
 obtain⟨hb0,hM,hp,kD⟩:=Ia _ _ _ h0;have hnb:(mU l).2.1.length=(l.length+7)/8:=by simp[mU,rC]
 refine bc (args:=[_,_]) (fn:=Tryz.f179) Tryz.func179 rfl (n:=19) Tryz.ntmps179 (aj (ae (aM eN rfl rfl rfl hb0 rfl (bS rfl (cN.gz hp) rfl ?_))));refine aN (M:=M) (A:=RT.li) (B:=(RT.bl).sl) ep rfl rfl I1 (by decide) (li1) rfl rfl (by decide) (by assumption) (by repeat (first|exact aq _ _|refine a8 (bD (by assumption)) ?_)) (fun arP amC=>?_);refine bT (M:=M) iH rfl rfl rfl rfl rfl (by assumption) (by repeat (first|exact aq _ _|refine a8 (bD (by assumption)) ?_)) (fun arQ amD=>?_);refine bM iH rfl (by assumption) rfl (aV (v':= .int .i64 (((l.length+7)/8:Nat):Int)) (by rw[hnb]) (ad rfl rfl (ab (aZ ?_))));refine de (σ:=Nat) (fun s=>[(0,.func (.yield yl) #[] #[]),(1,.pointer (some ⟨bp,0,none⟩)),(8,.int .i64 (((l.length+7)/8:Nat):Int)),(9,.int .i64 s)]) (fun s w=>(∃M1,J s M1 w)∧s≤(l.length+7)/8) (fun s=>(l.length+7)/8-s) 0 (.cons rfl (.cons rfl (.cons rfl (.cons rfl .nil)))) ?_ ?_
 ·exact⟨⟨_,h0⟩,bE _⟩
 ·rintro k w1 ⟨⟨M1,hJ⟩,hk⟩;refine aj (ae (cj rfl rfl rfl (ab (aj ?_))));refine bN rfl (fun c1=>?_) (fun c1=>?_)
  ·refine aU (aj (aZ (aj (ae (ad rfl rfl (ah rfl rfl (ab (aj (ae (ad rfl rfl ?_))))))))));obtain⟨mv,nS,O4,aiK⟩:=Ia _ _ _ hJ;refine aM eN rfl rfl rfl mv rfl (ad rfl rfl ?_);refine aX rfl rfl aad (GS (M:=M1) (k:=k) nS O4 mY kf k3) (fun u w4 h4=>?_);obtain⟨s4,h4⟩:=h4;rw[if_pos (by unfold W8;simp;omega),ay]at h4;refine Rg.yield rfl (vs:=[u]) rfl rfl (hy k M1 _ u (aiK _ s4) (by omega) h4) (fun r4 w5 h5=>?_);obtain⟨b,rfl,RD,qH⟩:=h5;refine lH rfl rfl (aV (v':= .bool (decide (¬b=true))) (by simp) (ab ?_));refine bN rfl (fun c3=>?_) (fun c3=>?_)
   ·refine aO ?_;exact CZ rfl (.inr (qH (by simpa using c3)))
   ·refine aU (ae (bF rfl rfl rfl (by omega) (ad rfl rfl (ab ?_))));refine⟨rfl,k+1,(.cons rfl (.cons rfl (.cons rfl (.cons rfl .nil)))),?_,?_⟩
    ·exact⟨RD (cJ.1 c3),by omega⟩
    ·show _-(k+1)<_-k;omega
  ·refine cG ?_;rw[show k=(l.length+7)/8 from by omega]at hJ;change xm Tryz.prog Tryz.f179 (fun _ w'=>(∃M',J ((l.length+7)/8) M' w')∨Jx w') .normal _ [] _;exact fR rfl (.inl ⟨_,hJ⟩)
end Go.K
namespace Go.K
open Go.Proofs
namespace TKSegH
theorem xy:TI Tryz.prog 80 (.slice none 0 0) 1 24:=by unfold TI;kernel_rfl
theorem aiL:Enters Tryz.prog 124:=enters Tryz.func124 rfl (by decide)
theorem aiM:Enters Tryz.prog 179:=enters Tryz.func179 rfl (by decide)
end TKSegH
open TKSegH
set_option maxRecDepth 10000
structure sm (M:aD) (w0:World) (v:Value) (bo D bp:Nat) (st:Obj) (vo:Value) (xs:List Po) (M1:aD) (w:World):Prop where
 lt:Lt M1 w
 S:Step M w0 M1 w aC
 mo:M1 bo
 md:M1 D
 mr:M1 (D+1)
 o:w.heap[bo]? =some (.cells #[vo] 80 (0,0))
 d:w.heap[D]? =some (.deferred (some []))
 r:w.heap[D+1]? =some st
 p:w.heap[bp]? =some (.cells #[v] 142 (0,0))
 ne:bo<D∧bp<D∧bo≠bp∧w0.heap.size≤bo∧w0.heap.size≤D
 hk:Own RT.po 83 M1 w (D+2) vo xs
section
variable {M M1 M2:aD} {w0 w w':World} {v vo:Value} {bo D bp:Nat} {st:Obj} {xs:List Po}
theorem sm.step (h:sm M w0 v bo D bp st vo xs M1 w) (s:Step M1 w M2 w' aC):sm M w0 v bo D bp st vo xs M2 w':=
 ⟨s.lt h.lt,h.S.aB s,(s.mem _ (h.lt _ h.mo)).2 h.mo,(s.mem _ (h.lt _ h.md)).2 h.md,(s.mem _ (h.lt _ h.mr)).2 h.mr,s.aK h.o,s.aK h.d,s.aK h.r,s.aK h.p,h.ne,h.hk.aP s⟩
theorem sm.mH {st':Obj} (h:sm M w0 v bo D bp st vo xs M1 w):sm M w0 v bo D bp st' vo xs M1 (w.putObj (D+1) st'):=by
 have s:Step M1 w M1 (w.putObj (D+1) st') (fun k=>k=D+1):=dS h.mr;obtain⟨e1,e2,e3,e4,e5⟩:=h.ne;exact⟨s.lt h.lt,h.S.cd s (fun k hk=>by subst hk;omega),h.mo,h.md,h.mr,s.keep h.o (by omega),s.keep h.d (by omega),xk (ak h.r),s.keep h.p (by omega),h.ne,h.hk.step s (fun k tK hh=>by have:=(h.hk.base k tK).1;omega)⟩
theorem sm.grow {G1:Value} {NQ:List Po} (h:sm M w0 v bo D bp st vo xs M1 w) (s:Step M1 w M2 w' (fun k=>vo.ownBlock=some k)) (hk:Own RT.po 83 M2 w' (D+2) G1 NQ):
  (w'.heap[bo]? =some (.cells #[vo] 80 (0,0))∧M2 bo)∧∀{w2:World},Step M2 w' M2 w2 (fun k=>k=bo)→w2.heap[bo]? =some (.cells #[G1] 80 (0,0))→sm M w0 v bo D bp st G1 NQ M2 w2:=by
 obtain⟨e1,e2,e3,e4,e5⟩:=h.ne;have hn:∀k,vo.ownBlock=some k→D+2≤k:=fun k hk=>(h.hk.base k hk).1
 have eH:=fun {k:Nat} (hm:M1 k)=>(s.mem k (h.lt k hm)).2 hm
 refine⟨⟨s.keep h.o (fun hh=>by have:=hn _ hh;omega),eH h.mo⟩,fun {w2} s2 hx=>?_⟩;have S':=h.S.cd s (fun k hk=>by have:=hn k hk;omega)
 exact⟨s2.lt (s.lt h.lt),S'.cd s2 (fun k hk=>by subst hk;exact e4),eH h.mo,eH h.md,eH h.mr,hx,s2.keep (s.keep h.d (fun hh=>by have:=hn _ hh;omega)) (by omega),s2.keep (s.keep h.r (fun hh=>by have:=hn _ hh;omega)) (by omega),s2.keep (s.keep h.p (fun hh=>by have:=hn _ hh;omega)) (Ne.symm e3),h.ne,
  hk.step s2 (fun k tK hh=>by have:=(hk.base k tK).1;omega)⟩
end
def V9 (M:aD) (w0:World) (l:List Po) (v:Value) (bo D bp:Nat) (st:Obj) (i:Nat) (M1:aD) (w:World):Prop:=
 ∃(vo:Value),sm M w0 v bo D bp st vo (l.take (8*i)) M1 w
theorem aa3 {M:aD} {w0 w2 w3:World} {v:Value} {l:List Po} {bo bp:Nat} {st:Obj} (S2:Step M w0 (ins M bo) w2 aC) (s3:Step (ins M bo) w2 (ins M bo) w3 aC) (hM:Lt M w0) (e1:w0.heap.size≤bo) (e2:bo<w2.heap.size) (e3:w2.heap.size≤bp)
  (hO:w2.heap[bo]? =some (.cells #[.slice none 0 0] 80 (0,0))) (hP:w3.heap[bp]? =some (.cells #[v] 142 (0,0))):∃M1,V9 M w0 l v bo w3.heap.size bp st 0 M1 ((w3.alloc (.deferred (some []))).alloc st):=by
 have sA:Step (ins M bo) w3 (ins (ins M bo) w3.heap.size) (w3.alloc (.deferred (some []))) aC:=(cQ _ w3 _).own (aT _) (by simp);have sB:Step (ins (ins M bo) w3.heap.size) (w3.alloc (.deferred (some []))) (ins (ins (ins M bo) w3.heap.size) (w3.heap.size+1)) ((w3.alloc (.deferred (some []))).alloc st) aC:=(cQ _ _ _).own (by simp) (by simp);have z3:=s3.size;have hp3:=ak hP;have S:=((S2.aB s3).aB sA).aB sB;have hD:(w3.alloc (.deferred (some []))).heap[w3.heap.size]? =some (.deferred (some [])):=cg w3 _;have hR:((w3.alloc (.deferred (some []))).alloc st).heap[w3.heap.size+1]? =some st:=by have:=cg (w3.alloc (.deferred (some []))) st;rwa [Af]at this
 have z0:=S2.size;exact⟨_,.slice none 0 0,⟨S.lt hM,S,.inr (.inr (.inl rfl)),.inr (.inl rfl),.inl rfl,sB.aK (sA.aK (s3.aK hO)),sB.aK hD,hR,sB.aK (sA.aK hP),by omega,by rw[Nat.mul_zero,List.take_zero];exact dF _ _ _ _ _⟩⟩
set_option maxHeartbeats 2000000 in
theorem Fc {M:aD} {w0:World} {v:Value} {l:List Po} (hM:Lt M w0) (hv:cN RT.li M w0 v (mU l)) (mY:fH (-1) l=true) (kf:∀p∈l,p.2.length≤1099511627776) (k3:(dY (-1) l).length≤1099511627776) (IE:l.length≤1099511627776):
  Spec Tryz.prog 78 #[v] w0 (fun v' w'=>((RT.po).sl).V M w' l v'∧Step M w0 M w' aC):=by
 refine oc (args:=[_]) (fn:=Tryz.f78) Tryz.func78 rfl (n:=12) Tryz.ntmps78 (aj (ae (ah rfl rfl (ab (aj (ae ?_))))));refine dP M xy rfl (fun bo w2 Nr ZS hO s2=>?_);refine ab (aj (aj (ae (ad rfl rfl ?_))));refine aX rfl rfl aiL (Hm (M:=ins M bo) (s2.lt hM)) (fun r w3 h3=>?_);obtain⟨bp,rfl,hP,hbp,s3⟩:=h3;rw[show v.cells= #[v]from by obtain⟨q,rfl⟩:=cN.gz hv;rfl]at hP;refine ab (aZ ?_);refine T.range (gf:=179) (lb:=[.pointer (some ⟨bp,0,none⟩)].toArray) rfl aiM (fun rec nD=>?_);obtain⟨D,hD⟩:∃D,D=w3.heap.size:=⟨_,rfl⟩;rw[←hD]at nD ⊢
 obtain⟨Ms,h0⟩:∃Ms,V9 M w0 l v bo D bp (.loop (rec .ready none)) 0 Ms ((w3.alloc (.deferred (some []))).alloc (.loop (rec .ready none))):=by
  rw[hD]at nD ⊢;exact aa3 s2 s3 hM Nr ZS hbp hO hP
 refine Spec.mono (Fb (J:=V9 M w0 l v bo D bp (.loop (rec .ready none))) (Jx:=fun _=>False) (fun i M1 w ⟨vo,h⟩=>⟨h.p,h.lt,hv.le (by decide) h.S.le,fun w' s=>⟨vo,h.step s⟩⟩) mY kf k3 IE (fun i M1 wr u hJ hi hu=>?_) h0) (fun _ w4 h4=>?_)
 ·obtain⟨vo,h⟩:=hJ;refine lW (ps:=[7]) (vs:=[u]) nD h.r rfl (by decide) (ae (ah rfl rfl (ab ?_)));refine⟨rfl,h.r,?_⟩;have sR:Step M1 wr M1 (wr.putObj (D+1) (.loop (rec .busy none))) (fun k=>k=D+1):=dS h.mr;have Rr:=hu.le sR.le;have h1:=h.mH (st':= .loop (rec .busy none));generalize wr.putObj (D+1) _=wB at h1 Rr ⊢;refine aZ (ae (aM br rfl rfl rfl h1.o rfl (ad rfl rfl ?_)));refine cZ (M:=M1) (base:=D+2) br lM rfl rfl rfl rfl h1.hk Rr (aq _ _) (by simp;omega) (by simp;omega) (by have:=ak h1.r;omega) (fun v3 M3 w4 ze s4=>?_);obtain⟨⟨JC,hm3⟩,FJ⟩:=h1.grow s4 ze;refine cu (M:=M3) xy rfl rfl JC rfl (by obtain⟨_,_,he,_⟩:=ze.isSlice;rw[he];rfl) hm3 (fun w5 hX5 s5=>?_);have h5:=(FJ s5 hX5).mH (st':= .loop (rec .ready none));have h6:=FJ s5 hX5;refine ab ?_;refine⟨h6.r,true,rfl,fun _=>⟨M3,v3,?_⟩,fun h=>by cases h⟩;rw[show 8*(i+1)=8*i+8 from by omega,List.take_add];exact h5
 ·obtain⟨Mz,vo,h⟩:=h4.resolve_right (fun h=>h);left;rw[aW (by omega)]at h;have h5:=h.mH (st':= .loop (rec .exhausted none));refine⟨h.r,?_⟩;generalize w4.putObj (D+1) _=wE at h5 ⊢;refine aj (ae (aM br rfl rfl rfl h5.o rfl (ah rfl rfl (ab (aO ?_)))));obtain⟨q1,q2,q3,q4,q5⟩:=h5.ne;have sZ:Step Mz wE Mz (wE.putObj D (.deferred none)) (fun k=>k=D):=dS h5.md;have SZ:=h5.S.cd sZ (fun k hk=>by subst hk;omega);exact BN rfl rfl h5.d ⟨xF hM SZ ((h5.hk.step sZ (fun k hk hh=>by have:=(h5.hk.base k hk).1;omega)).nB (by omega)) (by omega),SZ.back⟩
end Go.K
namespace Go.K
open Go.Proofs
set_option maxRecDepth 10000
theorem Wa {M:aD} {a b:List (List UInt8)} {v u:Value} (w0:World) (hM:Lt M w0) (hv:((RT.str).sl).V M w0 a v) (hu:((RT.str).sl).V M w0 b u):
  Spec Tryz.prog 74 #[v,u] w0 (fun v' w'=>v'= .bool (decide (a=b))∧Step M w0 M w' aC):=by
 have jM:=hM;have XW:=dy hv;have Xu:=dy hu;refine bc (args:=[_,_]) (fn:=Tryz.f74) Tryz.func74 rfl (n:=26) Tryz.ntmps74 ?_;have S:Step M w0 M w0 aC:=(aw _ _).cA (fun _ h=>h.elim) (fun _ h=>h.elim);refine aj (ae (ah rfl rfl (ab (aj (aj (ae (ad rfl rfl (bM aI rfl hv rfl (ad rfl rfl (bM aI rfl hu rfl (eM rfl rfl rfl ?_)))))))))));refine ab ?_;refine bN rfl (fun c1=>?_) (fun c1=>?_)
 ·refine aj (ae (ah rfl rfl (ab (aO ?_))));exact aS rfl rfl ⟨congrArg Value.bool (decide_eq_false (fun e=>by subst e;exact c1 rfl)).symm,S⟩
 ·have hlen:a.length=b.length:=by omega
  refine aU (aj (aj (ae (ah rfl rfl (ab (aZ ?_))))));refine de (σ:=Nat) (fun k=>[(0,v),(1,u),(5,.int .i64 (k:Int))]) (fun k w=>Step M w0 M w aC∧((RT.str).sl).V M w a v∧((RT.str).sl).V M w b u∧k≤a.length∧a.take k=b.take k) (fun k=>a.length-k) 0 (.cons rfl (.cons rfl (.cons rfl .nil))) ?_ ?_
  ·exact⟨S,hv,hu,bE _,rfl⟩
  ·clear S hv hu hM;rintro k w ⟨S,hv,hu,hk,heq⟩;have hM:=S.lt jM;refine aj (aj (ae (ad rfl rfl (ad rfl rfl (bM aI rfl hv rfl (cj rfl rfl rfl (ab ?_)))))));refine bN rfl (fun c4=>?_) (fun c4=>?_)
   ·refine aU (aj (aZ (aj ?_)));apply mQ mixed rfl rfl;intro wD6 QX;have tB:=QX M;replace hv:=hv.le tB.le;replace hu:=hu.le tB.le;replace hM:=tB.lt hM;have:=S.size;replace S:=S.aB tB;refine ad rfl rfl ?_;refine ab ⟨rfl,rfl,rfl,?_⟩;refine ad rfl rfl ?_;refine ab ⟨rfl,rfl,rfl,?_⟩;obtain⟨x,wR⟩:∃x,a[k]? =some x:=⟨_,ar (by omega)⟩;obtain⟨y,uR⟩:∃y,b[k]? =some y:=⟨_,ar (by omega)⟩;refine cy (M:=M) aI I9 rfl rfl rfl hv (aq _ _) (by omega) (fun u62 x_ jc CE=>?_);rw[ay]at jc;obtain rfl:=aH (wR.symm.trans jc);refine ab ⟨rfl,rfl,rfl,?_⟩;refine bT (M:=M) aJ rfl rfl rfl rfl rfl CE (aq _ _) (fun v63 qO=>?_);obtain rfl:=fS qO;refine ab ⟨rfl,rfl,rfl,?_⟩;refine ad rfl rfl ?_;refine ab ⟨rfl,rfl,rfl,?_⟩;refine ad rfl rfl ?_;refine ab ⟨rfl,rfl,rfl,?_⟩;refine cy (M:=M) aI I9 rfl rfl rfl hu (aq _ _) (by omega) (fun u66 x_ jc Oo=>?_);rw[ay]at jc;obtain rfl:=aH (uR.symm.trans jc);refine ab ⟨rfl,rfl,rfl,?_⟩;refine bT (M:=M) aJ rfl rfl rfl rfl rfl Oo (aq _ _) (fun v67 Wb=>?_);obtain rfl:=fS Wb;refine ab ⟨rfl,rfl,rfl,?_⟩;refine Rg.Kx rfl rfl rfl ?_;refine ab ⟨rfl,rfl,rfl,?_⟩;refine ew ?_;refine bN rfl (fun c6=>?_) (fun c6=>?_)
    ·refine aj (ae (ah rfl rfl (ab (aO ?_))));exact aS rfl rfl ⟨congrArg Value.bool (decide_eq_false (fun e=>by subst e;rw[wR]at uR;cases uR;exact c6 rfl)).symm,S⟩
    ·refine aU (ae (ad rfl rfl (bF rfl rfl rfl (by omega) (ah rfl rfl (ab ?_)))));refine⟨rfl,k+1,(.cons rfl (.cons rfl (.cons rfl .nil))),?_,?_⟩
     ·exact⟨S,hv,hu,by omega,by rw[bK,bK,heq,wR,uR,cJ.1 c6]⟩
     ·omega
   ·refine cG (aj (ae (ah rfl rfl (ab (aO ?_)))));rw[aW (by omega),aW (by omega)]at heq;exact aS rfl rfl ⟨congrArg Value.bool (decide_eq_true heq).symm,S⟩
theorem zQ {M:aD} {a b:List Int} {v u:Value} (w0:World) (hM:Lt M w0) (hv:((RT.int .i64).sl).V M w0 a v) (hu:((RT.int .i64).sl).V M w0 b u):
  Spec Tryz.prog 82 #[v,u] w0 (fun v' w'=>v'= .bool (decide (a=b))∧Step M w0 M w' aC):=by
 have jM:=hM;have XW:=dy hv;have Xu:=dy hu;refine bc (args:=[_,_]) (fn:=Tryz.f82) Tryz.func82 rfl (n:=26) Tryz.ntmps82 ?_;have S:Step M w0 M w0 aC:=(aw _ _).cA (fun _ h=>h.elim) (fun _ h=>h.elim);refine aj (ae (ah rfl rfl (ab (aj (aj (ae (ad rfl rfl (bM an rfl hv rfl (ad rfl rfl (bM an rfl hu rfl (eM rfl rfl rfl ?_)))))))))));refine ab ?_;refine bN rfl (fun c1=>?_) (fun c1=>?_)
 ·refine aj (ae (ah rfl rfl (ab (aO ?_))));exact aS rfl rfl ⟨congrArg Value.bool (decide_eq_false (fun e=>by subst e;exact c1 rfl)).symm,S⟩
 ·have hlen:a.length=b.length:=by omega
  refine aU (aj (aj (ae (ad rfl rfl (bM an rfl hv rfl (ad rfl rfl (ab (aZ ?_))))))));refine de (σ:=Nat) (fun k=>[(0,v),(1,u),(12,.int .i64 (a.length:Int)),(13,.int .i64 (k:Int))]) (fun k w=>Step M w0 M w aC∧((RT.int .i64).sl).V M w a v∧((RT.int .i64).sl).V M w b u∧k≤a.length∧a.take k=b.take k) (fun k=>a.length-k) 0 (.cons rfl (.cons rfl (.cons rfl (.cons rfl .nil)))) ?_ ?_
  ·exact⟨S,hv,hu,bE _,rfl⟩
  ·clear S hv hu hM;rintro k w ⟨S,hv,hu,hk,heq⟩;have hM:=S.lt jM;refine aj (ae (cj rfl rfl rfl (ab (aj ?_))));refine bN rfl (fun c4=>?_) (fun c4=>?_)
   ·refine aU (aj (aZ (aj (ae (ad rfl rfl (ah rfl rfl (ab (aj ?_))))))));apply mQ mixed rfl rfl;intro wD6 QX;have tB:=QX M;replace hv:=hv.le tB.le;replace hu:=hu.le tB.le;replace hM:=tB.lt hM;have:=S.size;replace S:=S.aB tB;refine ad rfl rfl ?_;refine ab ⟨rfl,rfl,rfl,?_⟩;refine ad rfl rfl ?_;refine ab ⟨rfl,rfl,rfl,?_⟩;obtain⟨x,wR⟩:∃x,a[k]? =some x:=⟨_,ar (by omega)⟩;obtain⟨y,uR⟩:∃y,b[k]? =some y:=⟨_,ar (by omega)⟩;refine cy (M:=M) an I3 rfl rfl rfl hv (aq _ _) (by omega) (fun u62 x_ jc CE=>?_);rw[ay]at jc;obtain rfl:=aH (wR.symm.trans jc);refine ab ⟨rfl,rfl,rfl,?_⟩;refine cb (M:=M) ax rfl rfl CE (aq _ _) (fun aco=>?_);refine aV (v':= .int .i64 x) rfl ?_;refine ab ⟨rfl,rfl,rfl,?_⟩;refine ad rfl rfl ?_;refine ab ⟨rfl,rfl,rfl,?_⟩;refine ad rfl rfl ?_;refine ab ⟨rfl,rfl,rfl,?_⟩;refine cy (M:=M) an I3 rfl rfl rfl hu (aq _ _) (by omega) (fun u66 x_ jc Oo=>?_);rw[ay]at jc;obtain rfl:=aH (uR.symm.trans jc);refine ab ⟨rfl,rfl,rfl,?_⟩;refine cb (M:=M) ax rfl rfl Oo (aq _ _) (fun acp=>?_);refine aV (v':= .int .i64 y) rfl ?_;refine ab ⟨rfl,rfl,rfl,?_⟩;refine eM rfl rfl rfl ?_;refine ab ⟨rfl,rfl,rfl,?_⟩;refine ew ?_;refine bN rfl (fun c6=>?_) (fun c6=>?_)
    ·refine aj (ae (ah rfl rfl (ab (aO ?_))));exact aS rfl rfl ⟨congrArg Value.bool (decide_eq_false (fun e=>by subst e;rw[wR]at uR;cases uR;exact c6 rfl)).symm,S⟩
    ·refine aU (ae (bF rfl rfl rfl (by omega) (ad rfl rfl (ab ?_))));refine⟨rfl,k+1,(.cons rfl (.cons rfl (.cons rfl (.cons rfl .nil)))),?_,?_⟩
     ·exact⟨S,hv,hu,by omega,by rw[bK,bK,heq,wR,uR,cJ.1 c6]⟩
     ·omega
   ·refine cG (aj (ae (ah rfl rfl (ab (aO ?_)))));rw[aW (by omega),aW (by omega)]at heq;exact aS rfl rfl ⟨congrArg Value.bool (decide_eq_true heq).symm,S⟩
theorem Oq {M:aD} {a b:List (List UInt8)} {v u:Value} (w0:World) (hM:Lt M w0) (hv:((RT.str).sl).V M w0 a v) (hu:((RT.str).sl).V M w0 b u):
  Spec Tryz.prog 83 #[v,u] w0 (fun v' w'=>v'= .bool (decide (a=b))∧Step M w0 M w' aC):=by
 have jM:=hM;have XW:=dy hv;have Xu:=dy hu;refine bc (args:=[_,_]) (fn:=Tryz.f83) Tryz.func83 rfl (n:=26) Tryz.ntmps83 ?_;have S:Step M w0 M w0 aC:=(aw _ _).cA (fun _ h=>h.elim) (fun _ h=>h.elim);refine aj (ae (ah rfl rfl (ab (aj (aj (ae (ad rfl rfl (bM aI rfl hv rfl (ad rfl rfl (bM aI rfl hu rfl (eM rfl rfl rfl ?_)))))))))));refine ab ?_;refine bN rfl (fun c1=>?_) (fun c1=>?_)
 ·refine aj (ae (ah rfl rfl (ab (aO ?_))));exact aS rfl rfl ⟨congrArg Value.bool (decide_eq_false (fun e=>by subst e;exact c1 rfl)).symm,S⟩
 ·have hlen:a.length=b.length:=by omega
  refine aU (aj (aj (ae (ad rfl rfl (bM aI rfl hv rfl (ad rfl rfl (ab (aZ ?_))))))));refine de (σ:=Nat) (fun k=>[(0,v),(1,u),(12,.int .i64 (a.length:Int)),(13,.int .i64 (k:Int))]) (fun k w=>Step M w0 M w aC∧((RT.str).sl).V M w a v∧((RT.str).sl).V M w b u∧k≤a.length∧a.take k=b.take k) (fun k=>a.length-k) 0 (.cons rfl (.cons rfl (.cons rfl (.cons rfl .nil)))) ?_ ?_
  ·exact⟨S,hv,hu,bE _,rfl⟩
  ·clear S hv hu hM;rintro k w ⟨S,hv,hu,hk,heq⟩;have hM:=S.lt jM;refine aj (ae (cj rfl rfl rfl (ab (aj ?_))));refine bN rfl (fun c4=>?_) (fun c4=>?_)
   ·refine aU (aj (aZ (aj (ae (ad rfl rfl (ah rfl rfl (ab (aj ?_))))))));apply mQ mixed rfl rfl;intro wD6 QX;have tB:=QX M;replace hv:=hv.le tB.le;replace hu:=hu.le tB.le;replace hM:=tB.lt hM;have:=S.size;replace S:=S.aB tB;refine ad rfl rfl ?_;refine ab ⟨rfl,rfl,rfl,?_⟩;refine ad rfl rfl ?_;refine ab ⟨rfl,rfl,rfl,?_⟩;obtain⟨x,wR⟩:∃x,a[k]? =some x:=⟨_,ar (by omega)⟩;obtain⟨y,uR⟩:∃y,b[k]? =some y:=⟨_,ar (by omega)⟩;refine cy (M:=M) aI I9 rfl rfl rfl hv (aq _ _) (by omega) (fun u62 x_ jc CE=>?_);rw[ay]at jc;obtain rfl:=aH (wR.symm.trans jc);refine ab ⟨rfl,rfl,rfl,?_⟩;refine bT (M:=M) aJ rfl rfl rfl rfl rfl CE (aq _ _) (fun v63 qO=>?_);obtain rfl:=fS qO;refine ab ⟨rfl,rfl,rfl,?_⟩;refine ad rfl rfl ?_;refine ab ⟨rfl,rfl,rfl,?_⟩;refine ad rfl rfl ?_;refine ab ⟨rfl,rfl,rfl,?_⟩;refine cy (M:=M) aI I9 rfl rfl rfl hu (aq _ _) (by omega) (fun u66 x_ jc Oo=>?_);rw[ay]at jc;obtain rfl:=aH (uR.symm.trans jc);refine ab ⟨rfl,rfl,rfl,?_⟩;refine bT (M:=M) aJ rfl rfl rfl rfl rfl Oo (aq _ _) (fun v67 Wb=>?_);obtain rfl:=fS Wb;refine ab ⟨rfl,rfl,rfl,?_⟩;refine Rg.Kx rfl rfl rfl ?_;refine ab ⟨rfl,rfl,rfl,?_⟩;refine ew ?_;refine bN rfl (fun c6=>?_) (fun c6=>?_)
    ·refine aj (ae (ah rfl rfl (ab (aO ?_))));exact aS rfl rfl ⟨congrArg Value.bool (decide_eq_false (fun e=>by subst e;rw[wR]at uR;cases uR;exact c6 rfl)).symm,S⟩
    ·refine aU (ae (bF rfl rfl rfl (by omega) (ad rfl rfl (ab ?_))));refine⟨rfl,k+1,(.cons rfl (.cons rfl (.cons rfl (.cons rfl .nil)))),?_,?_⟩
     ·exact⟨S,hv,hu,by omega,by rw[bK,bK,heq,wR,uR,cJ.1 c6]⟩
     ·omega
   ·refine cG (aj (ae (ah rfl rfl (ab (aO ?_)))));rw[aW (by omega),aW (by omega)]at heq;exact aS rfl rfl ⟨congrArg Value.bool (decide_eq_true heq).symm,S⟩
end Go.K

/- What the law 'MergeRefuses' needs of walks and plain Lean, part 5: nothing is assumed beyond the texts that it imports. -/
import Derived.Ground.Names8Prog
import Derived.Ground.SlgnProg
import Derived.Ground.SlsfProg
import Derived.KernelRfl
import Derived.Lib.RowBridge
import Derived.Lib.SlicesCompact
import Derived.Shelf.Lays8
import Derived.Shelf.SlGeneric
import Derived.Shelf.SlLaysN
import Derived.Shelf.SlSortCmp.NoneTotal
import Derived.Shelf.SlicesG.CompactS
import Derived.Shelf.SortM.Plain
import Derived.Shelf.SortM.SortNone
import Derived.Shelf.Spec.SlicesGrow
import Derived.Test.YtbobcaffmbaadaaGreatDoorProg
import Derived.Test.YtbobcaffmbaadaaGreatDoorZMergeRefuses1
import Derived.Test.YtbobcaffmbaadaaGreatDoorZMergeRefuses2
import Derived.Test.YtbobcaffmbaadaaGreatDoorZMergeRefuses3
import Derived.Test.YtbobcaffmbaadaaGreatDoorZMergeRefuses4
set_option linter.unusedVariables false
set_option linter.unusedSimpArgs false
namespace Go.K
abbrev Hd:=Int×Int×Int
def hn (xs:List Hd) (i:Nat):Int:=(xs.getD i (0,0,0)).1
def swp (xs:List Hd) (i j:Nat):List Hd:=(xs.set i (xs.getD j (0,0,0))).set j (xs.getD i (0,0,0))
def p8 (xs:List Hd):Prop:=∀k,0<k→k<xs.length→hn xs ((k-1)/2)≤hn xs k
theorem lT (xs:List Hd) (i j:Nat):(swp xs i j).length=xs.length:=by unfold swp;simp
theorem qJ {xs:List Hd} {i j:Nat} (hi:i<xs.length) (hj:j<xs.length) (k:Nat):(swp xs i j).getD k (0,0,0)=if k=j then xs.getD i (0,0,0)else if k=i then xs.getD j (0,0,0)else xs.getD k (0,0,0):=by
 unfold swp;simp only[az,du,fA];by_cases h1:j=k
 ·subst h1;rw[if_pos rfl,if_pos hj,if_pos rfl];rfl
 ·rw[if_neg h1,if_neg (show¬k=j from fun h=>h1 h.symm)];by_cases h2:i=k
  ·subst h2;rw[if_pos rfl,if_pos rfl,if_pos hi];rfl
  ·rw[if_neg h2,if_neg (show¬k=i from fun h=>h2 h.symm)]
theorem Gw {xs:List Hd} {i j:Nat} (hi:i<xs.length) (hj:j<xs.length) (k:Nat):hn (swp xs i j) k=if k=j then hn xs i else if k=i then hn xs j else hn xs k:=by
 unfold hn;rw[qJ hi hj];split
 ·rfl
 ·split<;>rfl
theorem qK {xs:List Hd} {i j:Nat} (hi:i<xs.length) (hj:j<xs.length):(swp xs i j).Perm xs:=by
 have:=List.set_set_perm hi hj;unfold swp;rw[az,az,au hi,au hj];exact this
structure Ob (xs:List Hd) (j:Nat):Prop where
 a:∀k,0<k→k<xs.length→k≠j→hn xs ((k-1)/2)≤hn xs k
 b:0<j→∀k,0<k→k<xs.length→(k-1)/2=j→hn xs ((j-1)/2)≤hn xs k
theorem Ob.done {xs:List Hd} {j:Nat} (h:Ob xs j) (hd:j=0∨hn xs ((j-1)/2)≤hn xs j):p8 xs:=fun k h0 hk=>by
 by_cases e:k=j
 ·subst e;rcases hd with hd|hd
  ·omega
  ·exact hd
 ·exact h.a k h0 hk e
theorem Ob.push {xs:List Hd} (h:p8 xs) (x:Hd):Ob (xs++[x]) xs.length:=by
 have key:∀k,k<xs.length→hn (xs++[x]) k=hn xs k:=fun k hk=>by
  unfold hn;rw[az,az,jN hk]
 refine⟨fun k h0 hk eN=>?_,fun h0 k EX hk he=>?_⟩
 ·rw[bg,ew]at hk;rw[key k (by omega),key _ (by omega)];exact h k h0 (by omega)
 ·rw[bg,ew]at hk;omega
theorem Ob.swap {xs:List Hd} {j:Nat} (h:Ob xs j) (hj:j<xs.length) (h0:0<j) (hl:hn xs j<hn xs ((j-1)/2)):Ob (swp xs ((j-1)/2) j) ((j-1)/2):=by
 obtain⟨i,hi⟩:∃i,i=(j-1)/2:=⟨_,rfl⟩;rw[←hi]at hl ⊢;have ji:i<j:=by omega
 have hs:=fun k=>Gw (xs:=xs) (i:=i) (j:=j) (by omega) hj k
 refine⟨fun k EX hk eN=>?_,fun hi0 k EX hk he=>?_⟩
 ·rw[lT]at hk;rw[hs,hs];by_cases e1:k=j
  ·subst e1;rw[if_pos rfl,←hi,if_neg (by omega),if_pos rfl];omega
  ·rw[if_neg e1,if_neg eN];by_cases e2:(k-1)/2=j
   ·rw[if_pos e2];have:=h.b h0 k EX hk e2;rw[←hi]at this;exact this
   ·rw[if_neg e2];have h1:=h.a k EX hk e1;by_cases e3:(k-1)/2=i
    ·rw[if_pos e3];rw[e3]at h1;omega
    ·rw[if_neg e3];exact h1
 ·rw[lT]at hk;rw[hs,hs,if_neg (by omega),if_neg (by omega)];have h2:=h.a i hi0 (by omega) (by omega);by_cases e1:k=j
  ·rw[if_pos e1];exact h2
  ·rw[if_neg e1,if_neg (by omega)];have h1:=h.a k EX hk e1;rw[he]at h1;omega
structure JH (xs:List Hd) (n i:Nat):Prop where
 a:∀k,0<k→k<n→(k-1)/2≠i→hn xs ((k-1)/2)≤hn xs k
 b:0<i→∀k,0<k→k<n→(k-1)/2=i→hn xs ((i-1)/2)≤hn xs k
theorem JH.leaf {xs:List Hd} {n i:Nat} (h:JH xs n i) (hl:n≤2*i+1):∀k,0<k→k<n→hn xs ((k-1)/2)≤hn xs k:=fun k h0 hk=>h.a k h0 hk (by omega)
theorem JH.stay {xs:List Hd} {n i j:Nat} (h:JH xs n i) (hj:j=2*i+1∨j=2*i+2) (hm:∀k,(k=2*i+1∨k=2*i+2)→k<n→hn xs j≤hn xs k) (hs:hn xs i≤hn xs j):∀k,0<k→k<n→hn xs ((k-1)/2)≤hn xs k:=fun k h0 hk=>by
 by_cases e:(k-1)/2=i
 ·rw[e];have:=hm k (by omega) hk;omega
 ·exact h.a k h0 hk e
theorem JH.swap {xs:List Hd} {n i j:Nat} (h:JH xs n i) (Ix:n≤xs.length) (Jw:j<n) (hj:j=2*i+1∨j=2*i+2) (hm:∀k,(k=2*i+1∨k=2*i+2)→k<n→hn xs j≤hn xs k) (hl:hn xs j<hn xs i):JH (swp xs i j) n j:=by
 have hs:=fun k=>Gw (xs:=xs) (i:=i) (j:=j) (by omega) (by omega) k
 refine⟨fun k EX hk eN=>?_,fun _ k EX hk he=>?_⟩
 ·rw[hs,hs,if_neg eN];by_cases e1:(k-1)/2=i
  ·rw[if_pos e1];by_cases e2:k=j
   ·rw[if_pos e2];omega
   ·rw[if_neg e2,if_neg (by omega)];exact hm k (by omega) hk
  ·rw[if_neg e1,if_neg (by omega)];by_cases e2:k=i
   ·rw[if_pos e2,e2];rw[e2]at EX;exact h.b EX j (by omega) Jw (by omega)
   ·rw[if_neg e2];exact h.a k EX hk e1
 ·rw[hs,hs,if_neg (by omega),if_pos (by omega),if_neg (by omega),if_neg (by omega)];have h1:=h.a k EX hk (by omega);rw[he]at h1;exact h1
theorem JH.pop {xs:List Hd} (h:p8 xs) (hl:0<xs.length):JH (swp xs 0 (xs.length-1)) (xs.length-1) 0:=by
 have hs:=fun k=>Gw (xs:=xs) (i:=0) (j:=xs.length-1) hl (by omega) k
 refine⟨fun k EX hk eN=>?_,fun h0=>by omega⟩;rw[hs,hs,if_neg (by omega),if_neg (by omega),if_neg (by omega),if_neg (by omega)];exact h k EX (by omega)
theorem p8.min {xs:List Hd} (h:p8 xs):∀k,k<xs.length→hn xs 0≤hn xs k
 |0,_=>Int.le_refl _
 |k+1,hk=>Int.le_trans (p8.min h (k/2) (by omega)) (by have:=h (k+1) (by omega) hk;rwa [Nat.add_sub_cancel]at this)
termination_by k _=>k
theorem p8.take {xs:List Hd} {n:Nat} (Ix:n≤xs.length) (h:∀k,0<k→k<n→hn xs ((k-1)/2)≤hn xs k):p8 (xs.take n):=fun k h0 hk=>by
 rw[bC]at hk
 have key:∀t,t<n→hn (xs.take n) t=hn xs t:=fun t ht=>by
  unfold hn;rw[az,az,cj,if_pos ht]
 rw[key _ (by omega),key _ (by omega)];exact h k h0 (by omega)
theorem U0 {xs:List Hd} {x:Hd} (hx:x∈xs):∃k,k<xs.length∧xs.getD k (0,0,0)=x∧hn xs k=x.1:=by
 obtain⟨k,hk⟩:=bm.1 hx;have h1:=(an.1 hk).1;refine⟨k,h1,?_,?_⟩
 ·rw[az,hk];rfl
 ·unfold hn;rw[az,hk];rfl
theorem PM {xs ys:List Hd} (hl:0<xs.length) (hp:ys.Perm xs) (jl:ys.getD (xs.length-1) (0,0,0)=xs.getD 0 (0,0,0)):∃x,ys.getD (xs.length-1) (0,0,0)=x∧(x::ys.take (xs.length-1)).Perm xs:=by
 refine⟨_,rfl,?_⟩;have Ff:=hp.length_eq
 have h1:ys=ys.take (xs.length-1)++[ys.getD (xs.length-1) (0,0,0)]:=by
  conv=>lhs;rw[←uK (xs.length-1) ys]
  congr 1;rw[dB (by omega),fD (by omega),az,au (by omega)];rfl
 have h2:(ys.getD (xs.length-1) (0,0,0)::ys.take (xs.length-1)).Perm (ys.take (xs.length-1)++[ys.getD (xs.length-1) (0,0,0)]):=(List.perm_append_comm (l₁:=[_]));rw[←h1]at h2;exact h2.trans hp
end Go.K
namespace Go.K
theorem td:∀(l:List Int) (last:Int),ek last l=true→l.Pairwise (· < ·)∧∀x∈l,last<x
 |[],_,_=>by simp
 |a::l,last,h=>by
  simp only[ek,bT,decide_eq_true_eq]at h;obtain⟨h1,h2⟩:=td l a h.2;refine⟨ei.2 ⟨h2,h1⟩,fun x hx=>?_⟩;rcases bX.1 hx with rfl|hx
  ·exact h.1
  ·have:=h2 x hx;omega
end Go.K
namespace Go.K
def Tr (ls:List (List Int)) (i k:Nat) (n:Int):Prop:=∃l,ls[i]? =some l∧l[k]? =some n
def yX (f:Nat→Nat):Nat→Nat
 |0=>0
 |k+1=>yX f k+f k
theorem HE {f g:Nat→Nat}:∀{n:Nat},(∀j,j<n→f j=g j)→yX f n=yX g n
 |0,_=>rfl
 |n+1,h=>by unfold yX;rw[HE (fun j hj=>h j (by omega)),h n (by omega)]
theorem Ea {f g:Nat→Nat} {i:Nat} (hi:f i=g i+1) (hj:∀j,j≠i→f j=g j):∀{n:Nat},i<n→yX f n=yX g n+1
 |0,h=>by omega
 |n+1,h=>by
  unfold yX;by_cases e:i=n
  ·subst e;rw[hi,HE (fun j hj'=>hj j (by omega))];omega
  ·rw[Ea hi hj (n:=n) (by omega),hj n (fun h=>e h.symm)];omega
def qL (ls:List (List Int)) (i:Nat):Nat:=(ls.getD i []).length
def rR (ls:List (List Int)):Nat:=yX (qL ls) ls.length
def rem (ls:List (List Int)) (at_:Nat→Nat):Nat:=yX (fun i=>qL ls i-at_ i) ls.length
def Eb (at_:Nat→Nat) (i:Nat):Nat→Nat:=fun j=>if j=i then at_ j+1 else at_ j
theorem Tr.lt {ls:List (List Int)} {i k:Nat} {n:Int} (h:Tr ls i k n):i<ls.length∧k<qL ls i:=by
 obtain⟨l,h1,h2⟩:=h;have h3:=(an.1 h1).1;refine⟨h3,?_⟩;unfold qL;rw[az,h1];exact(an.1 h2).1
theorem Tr.un {ls:List (List Int)} {i k:Nat} {n n':Int} (h:Tr ls i k n) (h':Tr ls i k n'):n=n':=by
 obtain⟨l,h1,h2⟩:=h;obtain⟨l',h3,h4⟩:=h';rw[h1]at h3;cases h3;rw[h2]at h4;cases h4;rfl
theorem Tr.ex {ls:List (List Int)} {i k:Nat} (h:k<qL ls i):∃n,Tr ls i k n:=by
 unfold qL at h;rw[az]at h
 cases hi:ls[i]? with
 |none=>rw[hi]at h;simp at h
 |some l=>rw[hi]at h;exact⟨_,l,hi,au h⟩
def Up (ls:List (List Int)):Prop:=∀l∈ls,ek (-1) l=true
noncomputable instance (ls:List (List Int)):Decidable (Up ls):=Classical.propDecidable _
theorem Up.mono {ls:List (List Int)} (h:Up ls) {i k k':Nat} {n n':Int} (h1:Tr ls i k n) (h2:Tr ls i k' n') (hk:k<k'):n<n':=by
 obtain⟨l,a1,a2⟩:=h1;obtain⟨l',b1,b2⟩:=h2;rw[a1]at b1;cases b1;have hp:=(td l (-1) (h l (aA a1))).1;obtain⟨c1,c2⟩:=an.1 a2;obtain⟨d1,d2⟩:=an.1 b2;rw[←c2,←d2];exact(cq.1 hp) k k' c1 d1 hk
theorem Up.nn {ls:List (List Int)} (h:Up ls) {i k:Nat} {n:Int} (h1:Tr ls i k n):0≤n:=by
 obtain⟨l,a1,a2⟩:=h1;have:=(td l (-1) (h l (aA a1))).2 n (aA a2);omega
structure yY (ls:List (List Int)) (at_:Nat→Nat) (out:List Hd) (last:Int):Prop where
 a:∀o∈out,∃i k:Nat,o=(o.1,(i:Int),(k:Int))∧Tr ls i k o.1∧k<at_ i
 b:∀i k n,Tr ls i k n→k<at_ i→(n,(i:Int),(k:Int))∈out
 c:out.Pairwise fun p q=>p.1<q.1
 d:∀o∈out,o.1≤last
 d2:last= -1∨∃o∈out,o.1=last
 e:∀i n,Tr ls i (at_ i) n→last≤n
 f:out.length+rem ls at_=rR ls
theorem yY.zero (ls:List (List Int)) (h:Up ls):yY ls (fun _=>0) [] (-1):=
 ⟨fun _ h=>by(cases h),fun i k n _ h=>by omega,List.Pairwise.nil,fun _ h=>by(cases h),.inl rfl,fun i n ht=>by have:=h.nn ht;omega,by simp[rem,rR]⟩
theorem yY.step {ls:List (List Int)} {at_:Nat→Nat} {out:List Hd} {last:Int} (hu:Up ls) (h:yY ls at_ out last) {i:Nat} {n:Int} (ht:Tr ls i (at_ i) n) (MX:∀j m,Tr ls j (at_ j) m→n≤m) (eN:n≠last):
  yY ls (Eb at_ i) (out++[(n,(i:Int),((at_ i:Nat):Int))]) n:=by
 have dO:=h.e i n ht;refine⟨fun o ho=>?_,fun j k m hj hk=>?_,?_,fun o ho=>?_,.inr ⟨_,List.mem_append_right _ (bE.2 rfl),rfl⟩,fun j m hj=>?_,?_⟩
 ·rcases ck.1 ho with ho|ho
  ·obtain⟨j,k,h1,h2,h3⟩:=h.a o ho;exact⟨j,k,h1,h2,by unfold Eb;split<;>omega⟩
  ·rw[bE]at ho;subst ho;exact⟨i,at_ i,rfl,ht,by unfold Eb;rw[if_pos rfl];omega⟩
 ·unfold Eb at hk;by_cases e:j=i
  ·subst e;rw[if_pos rfl]at hk;rcases cJ k (at_ j)with h1|h1
   ·exact gy _ (h.b j k m hj h1)
   ·obtain rfl:k=at_ j:=by omega
    rw[hj.un ht];exact List.mem_append_right _ (bE.2 rfl)
  ·rw[if_neg e]at hk;exact gy _ (h.b j k m hj hk)
 ·refine nt.2 ⟨h.c,List.pairwise_singleton _ _,fun p hp q hq=>?_⟩;rw[bE]at hq;subst hq;have:=h.d p hp;simp only;omega
 ·rcases ck.1 ho with ho|ho
  ·have:=h.d o ho;omega
  ·rw[bE]at ho;subst ho;exact Int.le_refl _
 ·unfold Eb at hj;by_cases e:j=i
  ·subst e;rw[if_pos rfl]at hj;have:=hu.mono ht hj (by omega);omega
  ·rw[if_neg e]at hj;exact MX j m hj
 ·obtain⟨h1,h2⟩:=ht.lt;have h3:=h.f;have h4:rem ls at_=rem ls (Eb at_ i)+1:=Ea (i:=i) (by simp only[Eb,if_true];omega) (fun j hj=>by simp only[Eb,if_neg hj]) h1;rw[bg,ew];omega
def rF (ls:List (List Int)):Option (List Hd)→Prop
 |none=>∃i k i' k' n,¬(i=i'∧k=k')∧Tr ls i k n∧Tr ls i' k' n
 |some out=>(out.Pairwise fun p q=>p.1<q.1)∧(∀o∈out,∃i k:Nat,o=(o.1,(i:Int),(k:Int))∧Tr ls i k o.1)∧∀i k n,Tr ls i k n→(n,(i:Int),(k:Int))∈out
theorem yY.fin {ls:List (List Int)} {at_:Nat→Nat} {out:List Hd} {last:Int} (h:yY ls at_ out last) (hn:∀i n,¬Tr ls i (at_ i) n):rF ls (some out):=by
 refine⟨h.c,fun o ho=>?_,fun i k n ht=>?_⟩
 ·obtain⟨i,k,h1,h2,_⟩:=h.a o ho;exact⟨i,k,h1,h2⟩
 ·refine h.b i k n ht ?_;rcases cJ k (at_ i)with h1|h1
  ·exact h1
  ·obtain⟨m,hm⟩:=Tr.ex (ls:=ls) (i:=i) (k:=at_ i) (by have:=ht.lt.2;omega);exact absurd hm (hn i m)
theorem yY.Zp {ls:List (List Int)} {at_:Nat→Nat} {out:List Hd} {last:Int} (hu:Up ls) (h:yY ls at_ out last) {i:Nat} {n:Int} (ht:Tr ls i (at_ i) n) (he:n=last):rF ls none:=by
 rcases h.d2 with h1|⟨o,ho,h1⟩
 ·have:=hu.nn ht;omega
 ·obtain⟨j,k,h2,h3,h4⟩:=h.a o ho;refine⟨i,at_ i,j,k,n,fun⟨e1,e2⟩=>by subst e1;omega,ht,?_⟩;rw[he,←h1];exact h3
theorem AZ:∀{a b:List Hd},(a.Pairwise fun p q=>p.1<q.1)→(b.Pairwise fun p q=>p.1<q.1)→(∀x,x∈a↔x∈b)→a=b
 |[],[],_,_,_=>rfl
 |[],y::b,_,_,h=>by have:=(h y).2 (bH ..);cases this
 |x::a,[],_,_,h=>by have:=(h x).1 (bH ..);cases this
 |x::a,y::b,ha,hb,h=>by
  obtain⟨ha1,ha2⟩:=ei.1 ha;obtain⟨wz,A7⟩:=ei.1 hb
  have e:x=y:=by
   rcases bX.1 ((h x).1 (bH ..))with h1|h1
   ·exact h1
   ·rcases bX.1 ((h y).2 (bH ..))with h2|h2
    ·exact h2.symm
    ·have:=wz x h1;have:=ha1 y h2;omega
  subst e;rw[AZ ha2 A7 (fun z=>?_)];constructor
  ·intro hz;rcases bX.1 ((h z).1 (b9 _ hz))with h1|h1
   ·subst h1;have:=ha1 z hz;omega
   ·exact h1
  ·intro hz;rcases bX.1 ((h z).2 (b9 _ hz))with h1|h1
   ·subst h1;have:=wz z hz;omega
   ·exact h1
theorem Gx {out:List Hd} (h:out.Pairwise fun p q=>p.1<q.1) {x y:Hd} (hx:x∈out) (hy:y∈out) (he:x.1=y.1):x=y:=by
 obtain⟨i,hi⟩:=bm.1 hx;obtain⟨j,hj⟩:=bm.1 hy;obtain⟨i1,i2⟩:=an.1 hi;obtain⟨j1,j2⟩:=an.1 hj;have hp:=cq.1 h;rcases eE i j with h1|h1|h1
 ·have:=hp i j i1 j1 h1;rw[i2,j2]at this;omega
 ·subst h1;rw[←i2,←j2]
 ·have:=hp j i j1 i1 h1;rw[i2,j2]at this;omega
theorem rF.un {ls:List (List Int)}:∀{r r':Option (List Hd)},rF ls r→rF ls r'→r=r':=by
 have key:∀{out:List Hd},rF ls none→rF ls (some out)→False:=by
  rintro out ⟨i,k,i',k',n,eN,h1,h2⟩ ⟨h3,h4,h5⟩;have:=Gx h3 (h5 _ _ _ h1) (h5 _ _ _ h2) rfl;simp only[dq,true_and]at this;exact eN ⟨by omega,by omega⟩
 intro r r' h h'
 cases r with
 |none=>cases r' with
  |none=>rfl
  |some o=>exact(key h h').elim
 |some o=>cases r' with
  |none=>exact(key h' h).elim
  |some o'=>
   have half:∀{a b:List Hd},rF ls (some a)→rF ls (some b)→∀x∈a,x∈b:=fun ha hb x hx=>by
    obtain⟨i,k,e1,e2⟩:=ha.2.1 x hx;rw[e1];exact hb.2.2 i k _ e2
   rw[AZ h.1 h'.1 (fun x=>⟨half h h' x,half h' h x⟩)]
def oy (ls:List (List Int)) (at_:Nat→Nat) (upto:Nat) (hs:List Hd):Prop:=hs.Nodup∧∀h:Hd,h∈hs↔∃(i:Nat) (n:Int),i<upto∧h=(n,(i:Int),((at_ i:Nat):Int))∧Tr ls i (at_ i) n
theorem oy.perm {ls:List (List Int)} {at_:Nat→Nat} {u:Nat} {hs rf:List Hd} (h:oy ls at_ u hs) (hp:rf.Perm hs):oy ls at_ u rf:=⟨hp.nodup_iff.2 h.1,fun x=>(hp.mem_iff).trans (h.2 x)⟩
def I2 (ls:List (List Int)) (i k:Nat):List Hd:=match (ls.getD i [])[k]? with
 |some n=>[(n,(i:Int),(k:Int))]
 |none=>[]
theorem Tr.iff {ls:List (List Int)} {i k:Nat} {n:Int}:Tr ls i k n↔i<ls.length∧(ls.getD i [])[k]? =some n:=by
 constructor
 ·rintro⟨l,h1,h2⟩;have h3:=(an.1 h1).1;rw[az,h1];exact⟨h3,h2⟩
 ·rintro⟨h1,h2⟩;rw[az,au h1]at h2;exact⟨_,au h1,h2⟩
theorem xx {ls:List (List Int)} {i k:Nat} (hi:i<ls.length) {h:Hd}:h∈I2 ls i k↔∃n,h=(n,(i:Int),(k:Int))∧Tr ls i k n:=by
 unfold I2;constructor
 ·intro hh
  split at hh
  ·rename_i n hn
   rw[bE]at hh;exact⟨n,hh,Tr.iff.2 ⟨hi,hn⟩⟩
  ·cases hh
 ·rintro⟨n,rfl,ht⟩;rw[(Tr.iff.1 ht).2];exact bE.2 rfl
theorem A0 (ls:List (List Int)) (i k:Nat):(I2 ls i k).Nodup:=by unfold I2;split<;>simp
theorem oy.fill {ls:List (List Int)} {u:Nat} {hs rf:List Hd} (h:oy ls (fun _=>0) u hs) (hu:u<ls.length) (hp:rf.Perm (hs++I2 ls u 0)):oy ls (fun _=>0) (u+1) rf:=by
 refine oy.perm (hs:=hs++I2 ls u 0) ⟨?_,fun x=>?_⟩ hp
 ·refine List.nodup_append.2 ⟨h.1,A0 _ _ _,fun a ha b hb e=>?_⟩;subst e;obtain⟨i,n,h1,h2,_⟩:=(h.2 a).1 ha;obtain⟨m,h3,_⟩:=(xx hu).1 hb;rw[h2]at h3;simp only[dq]at h3;omega
 ·rw[ck,h.2 x,xx hu];constructor
  ·rintro(⟨i,n,h1,h2,h3⟩|⟨n,h2,h3⟩)
   ·exact⟨i,n,by omega,h2,h3⟩
   ·exact⟨u,n,by omega,h2,h3⟩
  ·rintro⟨i,n,h1,h2,h3⟩;rcases cJ i u with h4|h4
   ·exact .inl ⟨i,n,h4,h2,h3⟩
   ·obtain rfl:i=u:=by omega
    exact .inr ⟨n,h2,h3⟩
theorem oy.next {ls:List (List Int)} {at_:Nat→Nat} {hs ys zs:List Hd} {i:Nat} {n:Int} (h:oy ls at_ ls.length hs) (hp:((n,(i:Int),((at_ i:Nat):Int))::ys).Perm hs) (hi:i<ls.length) (hz:zs.Perm (ys++I2 ls i (at_ i+1))):oy ls (Eb at_ i) ls.length zs:=by
 have oE:=(hp.nodup_iff).2 h.1;obtain⟨hn1,hn2⟩:=List.nodup_cons.1 oE
 have eH:∀x,x∈ys↔x∈hs∧x≠(n,(i:Int),((at_ i:Nat):Int)):=fun x=>by
  rw[←hp.mem_iff,bX];constructor
  ·intro hx;exact⟨.inr hx,fun e=>hn1 (e▸hx)⟩
  ·rintro⟨h1|h1,h2⟩
   ·exact absurd h1 h2
   ·exact h1
 have hx:(n,(i:Int),((at_ i:Nat):Int))∈hs:=(hp.mem_iff).1 (bH ..);obtain⟨i',n',h1,h2,h3⟩:=(h.2 _).1 hx;simp only[dq]at h2;obtain⟨e1,e2,e3⟩:=h2;obtain rfl:i=i':=by omega
 subst e1;refine oy.perm (hs:=ys++I2 ls i (at_ i+1)) ⟨?_,fun x=>?_⟩ hz
 ·refine List.nodup_append.2 ⟨hn2,A0 _ _ _,fun a ha b hb e=>?_⟩;subst e;obtain⟨j,m,g1,g2,g3⟩:=(h.2 a).1 ((eH a).1 ha).1;obtain⟨m',g4,_⟩:=(xx hi).1 hb;rw[g2]at g4;simp only[dq]at g4;obtain rfl:j=i:=by omega
  omega
 ·rw[ck,eH,h.2 x,xx hi];constructor
  ·rintro(⟨⟨j,m,g1,g2,g3⟩,g4⟩|⟨m,g2,g3⟩)
   ·have Q4:j≠i:=fun e=>by subst e;rw[g2]at g4;exact g4 (by rw[g3.un h3])
    exact⟨j,m,g1,by rw[g2];simp only[Eb,if_neg Q4],by simp only[Eb,if_neg Q4];exact g3⟩
   ·exact⟨i,m,hi,by rw[g2];simp only[Eb,if_true],by simp only[Eb,if_true];exact g3⟩
  ·rintro⟨j,m,g1,g2,g3⟩;by_cases e:j=i
   ·subst e;simp only[Eb,if_true]at g2 g3;exact .inr ⟨m,g2,g3⟩
   ·simp only[Eb,if_neg e]at g2 g3;exact .inl ⟨⟨j,m,g1,g2,g3⟩,fun e2=>by rw[g2]at e2;simp only[dq]at e2;omega⟩
theorem oy.zero (ls:List (List Int)):oy ls (fun _=>0) 0 []:=⟨List.nodup_nil,fun x=>⟨fun h=>by(cases h),fun⟨i,n,h,_⟩=>by omega⟩⟩
theorem oy.agh {ls:List (List Int)} {at_:Nat→Nat} (h:oy ls at_ ls.length []):∀i n,¬Tr ls i (at_ i) n:=fun i n ht=>by
 have:=(h.2 _).2 ⟨i,n,ht.lt.1,rfl,ht⟩;cases this
theorem oy.len {ls:List (List Int)} {at_:Nat→Nat} {u:Nat} {hs:List Hd} (h:oy ls at_ u hs):hs.length≤u:=by
 have Og:(hs.map fun h=>h.2.1.toNat).Nodup:=by
  refine cy.2 (h.1.imp_of_mem fun {a b} ha hb Wm e=>Wm ?_);obtain⟨i,n,_,h2,h3⟩:=(h.2 a).1 ha;obtain⟨j,m,_,g2,g3⟩:=(h.2 b).1 hb;rw[h2,g2]at e;simp only[ay]at e;subst e;rw[h2,g2,h3.un g3]
 have dO:∀x∈(hs.map fun h=>h.2.1.toNat),x<u:=fun x hx=>by
  obtain⟨y,hy,rfl⟩:=ca.1 hx;obtain⟨i,n,h1,h2,_⟩:=(h.2 y).1 hy;rw[h2];simpa using h1
 have hss:∀x∈(hs.map fun h=>h.2.1.toNat),x∈List.range u:=fun x hx=>List.mem_range.2 (dO x hx)
 have:=List.Nodup.length_le_of_subset Og hss;rw[aI,List.length_range]at this;exact this
theorem ia {l:List Int} (h0:0<l.length):ek (-1) l=true↔0≤l.getD 0 0∧(∀i,i+1<l.length→l.getD i 0≤l.getD (i+1) 0)∧(∀i,i+1<l.length→l.getD i 0≠l.getD (i+1) 0):=by
 have key:∀(l:List Int) (last:Int),ek last l=true↔(∀x,l[0]? =some x→last<x)∧∀i,i+1<l.length→l.getD i 0<l.getD (i+1) 0:=by
  intro l
  induction l with
  |nil=>intro last;simp[ek]
  |cons a l ih=>
   intro last;simp only[ek,bT,decide_eq_true_eq,ih a];constructor
   ·rintro⟨h1,h2,h3⟩;refine⟨fun x hx=>by simp at hx;omega,fun i hi=>?_⟩
    cases i with
    |zero=>
     cases l with
     |nil=>simp at hi
     |cons b l=>simpa using h2 b rfl
    |succ i=>simpa using h3 i (by simpa using hi)
   ·rintro⟨h1,h2⟩;refine⟨h1 a rfl,fun x hx=>?_,fun i hi=>?_⟩
    ·have:=h2 0 (by have:=(an.1 hx).1;simp;omega);simp only[je,fR,jf]at this;rw[az,hx]at this;exact this
    ·have:=h2 (i+1) (by simp;omega);simpa using this
 rw[key];constructor
 ·rintro⟨h1,h2⟩;refine⟨?_,fun i hi=>Int.le_of_lt (h2 i hi),fun i hi=>by have:=h2 i hi;omega⟩;have:=h1 _ (au h0);rw[az,au h0];simp only[Option.getD_some];omega
 ·rintro⟨h1,h2,h3⟩;refine⟨fun x hx=>?_,fun i hi=>by have:=h2 i hi;have:=h3 i hi;omega⟩;rw[az,hx]at h1;simp only[Option.getD_some]at h1;omega
def dR (out:List Hd):List (Int×Int):=out.map Prod.snd
end Go.K
namespace Go.K
abbrev RT.hd:RT Hd:=RT.pair (RT.int .i64) (RT.pair (RT.int .i64) (RT.int .i64))
theorem Rz:Part RT.hd (RT.int .i64) (fun h=>h.1) 0:=mR _ _
theorem hd1:Part RT.hd (RT.int .i64) (fun h=>h.2.1) 1:=(iA _ _).trans (mR _ _)
theorem hd2:Part RT.hd (RT.int .i64) (fun h=>h.2.2) 2:=(iA _ _).trans (iA _ _)
def lU (x:Int):Prop:= -9223372036854775808≤x∧x≤9223372036854775807
theorem MY {M:aC} {w:World} {a b c:Int} (ha:lU a) (hb:lU b) (hc:lU c):RT.hd.V M w (a,b,c) (.agg #[.int .i64 a,.int .i64 b,.int .i64 c]):=
 ⟨[.int .i64 a,.int .i64 b,.int .i64 c],⟨[.int .i64 a],[.int .i64 b,.int .i64 c],rfl,⟨rfl,ha⟩,⟨[.int .i64 b],[.int .i64 c],rfl,⟨rfl,hb⟩,⟨rfl,hc⟩⟩⟩,rfl⟩
theorem tf {M:aC} {w:World} {a b c:Int} {v:Value} (h:RT.hd.V M w (a,b,c) v):v= .agg #[.int .i64 a,.int .i64 b,.int .i64 c]∧lU a∧lU b∧lU c:=by
 obtain⟨vs,⟨va,vb,rfl,h1,⟨vc,vd,rfl,h2,h3⟩⟩,rfl⟩:=h;have e1:=h1.1;have e2:=h2.1;have e3:=h3.1;subst e1;subst e2;subst e3;exact⟨rfl,h1.2,h2.2,h3.2⟩
theorem Step.Zq {M M2 N:aC} {w w':World} (s:Step M w M w' N) (hm:∀b,b<w.heap.size→(M2 b↔M b)) (hl:Lt M2 w'):Step M w M2 w' N:=
 ⟨fun _=>hl,s.os,s.tape,s.output,s.size,hm,s.same,s.sub⟩
theorem Own.ltM {α:Type} {A:RT α} {e:TypeId} {M:aC} {w:World} {base:Nat} {v:Value} {xs:List α} (h:Own A e M w base v xs):xs.length≤9223372036854775807:=by
 obtain⟨⟨C,hr,_⟩,_⟩:=h;rcases hr.2 with⟨_,h2⟩|⟨g,cap,cur,h1,h2,h3,h4,h5,_⟩
 ·omega
 ·unfold maxLen at h5;omega
theorem Own.BW {α:Type} {A:RT α} {e:TypeId} {M:aC} {w:World} {base:Nat} {v:Value} {xs:List α} (h:Own A e M w base v xs) (hl:0<xs.length):v≠ .slice none 0 0:=fun e=>by
 obtain⟨a,cap,h1,_⟩:=h.isSlice;rw[e]at h1;simp only[fW]at h1;omega
theorem Own.apart {α:Type} {A:RT α} {e Th:TypeId} {M:aC} {w:World} {base bh:Nat} {v:Value} {xs:List α} {cs:Array Value} {fr:Nat×Nat} (h:Own A e M w base v xs) (hb:w.heap[bh]? =some (.cells cs Th fr)) (ne:Th≠e):∀k,v.ownBlock=some k→k≠bh:=fun k hk he=>by
 obtain⟨⟨C,hr,_⟩,_⟩:=h;rcases hr.2 with⟨h1,_⟩|⟨g,cap,cur,h1,h2,h3,_⟩
 ·rw[h1]at hk;cases hk
 ·rw[h1]at hk;cases hk;have he:g=bh:=he;rw[he]at h3;have:=hb.symm.trans h3;simp only[cH,Obj.cells.injEq]at this;exact ne this.2.1
structure rG (Th Te:TypeId) (M:aC) (w:World) (bh base:Nat) (v:Value) (hs:List Hd):Prop where
 h:w.heap[bh]? =some (.cells #[v] Th (0,0))
 mh:M bh
 o:Own RT.hd Te M w base v hs
 nn:v≠ .slice none 0 0
 ne:Th≠Te
section
variable {Th Te:TypeId} {M M' N:aC} {w w':World} {bh base:Nat} {v v':Value} {hs rf:List Hd}
theorem rG.apart (h:rG Th Te M w bh base v hs):∀k,v.ownBlock=some k→k≠bh:=h.o.apart h.h h.ne
theorem rG.aM (h:rG Th Te M w bh base v hs) (s:Step M w M' w' aD):rG Th Te M' w' bh base v hs:=⟨s.aK h.h,(s.mem bh (ak h.h)).2 h.mh,h.o.aM s,h.nn,h.ne⟩
theorem rG.wrote (h:rG Th Te M w bh base v hs) (s:Step M w M w' (fP v)) (ho:Own RT.hd Te M w' base v rf):rG Th Te M w' bh base v rf:=
 ⟨s.keep h.h (fun hk=>h.apart bh hk rfl),h.mh,ho,h.nn,h.ne⟩
theorem Own.val {α:Type} {A:RT α} {e:TypeId} {base:Nat} {xs:List α} (h:Own A e M w base v xs) {j:Nat} {x:α} (hx:xs[j]? =some x):∃u,A.V M w x u:=by
 obtain⟨⟨C,hr,ha⟩,_⟩:=h;obtain⟨vs,hv,_⟩:=ha.at_ j x hx;exact⟨_,vs,hv,rfl⟩
theorem rG.view {hn:0<RT.hd.n} (h:rG Th Te M w bh base v hs) (hl:hs.length≤140737488355328):(RT.hd.sl hn).V (fun k=>M k∧¬v.ownBlock=some k) w hs v:=
 h.o.sl (fun b _ hm=>⟨fun h=>hm h.1,rfl⟩) (fun b hb h=>h.2 hb) hl
end
def BT (w:World) (k:Nat) (T:TypeId):Prop:=∃cs fr,w.heap[k]? =some (.cells cs T fr)
theorem BT.ne {w:World} {a b:Nat} {Ta Tb:TypeId} (ha:BT w a Ta) (hb:BT w b Tb) (h:Ta≠Tb):a≠b:=fun e=>by
 subst e;obtain⟨cs,fr,h1⟩:=ha;obtain⟨ES,fr',h2⟩:=hb;have:=h1.symm.trans h2;simp only[cH,Obj.cells.injEq]at this;exact h this.2.1
theorem Own.bt {α:Type} {A:RT α} {e:TypeId} {M:aC} {w:World} {base:Nat} {v:Value} {xs:List α} (h:Own A e M w base v xs):∀k,v.ownBlock=some k→BT w k e:=fun k hk=>by
 obtain⟨⟨C,hr,_⟩,_⟩:=h;rcases hr.2 with⟨h1,_⟩|⟨g,cap,cur,h1,h2,h3,_⟩
 ·rw[h1]at hk;cases hk
 ·rw[h1]at hk;cases hk;exact⟨_,_,h3⟩
def NB (Te:TypeId) (M:aC) (w:World) (bh base:Nat):aC:=fun k=>M k∧(k=bh∨(base≤k∧BT w k Te))
theorem NB.not {Te T:TypeId} {M:aC} {w:World} {bh base k:Nat} (hk:BT w k T) (eN:T≠Te) (hb:k≠bh): ¬NB Te M w bh base k:=fun h=>h.2.elim hb fun h2=>hk.ne h2.2 eN rfl
section
variable {Th Te:TypeId} {M M1 M2 M' N:aC} {w w0 w1 w2 w':World} {bh base:Nat} {v:Value} {hs:List Hd}
theorem Step.nb (s1:Step M w0 M1 w1 (NB Te M w0 bh base)) (s2:Step M1 w1 M2 w2 (NB Te M1 w1 bh base)):Step M w0 M2 w2 (NB Te M w0 bh base):=
 s1.trans s2 fun b hb h=>by
  by_cases hn:NB Te M w0 bh base b
  ·exact hn
  ·refine⟨(s1.mem b hb).1 h.1,h.2.imp id fun⟨LB,cs,fr,hc⟩=>⟨LB,cs,fr,?_⟩⟩;rw[←s1.same b hb hn];exact hc
theorem Step.nbw (s:Step M w M' w' (fP v)) (h:rG Th Te M w bh base v hs):Step M w M' w' (NB Te M w bh base):=s.cG (fun b hb=>⟨h.o.mut_ b hb,.inr ⟨(h.o.base b hb).1,h.o.bt b hb⟩⟩) (fun _ h=>h.1)
theorem Step.nb0 (s:Step M w M' w' aD):Step M w M' w' (NB Te M w bh base):=s.cG (fun _ h=>h.elim) (fun _ h=>h.1)
theorem rG.keep (h:rG Th Te M w bh base v hs) (s:Step M w M' w' N) (hb: ¬N bh) (hv:∀k,v.ownBlock=some k→¬N k):rG Th Te M' w' bh base v hs:=
 ⟨s.keep h.h hb,(s.mem bh (ak h.h)).2 h.mh,h.o.step s hv,h.nn,h.ne⟩
end
section
variable {P:Program} {r:Option Nat} {n:Nat} {L:Sl} {ds:List Deferred} {w:World} {K:Kt} {ops:Array Oper} {rest:List Oper} {d:Nat} {ty:TypeId} {pos:String} {af:Array Edge} {x y:Operand}
theorem Rg.par {t t':TypeId} {j:Nat} (hx:ev L x=some (.int .i64 ((j:Int)-1))) (hy:ev L y=some (.int .i64 2)) (hd:Nat.blt d n=true) (hj:j≤9223372036854775807)
  (k:Rg P r n ops rest ((d,.int .i64 (((j-1)/2:Nat):Int))::L) ds w K):
  Rg P r n ops ({dst:=some d,op:= .binOp .quo t x y t',type:=ty,pos,after:=af,guard:=none}::rest) L ds w K:=by
 cases j with
 |zero=>exact .bin hx hy hd (by simp[binOp,Op.intDiv];try rfl) k
 |succ j=>
  refine Rg.zE hx hy hd (by omega) ?_;rw[show(((j+1:Nat):Int)-1)/2=(((j+1-1)/2:Nat):Int)from by omega];exact k
end
theorem RA {xs:List Hd} {i:Nat} {a b c:Int} (h:xs[i]? =some (a,b,c)):hn xs i=a:=by unfold hn;rw[az,h];rfl
theorem HF {xs:List Hd} {i j:Nat} {x y:Hd} (hx:xs[i]? =some x) (hy:xs[j]? =some y):swp xs i j=(xs.set i y).set j x:=by
 unfold swp;rw[az,az,hx,hy];rfl
theorem I4 {xs:List Hd} {i j:Nat} {x y:Hd} (hx:xs[i]? =some x) (hy:xs[j]? =some y):(swp xs i j).set j x=swp xs i j:=by
 rw[HF hx hy,List.set_set]
end Go.K
namespace Go.K
open Go.Proofs
namespace TKMul
theorem agk:Enters Tryz.prog 215:=enters Tryz.func215 rfl (by decide)
end TKMul
open TKMul
set_option maxRecDepth 10000
theorem Gy {n:Nat} (h:n≤1073741824):IntKind.u64.wrap ((BitVec.ofInt IntKind.u64.bits (n:Int)&&&BitVec.ofInt IntKind.u64.bits 4294967295).toNat:Int)=(n:Int):=by
 have e:(BitVec.ofInt IntKind.u64.bits (n:Int)&&&BitVec.ofInt IntKind.u64.bits 4294967295).toNat=n:=by
  rw[BitVec.toNat_and,qe,qe];have h1:((4294967295:Int)%((2^IntKind.u64.bits:Nat):Int)).toNat=2^32-1:=by decide
  have h2:((n:Int)%((2^IntKind.u64.bits:Nat):Int)).toNat=n:=by
   change((n:Int)%((18446744073709551616:Nat):Int)).toNat=n;omega
  rw[h1,h2,Nat.and_two_pow_sub_one_eq_mod];omega
 rw[e];exact gx _ (by omega)
theorem Ec {n:Nat} (h:n≤1073741824):(n:Int).fdiv (2^min (Int.toNat 32) IntKind.u64.bits)=0:=by
 show((n:Int)).fdiv 4294967296=0;rw[Int.fdiv_eq_ediv_of_nonneg _ (by decide)];omega
theorem I6 {w0:World} {n:Nat} (hn:n≤1073741824):
  Spec Tryz.prog 215 #[.int .u64 1,.int .u64 n] w0 (fun v' w'=>v'= .tuple #[.int .u64 0,.int .u64 n]∧w0=w'):=by
 refine bc (args:=[_,_]) (fn:=Tryz.f215) Tryz.func215 rfl (n:=51) Tryz.ntmps215 (aj (ae (ah rfl rfl (ah rfl rfl (ab (aj (ae (ad rfl rfl (Rg.and rfl rfl rfl (aV (v':= .int .u64 (1)) (congrArg _ (by first|decide|exact Gy (by omega))) (ah rfl rfl ?_)))))))))));refine ab (aj (ae (ad rfl rfl (Rg.shr rfl rfl rfl (by omega) (aV (v':= .int .u64 (0:Int)) (congrArg _ (by first|decide|exact Ec (by omega))) (ah rfl rfl (ab (aj (ae (ad rfl rfl (Rg.and rfl rfl rfl ?_)))))))))));refine aV (v':= .int .u64 ((n:Int))) (congrArg _ (by first|decide|exact Gy (by omega))) (ah rfl rfl (ab (aj (ae (ad rfl rfl (Rg.shr rfl rfl rfl (by omega) (aV (v':= .int .u64 (0:Int)) (congrArg _ (by first|decide|exact Ec (by omega))) (ah rfl rfl (ab (aj (ae ?_)))))))))));refine ad rfl rfl (ad rfl rfl (Rg.HT rfl rfl rfl (aV (v':= .int .u64 ((n:Int))) (congrArg _ (by rw[gx _ (by omega)];omega)) (ah rfl rfl (ab (aj (ae (ad rfl rfl (ad rfl rfl (Rg.HT rfl rfl rfl (aV (v':= .int .u64 (0)) (congrArg _ (by rw[gx _ (by omega)];omega)) ?_)))))))))));refine ad rfl rfl (Rg.shr rfl rfl rfl (by omega) (aV (v':= .int .u64 (0:Int)) (congrArg _ (by first|decide|exact Ec (by omega))) (Rg.xa rfl rfl rfl (aV (v':= .int .u64 (0)) (congrArg _ (by rw[gx _ (by omega)];omega)) (ah rfl rfl (ab (aj (ae (ad rfl rfl (Rg.and rfl rfl rfl (aV (v':= .int .u64 (0)) (congrArg _ (by first|decide|exact Gy (by omega))) ?_)))))))))));refine ah rfl rfl (ab (aj (ae (ad rfl rfl (Rg.shr rfl rfl rfl (by omega) (aV (v':= .int .u64 (0:Int)) (congrArg _ (by first|decide|exact Ec (by omega))) (ah rfl rfl (ab (aj (ae (ad rfl rfl ?_)))))))))));refine ad rfl rfl (ad rfl rfl (Rg.HT rfl rfl rfl (aV (v':= .int .u64 (0)) (congrArg _ (by rw[gx _ (by omega)];omega)) (Rg.xa rfl rfl rfl (aV (v':= .int .u64 (0)) (congrArg _ (by rw[gx _ (by omega)];omega)) (ah rfl rfl (ab (aj (ae (ad rfl rfl (ad rfl rfl ?_)))))))))))
 refine Rg.HT rfl rfl rfl (aV (v':= .int .u64 (0)) (congrArg _ (by rw[gx _ (by omega)];omega)) (ad rfl rfl (Rg.xa rfl rfl rfl (aV (v':= .int .u64 (0)) (congrArg _ (by rw[gx _ (by omega)];omega)) (ad rfl rfl (Rg.shr rfl rfl rfl (by omega) (aV (v':= .int .u64 (0:Int)) (congrArg _ (by first|decide|exact Ec (by omega))) (Rg.xa rfl rfl rfl (aV (v':= .int .u64 (0)) (congrArg _ (by rw[gx _ (by omega)];omega)) (ah rfl rfl (ab ?_)))))))))));refine aj (ae (ad rfl rfl (ad rfl rfl (Rg.HT rfl rfl rfl (aV (v':= .int .u64 ((n:Int))) (congrArg _ (by rw[gx _ (by omega)];omega)) (ah rfl rfl (ab (aN ?_))))))));exact eU rfl rfl rfl ⟨rfl,rfl⟩
theorem PN {w0:World} {n:Nat} (hn:n≤1073741824):
  Spec Tryz.prog 161 #[.int .u64 1,.int .u64 n] w0 (fun v' w'=>v'= .tuple #[.int .u64 0,.int .u64 n]∧w0=w'):=by
 refine bc (args:=[_,_]) (fn:=Tryz.f161) Tryz.func161 rfl (n:=30) Tryz.ntmps161 (aj (ae (ah rfl rfl (ah rfl rfl (ab (aj (jD rfl (aT (aj (ae (ad rfl rfl ?_)))))))))));refine ad rfl rfl ?_;refine aX rfl rfl agk (I6 hn) (fun r wc h=>?_);obtain⟨rfl,rfl⟩:=h;refine ad rfl rfl (bK rfl rfl rfl (bK rfl rfl rfl (ah rfl rfl (ah rfl rfl (ab (aj (ae (ad rfl rfl (ad rfl rfl (ah rfl rfl (ah rfl rfl ?_)))))))))));refine ab (aN ?_);exact eU rfl rfl rfl ⟨rfl,rfl⟩
end Go.K
namespace Go.K
open Go.Proofs
namespace TKRep11
theorem agl:Enters Tryz.prog 161:=enters Tryz.func161 rfl (by decide)
end TKRep11
open TKRep11
set_option maxRecDepth 10000
theorem Ed (b o i:Nat):(⟨b,o,none⟩:Addr).add i=⟨b,o+i,none⟩:=by simp[Addr.add]
def filled (n k:Nat) (x:Int):List Int:=List.replicate k x++List.replicate (n-k) 0
theorem yZ {n k:Nat} {x:Int} (h:k≤n):(filled n k x).length=n:=by unfold filled;simp;omega
theorem Gz (n:Nat) (x:Int):filled n n x=List.replicate n x:=by unfold filled;simp
theorem GA {n k j:Nat} {x:Int} (h:j<k):(filled n k x)[j]? =some x:=by unfold filled;rw[jN (by simpa using h)];simp[h]
theorem wN {n k m:Nat} {x:Int} (h:k+m≤n):(filled n k x).take k++List.replicate m x++(filled n k x).drop (k+m)=filled n (k+m) x:=by
 unfold filled;rw[List.take_append_of_le_length (by simp),br (by simp),List.replicate_append_replicate,List.drop_append,gQ (by simp),fQ,List.drop_replicate,bM];congr 2;omega
theorem Own.Zr {M:aC} {w:World} {e:TypeId} {base g n:Nat} (h:w.heap[g]? =some (.cells (List.replicate n (.int .i64 0)).toArray e (0,0))) (hb:base≤g) (hm:M g) (hn:n≤1099511627776):Own (RT.int .i64) e M w base (.slice (some ⟨g,0,none⟩) n n) (List.replicate n 0):=by
 refine⟨⟨List.replicate n (.int .i64 0),⟨by simp[RT.int],.inr ⟨g,n,_,by simp,hb,h,by simp,by unfold maxLen;simp;omega,by simp[RT.int],by simp[RT.int]⟩⟩,?_⟩,fun b hb=>by cases hb;exact hm⟩;have:=dV.Bp (M:=M) (w:=w) (κ:= .i64) (xs:=List.replicate n 0) (fun x hx=>by rw[pR hx];decide);simpa using this
theorem Ee {M:aC} {w0:World} {v:Value} {x:Int} {n:Nat} (hM:Lt M w0) (hv:((RT.int .i64).sl).V M w0 [x] v) (hn:n≤1073741824):
  Spec Tryz.prog 112 #[v,.int .i64 n] w0 (fun v' w'=>∃M',Own (RT.int .i64) 3 M' w' w0.heap.size v' (List.replicate n x)∧Lt M' w'∧Step M w0 M' w' aD):=by
 have hxr:=A8 hv (i:=0) rfl;obtain⟨av,apI,rfl,hcv,_,Qv⟩:=iP.1 hv;obtain⟨bv,ov,rfl,hbv,hav⟩:=Qv.resolve_left (by simp);obtain⟨vs0,⟨agm,_⟩,hrx⟩:=hav 0 x rfl;subst agm;have hcx:w0.cell? ⟨bv,ov,none⟩=some (.int .i64 x):=by simpa using hrx 0 _ rfl
 refine bc (args:=[_,_]) (fn:=Tryz.f112) Tryz.func112 rfl (n:=48) Tryz.ntmps112 (aj (ae (ah rfl rfl (ab (aj (aj (ae (ad rfl rfl (cf rfl rfl rfl (ab (T.tx rfl (by omega) ?_)))))))))));refine aT (aj (ae (ad rfl rfl (Rg.mu ao rfl rfl (so aw jO rfl rfl (aV (v':= .int .u64 1) (congrArg _ (by simp only[ew];decide)) (ad rfl rfl (so aw jO rfl rfl (aV (v':= .int .u64 (n:Int)) (congrArg _ (gx _ (by omega))) ?_)))))))));refine aX rfl rfl agl (PN hn) (fun r wc h=>?_);obtain⟨rfl,rfl⟩:=h;refine ad rfl rfl (bK rfl rfl rfl (bK rfl rfl rfl (ah rfl rfl (ah rfl rfl (ab (aj (aj (ae (ad rfl rfl (jc rfl rfl rfl (ad rfl rfl ?_)))))))))));refine Rg.EZ (g:=23) rfl (by omega) (al rfl rfl (ad rfl rfl (al rfl rfl (jc rfl rfl rfl (aE rfl rfl rfl (ab (T.tx rfl (by omega) (aT (aj (ae (ad rfl rfl ?_)))))))))));refine Rg.uU jO aw rfl rfl (by omega) ?_;refine Rg.mk0 (len:=n) M ao I3 rfl rfl rfl rfl (by omega) (by omega) (fun g wg zg zg' gg sg=>?_);have ho:Own (RT.int .i64) 3 (ins M g) wg w0.heap.size (.slice (some ⟨g,0,none⟩) n n) (filled n 0 x):=by unfold filled;simpa using Own.Zr gg zg (.inl rfl) (by omega)
 clear gg;refine ah rfl rfl (ab (aj (ae (ad rfl rfl ?_))));obtain⟨k0,EX⟩:∃k0:Nat,k0=min 1 n:=⟨_,rfl⟩;refine ad rfl rfl ?_;refine Rg.QG (M:=ins M g) (xs:=filled n 0 x) (ys:=List.replicate k0 x) (o:=0) ao I3 rfl rfl rfl ho (by simp;omega) (by rw[yZ (by omega),bM];omega) (fun j a hj=>?_) (fun a ha=>by rw[pR ha];exact hxr) (fun w7 oa s7=>?_)
 ·have tH:=(an.1 hj).1;rw[bM]at tH;have e:a=x:=by rw[iT]at hj;split at hj<;>simp_all
  subst e;obtain rfl:j=0:=by omega
  have hc:=sg.same bv (World.block_lt_of_cell? w0 _ hcx) (fun h=>h);have:wg.cell? ⟨bv,ov,none⟩=some (.int .i64 a):=by rw[World.cell?_of_block (w:=w0) hc];exact hcx
  rw[Ed,Nat.add_zero];exact this
 rw[bM,wN (by omega),fR]at oa;refine aV (v':= .int .i64 (k0:Int)) (by rw[bM]) ?_;have S7:=sg.cg s7 (fun b hb=>by have hb:b=g:=hb;omega);refine ah rfl rfl (ab (aj (aZ ?_)));refine dn (σ:=Nat) (fun s=>[(7,.slice (some ⟨g,0,none⟩) n n),(8,.int .i64 s)]) (fun s w=>s≤n∧(0<n→0<s)∧Own (RT.int .i64) 3 (ins M g) w w0.heap.size (.slice (some ⟨g,0,none⟩) n n) (filled n s x)∧Step M w0 (ins M g) w aD) (fun s=>n-s) k0 (.cons rfl (.cons rfl .nil)) ?_ ?_
 ·exact⟨by omega,by omega,oa,S7⟩
 ·rintro k w1 ⟨hk,apN,ho,S⟩;refine aj (aj (ae (ad rfl rfl (ad rfl rfl (Rg.mu ao rfl rfl (cf rfl rfl rfl (ab ?_)))))));refine bP rfl (fun c8=>?_) (fun c8=>?_)
  ·refine aT (aZ ?_);apply T.ql 7 [0] 1 (fun b=>b=g) mixed rfl rfl rfl rfl;intro Ro sA9;have DX:=sA9 (ins M g);refine ad rfl rfl ?_;refine ab ⟨rfl,rfl,rfl,?_⟩;refine ad rfl rfl ?_;refine ab ⟨rfl,rfl,rfl,?_⟩;refine ad rfl rfl ?_;refine ab ⟨rfl,rfl,rfl,?_⟩;refine Rg.Kh ao I3 rfl rfl rfl (by omega) (aV (v':= .slice (some ⟨g,k,none⟩) (n-k) (n-k)) (by rw[ay,eG]) ?_);refine ab ⟨rfl,rfl,rfl,?_⟩;refine ad rfl rfl ?_;refine ab ⟨rfl,rfl,rfl,?_⟩;refine ad rfl rfl ?_;refine ab ⟨rfl,rfl,rfl,?_⟩;refine Rg.SC ao I3 rfl rfl rfl (by omega) (aV (v':= .slice (some ⟨g,0,none⟩) k n) (by rw[ay]) ?_);refine ab ⟨rfl,rfl,rfl,?_⟩;refine ff ?_;refine⟨jd ⟨gR,trivial⟩,?_⟩;have kp:=kd (fun b=>b=g) Ro;refine Rg.QG (M:=ins M g) (xs:=filled n k x) (ys:=List.replicate (min k (n-k)) x) (o:=k) ao I3 rfl rfl rfl (ho.aM DX) (by simp) (by rw[yZ hk,bM];omega) (fun j a hj=>?_) (fun a ha=>by rw[pR ha];exact hxr) (fun w7 oa s7=>?_)
   ·have tH:=(an.1 hj).1;rw[bM]at tH;have e:a=x:=by rw[iT]at hj;split at hj<;>simp_all
    subst e;have:=(ho.aM DX).cell (GA (n:=n) (show j<k by omega));rw[Ed,fR];exact this
   rw[bM,wN (by omega)]at oa;refine aV (v':= .int .i64 ((min k (n-k):Nat):Int)) (by rw[bM]) ?_;refine(fun(kp:eO _ _ _)=>ab ⟨rfl,rfl,fun _=>kp,?_⟩) (by first|exact kp|exact kp.sG (by assumption)|exact kp.goN (by assumption)|exact kp.go (by assumption) (fun _ _ h=>by first|exact h|exact h.elim));refine bD rfl rfl rfl (by omega) ?_;refine ab ⟨rfl,rfl,fun h=>absurd rfl h,?_⟩;refine ah rfl rfl ?_;refine ab ⟨rfl,rfl,fun h=>absurd rfl h,?_⟩;refine nN ?_;refine⟨rfl,k+min k (n-k),(.cons rfl (.cons (congrArg (fun z=>some (Value.int .i64 z)) (by omega)) .nil)),?_,?_⟩
   ·exact⟨by omega,by omega,oa,(S.aB (sA9 _)).cg s7 (fun b hb=>by have hb:b=g:=hb;omega)⟩
   ·show n-(k+min k (n-k))<n-k;omega
  ·refine cL (aj (ae (ad rfl rfl (ah rfl rfl (ab (aN ?_))))));obtain rfl:k=n:=by omega
   rw[Gz]at ho;exact aU rfl rfl ⟨_,ho,S.lt hM,S⟩
end Go.K
namespace Go.K
open Go.Proofs
namespace TKPlc11
theorem ku:TI Tryz.prog 124 (.agg #[(.int .i64 0),(.int .i64 0)]) 2 16:=by unfold TI;kernel_rfl
theorem agn:Enters Tryz.prog 112:=enters Tryz.func112 rfl (by decide)
end TKPlc11
open TKPlc11
set_option maxRecDepth 10000
def pw (o:List Fo) (p:Fo) (r:Int):Prop:=(r= -1∧p∉o)∨∃t:Nat,r=(t:Int)∧o[t]? =some p
theorem pw.hit {o:List Fo} {p:Fo} {k:Nat} (h:o[k]? =some p):pw (o.take (k+1)) p (k:Int):= .inr ⟨k,rfl,by rw[cj,if_pos (by omega)];exact h⟩
theorem pw.PO {o:List Fo} {p q:Fo} {k:Nat} {r:Int} (h:o[k]? =some q) (eN:q≠p) (hr:pw (o.take k) p r):pw (o.take (k+1)) p r:=by
 obtain⟨hk,hq⟩:=an.1 h;rw[sk hk,hq];rcases hr with⟨h1,h2⟩|⟨t,h1,h2⟩
 ·exact .inl ⟨h1,fun hm=>by rcases ck.1 hm with hm|hm;exact h2 hm;rw[bE]at hm;exact eN hm.symm⟩
 ·exact .inr ⟨t,h1,by rw[jN (an.1 h2).1];exact h2⟩
theorem pw.all {o:List Fo} {p:Fo} {r:Int} (h:pw (o.take o.length) p r):pw o p r:=by rwa [List.take_length]at h
theorem rh {M:aC} {w:World} {a b:Int} {v:Value} (h:RT.fo.V M w (a,b) v):v= .agg #[.int .i64 a,.int .i64 b]∧lU a∧lU b:=by
 obtain⟨vs,⟨va,vb,rfl,⟨rfl,h1⟩,⟨rfl,h2⟩⟩,rfl⟩:=h;exact⟨rfl,h1,h2⟩
def Plc (o:List Fo) (i:Int) (n:Nat) (xs:List Int):Prop:=xs.length=n∧∀j,j<n→pw o (i,(j:Int)) (xs.getD j 0)
theorem Ef {M:aC} {w0:World} {v:Value} {o:List Fo} {i:Int} {n:Nat} (hM:Lt M w0) (hv:((RT.fo).sl).V M w0 o v) (hn:n≤1073741824):
  Spec Tryz.prog 61 #[v,.int .i64 i,.int .i64 n] w0 (fun v' w'=>∃M' xs,Plc o i n xs∧Own (RT.int .i64) 3 M' w' w0.heap.size v' xs∧Lt M' w'∧Step M w0 M' w' aD):=by
 have fF:=ep hv;refine bc (args:=[_,_,_]) (fn:=Tryz.f61) Tryz.func61 rfl (n:=44) Tryz.ntmps61 (aj (ae (ah rfl rfl (ab (aj (ae ?_))))));refine dQ (A:=RT.int .i64) (hn:=by decide) (M:=M) ao I3 (by decide) rfl rfl hM (gm (by decide)) (.inr ⟨rfl,rfl⟩) (fun u w1 hu s1=>?_);refine ad rfl rfl (Rg.max2 rfl rfl rfl (aV (v':= .int .i64 (n:Int)) (congrArg _ (by omega)) ?_));refine aX rfl rfl agn (Ee (s1.lt hM) hu hn) (fun rv w2 h=>?_);obtain⟨M2,tg,EU,s2⟩:=h;have S2:=s1.aB s2;replace tg:=tg.oL s1.size;refine ah rfl rfl (ab (aj (aj (ae (ad rfl rfl (bJ eQ rfl (hv.le S2.le) rfl (ad rfl rfl (ab (aZ ?_)))))))));refine dn (σ:=Nat×List Int) (fun s=>[(1,.int .i64 i),(7,rv),(14,v),(15,.int .i64 o.length),(16,.int .i64 s.1)]) (fun s w=>s.1≤o.length∧Plc (o.take s.1) i n s.2∧∃M1,Lt M1 w∧Own (RT.int .i64) 3 M1 w w0.heap.size rv s.2∧Step M w0 M1 w aD) (fun s=>o.length-s.1) (0,List.replicate n (-1)) (.cons rfl (.cons rfl (.cons rfl (.cons rfl (.cons rfl .nil))))) ?_ ?_
 ·refine⟨bG _,⟨by simp,fun j hj=> .inl ⟨?_,by simp⟩⟩,M2,EU,tg,S2⟩;simp only[az,iT];rw[if_pos hj];rfl
 ·clear tg S2 EU;rintro⟨k,xs⟩ w1 ⟨hk,⟨qU,tu⟩,M1,nH,ho,S⟩;dsimp only at hk qU tu ho ⊢;refine aj (ae (cf rfl rfl rfl (ab (aj ?_))));refine bP rfl (fun c3=>?_) (fun c3=>?_)
  ·refine aT (aj (aZ (aj (ae (ad rfl rfl ?_)))));obtain⟨⟨a,b⟩,hx⟩:∃x,o[k]? =some x:=⟨_,au (by omega)⟩;refine cF (M:=M1) eQ ku rfl rfl rfl (hv.le S.le) (aq _ _) (by omega) (fun u4 a4 wC ET=>?_);obtain rfl:(a,b)=a4:=dC (aJ (wC.symm.trans (by rw[ay];exact hx)));refine de (M:=M1) (A:=RT.fo) cw rfl ku (by decide) rfl rfl rfl ET (aq _ _) (fun v4 rU=>?_);obtain⟨rfl,ra,rb⟩:=rh rU;refine ey M1 ku rfl (fun b4 wa za za' ga sa=>?_);refine ah rfl rfl ?_;refine ez (M:=ins M1 b4) (vs:=[.int .i64 a,.int .i64 b]) ku rfl rfl (by intro u hu;simp only[bX,dJ,or_false]at hu;rcases hu with rfl|rfl<;>rfl) rfl rfl ga (.inl rfl) (fun ws gs ss=>?_);have sS:=(sa.cg ss (fun b hb=>by have hb:b=b4:=hb;rw[hb];exact za)).any M1;have ho:=ho.aM sS;have S:=S.aB sS;have nH:=sS.lt nH;refine ab (aj (ae (xp (len:=2) cw I3 rfl rfl rfl (by omega) (aL aw rfl rfl rfl gs rfl (ad rfl rfl (k7 rfl rfl rfl (ad rfl rfl ?_)))))));refine aO (g:=25) rfl (fun Ux=>?_) (fun Ux=>?_)
   ·refine al rfl rfl (xp (len:=2) cw I3 rfl rfl rfl (by omega) (al rfl rfl (aL aw rfl rfl rfl gs rfl (al rfl rfl (dT rfl rfl rfl (aW rfl rfl rfl (ad rfl rfl ?_)))))));refine aO (g:=30) rfl (fun Uy=>?_) (fun Uy=>?_)
    ·refine al rfl rfl (xp (len:=2) cw I3 rfl rfl rfl (by omega) (al rfl rfl (aL aw rfl rfl rfl gs rfl (al rfl rfl (ad rfl rfl (al rfl rfl (fS ao rfl ho rfl (al rfl rfl (cf rfl rfl rfl (aW rfl rfl rfl (ab ?_)))))))))));refine bP rfl (fun c5=>?_) (fun c5=>?_)
     ·obtain⟨g,cap,cur,rfl,Sb,PQ,Eg⟩:=ho.ve (ho.BW (by omega));refine ae (ad rfl rfl (xp (len:=2) cw I3 rfl rfl rfl (by omega) (aL aw rfl rfl rfl gs rfl (ad rfl rfl (vW (size:=1) ao I3 rfl rfl rfl (by omega) (q:=b.toNat) (by omega) ?_)))));refine Rg.Ki (M:=M1) I3 rfl rfl ho (by omega) ⟨by show(-9223372036854775808:Int)≤_;omega,by show _≤(9223372036854775807:Int);omega⟩ (fun w6 tW s6=>?_);refine ab (ae (bD rfl rfl rfl (by omega) (ad rfl rfl (ab ?_))));refine⟨rfl,(k+1,xs.set b.toNat (k:Int)),(.cons rfl (.cons rfl (.cons rfl (.cons rfl (.cons rfl .nil))))),?_,?_⟩
      ·refine⟨by simp only;omega,⟨by simp only[fA];exact qU,fun j hj=>?_⟩,M1,s6.lt nH,tW,S.cg s6 (fun b hb=>by have hb:b=g:=hb;omega)⟩;simp only[az,du];by_cases e:b.toNat=j
       ·rw[if_pos e,if_pos (by omega)];exact .hit (by rw[hx];congr 2<;>omega)
       ·rw[if_neg e,←az];exact .PO hx (fun h=>by simp only[dq]at h;omega) (tu j hj)
      ·show o.length-(k+1)<o.length-k;omega
     ·refine aT (ae (bD rfl rfl rfl (by omega) (ad rfl rfl (ab ?_))));refine⟨rfl,(k+1,xs),(.cons rfl (.cons rfl (.cons rfl (.cons rfl (.cons rfl .nil))))),?_,?_⟩
      ·refine⟨by simp only;omega,⟨qU,fun j hj=> .PO hx (fun h=>?_) (tu j hj)⟩,M1,nH,ho,S⟩;simp only[dq]at h
       first|omega|(simp_all;done)|(simp_all;omega)
      ·show o.length-(k+1)<o.length-k;omega
    ·refine ar rfl rfl rfl rfl (ar rfl rfl rfl rfl (ar rfl rfl rfl rfl (ar rfl rfl rfl rfl (ar rfl rfl rfl rfl (aE rfl rfl rfl (ab (jD rfl (aT (ae (bD rfl rfl rfl (by omega) (ad rfl rfl ?_)))))))))));refine ab ?_;refine⟨rfl,(k+1,xs),(.cons rfl (.cons rfl (.cons rfl (.cons rfl (.cons rfl .nil))))),?_,?_⟩
     ·refine⟨by simp only;omega,⟨qU,fun j hj=> .PO hx (fun h=>?_) (tu j hj)⟩,M1,nH,ho,S⟩;simp only[dq]at h
      first|omega|(simp_all;done)|(simp_all;omega)
     ·show o.length-(k+1)<o.length-k;omega
   ·refine ar rfl rfl rfl rfl (ar rfl rfl rfl rfl (ar rfl rfl rfl rfl (aE rfl rfl rfl (ad rfl rfl (ar rfl rfl rfl rfl (ar rfl rfl rfl rfl (ar rfl rfl rfl rfl (ar rfl rfl rfl rfl (ar rfl rfl rfl rfl (aE rfl rfl rfl (ab ?_)))))))))));refine jD rfl (aT (ae (bD rfl rfl rfl (by omega) (ad rfl rfl (ab ?_)))));refine⟨rfl,(k+1,xs),(.cons rfl (.cons rfl (.cons rfl (.cons rfl (.cons rfl .nil))))),?_,?_⟩
    ·refine⟨by simp only;omega,⟨qU,fun j hj=> .PO hx (fun h=>?_) (tu j hj)⟩,M1,nH,ho,S⟩;simp only[dq]at h
     first|omega|(simp_all;done)|(simp_all;omega)
    ·show o.length-(k+1)<o.length-k;omega
  ·refine cL (aj (ae (ad rfl rfl (ah rfl rfl (ab (aN ?_))))));obtain rfl:k=o.length:=by omega
   exact aU rfl rfl ⟨M1,xs,⟨qU,fun j hj=>(tu j hj).all⟩,ho,nH,S⟩
end Go.K
namespace Go.K
open Go.Proofs
set_option maxRecDepth 10000
theorem MZ:Up [[1,4],[2]]:=by intro l hl;simp only[bX,dJ,or_false]at hl;rcases hl with rfl|rfl<;>decide
theorem I7:rF [[1,4],[2]] (some [((1:Int),(0:Int),(0:Int)),(2,1,0),(4,0,1)]):=by
 refine⟨by decide,fun o ho=>?_,fun i k n ⟨l,h1,h2⟩=>?_⟩
 ·simp only[bX,dJ,or_false]at ho;rcases ho with rfl|rfl|rfl
  ·exact⟨0,0,rfl,_,rfl,rfl⟩
  ·exact⟨1,0,rfl,_,rfl,rfl⟩
  ·exact⟨0,1,rfl,_,rfl,rfl⟩
 ·rcases i with _|_|i
  ·simp only[dW,cH]at h1;subst h1;rcases k with _|_|k
   ·simp at h2;subst h2;decide
   ·simp at h2;subst h2;decide
   ·simp at h2
  ·simp only[fR,kL,dW,cH]at h1;subst h1;rcases k with _|k
   ·simp at h2;subst h2;decide
   ·simp at h2
  ·simp at h1
end Go.K
namespace Go.K
open Go.Proofs
set_option maxRecDepth 10000
abbrev Gs:Type:=List (List En×List Bool)
def lu (g:Gs) (i d:Nat) (e:En):Prop:=∃L a,g[i]? =some (L,a)∧L[d]? =some e∧a[d]? =some true
theorem lu.un {g:Gs} {i d:Nat} {e e':En} (h:lu g i d e) (h':lu g i d e'):e=e':=by
 obtain⟨L,a,h1,h2,_⟩:=h;obtain⟨L',a',h3,h4,_⟩:=h';rw[h1]at h3;cases h3;rw[h2]at h4;exact aJ h4
def th (L:List En) (d:Int):Int:=(L.map (·.2)).getD d.toNat 0
def iS (g:Gs):List (List Int):=g.map fun p=>gv p.2
def kx (g:Gs):List (List Int):=g.map fun p=>(gv p.2).map (th p.1)
def ky (g:Gs) (o:List Fo):List Fo:=o.map fun p=>(p.1,((iS g).getD p.1.toNat []).getD p.2.toNat 0)
def iL (g:Gs) (p:Fo):En:=(g.getD p.1.toNat ([],[])).1.getD p.2.toNat (((0:Int),[]),0)
def HG (g:Gs):Prop:=∀p∈g,tv (-1) p.1=true∧p.2.length=p.1.length
theorem kV {l:List Bool} {d:Int}:d∈gv l↔∃k:Nat,d=k∧l[k]? =some true:=by
 unfold gv;rw[ca];constructor
 ·rintro⟨⟨b,k⟩,h,rfl⟩;obtain⟨h1,h2⟩:=fT.1 h;simp only at h2;subst h2;exact⟨k,rfl,List.mem_zipIdx_iff_getElem?.1 h1⟩
 ·rintro⟨k,rfl,h⟩;exact⟨(true,k),fT.2 ⟨List.mem_zipIdx_iff_getElem?.2 h,rfl⟩,rfl⟩
theorem uq (l:List Bool):(gv l).Pairwise (· < ·):=by
 unfold gv;refine cy.2 (uL zw ?_);have h:=List.pairwise_lt_range' (s:=0) (n:=l.length);rw[←List.zipIdx_map_snd 0 l]at h;exact(cy.1 h).imp fun h=>by omega
structure Mg (g:Gs) (os:List Fo) (E:List En):Prop where
 at_:∀(k:Nat) (p:Fo),os[k]? =some p→∃(i d:Nat) (e:En),p=((i:Int),(d:Int))∧E[k]? =some e∧lu g i d e
 len:E.length=os.length
 all:∀(i d:Nat) (e:En),lu g i d e→((i:Int),(d:Int))∈os
 up:E.Pairwise fun a b=>a.2<b.2
 nd:os.Nodup
theorem xy {g:Gs} (hg:HG g) {i k:Nat} {n:Int} (h:Tr (kx g) i k n):∃(d:Nat) (e:En),lu g i d e∧((iS g).getD i []).getD k 0=(d:Int)∧n=e.2∧iL g ((i:Int),(d:Int))=e∧((iS g).getD i [])[k]? =some (d:Int):=by
 obtain⟨l,h1,h2⟩:=h;unfold kx at h1;rw[bB]at h1
 cases hi:g[i]? with
 |none=>rw[hi]at h1;simp at h1
 |some p=>
  rw[hi]at h1;obtain rfl:List.map (th p.1) (gv p.2)=l:=by simpa using h1
  rw[bB]at h2
  cases hk:(gv p.2)[k]? with
  |none=>rw[hk]at h2;simp at h2
  |some d=>
   rw[hk]at h2;obtain rfl:th p.1 d=n:=by simpa using h2
   obtain⟨m,rfl,hm⟩:=kV.1 (aA hk);obtain⟨h3,h4⟩:=hg p (aA hi);have qh:m<p.1.length:=by rw[←h4];exact(an.1 hm).1
   have PR:(iS g).getD i []=gv p.2:=by unfold iS;rw[az,bB,hi];rfl
   refine⟨m,p.1[m],⟨p.1,p.2,hi,au qh,hm⟩,?_,?_,?_,by rw[PR];exact hk⟩
   ·rw[PR,az,hk];rfl
   ·unfold th;rw[ay,az,bB,au qh];rfl
   ·have pU:g.getD i ([],[])=p:=by rw[az,hi];rfl
    show(g.getD (i:Int).toNat ([],[])).1.getD (m:Int).toNat _=_;rw[ay,ay,pU,az,au qh];rfl
theorem Zs {g:Gs} (hg:HG g) {out:List Hd} (h:rF (kx g) (some out)):Mg g (ky g (dR out)) ((ky g (dR out)).map (iL g)):=by
 obtain⟨h1,h2,h3⟩:=h
 have key:∀(k:Nat) (o:Hd),out[k]? =some o→∃(i d:Nat) (e:En) (q:Nat),o=(e.2,(i:Int),(q:Int))∧(ky g (dR out))[k]? =some ((i:Int),(d:Int))∧lu g i d e∧iL g ((i:Int),(d:Int))=e∧((iS g).getD i [])[q]? =some (d:Int):=fun k o ho=>by
  obtain⟨i,q,e1,e2⟩:=h2 o (aA ho);obtain⟨d,e,a1,a2,a3,a4,a5⟩:=xy hg e2;refine⟨i,d,e,q,by rw[e1,a3],?_,a1,a4,a5⟩;unfold ky dR;rw[bB,bB,ho,e1];show some (((i:Int),((iS g).getD (i:Int).toNat []).getD (q:Int).toNat 0))=_;rw[ay,ay,a2]
 have hlen:(ky g (dR out)).length=out.length:=by unfold ky dR;rw[aI,aI]
 have get:∀(k:Nat) (p:Fo),(ky g (dR out))[k]? =some p→∃o,out[k]? =some o:=fun k p hp=>⟨_,au (by rw[←hlen];exact(an.1 hp).1)⟩
 have Zt:((ky g (dR out)).map (iL g)).Pairwise fun a b=>a.2<b.2:=by
  rw[cq];intro a b ha hb Wm;have la:a<out.length:=by rw[aI,hlen]at ha;exact ha
  have lb:b<out.length:=by rw[aI,hlen]at hb;exact hb
  obtain⟨i,d,e,q,o1,o2,o3,o4,_⟩:=key a _ (au la);obtain⟨i',d',e',q',p1,p2,p3,p4,_⟩:=key b _ (au lb);have dO:=(cq.1 h1) a b la lb Wm;rw[o1,p1]at dO;have f1:((ky g (dR out)).map (iL g))[a]? =some e:=by rw[bB,o2,cV,o4]
  have f2:((ky g (dR out)).map (iL g))[b]? =some e':=by rw[bB,p2,cV,p4]
  rw[(an.1 f1).2,(an.1 f2).2];exact dO
 refine⟨fun k p hp=>?_,by rw[aI],fun i d e hl=>?_,Zt,?_⟩
 ·obtain⟨o,ho⟩:=get k p hp;obtain⟨i,d,e,q,_,a2,a3,a4,_⟩:=key k o ho;rw[hp]at a2;obtain rfl:=aJ a2;exact⟨i,d,e,rfl,by rw[bB,hp,cV,a4],a3⟩
 ·obtain⟨L,a,b1,b2,b3⟩:=hl;have hm:(d:Int)∈gv a:=kV.2 ⟨d,rfl,b3⟩;obtain⟨q,hq⟩:=bm.1 hm;have ht:Tr (kx g) i q (th L d):=⟨(gv a).map (th L),by unfold kx;rw[bB,b1];rfl,by rw[bB,hq];rfl⟩;have kq:=h3 i q _ ht;obtain⟨k,hk⟩:=bm.1 kq;obtain⟨i',d',e',q',c1,c2,c3,c4,c5⟩:=key k _ hk;simp only[dq]at c1;obtain rfl:i=i':=by omega
  obtain rfl:q=q':=by omega
  have PR:(iS g).getD i []=gv a:=by unfold iS;rw[az,bB,b1];rfl
  rw[PR,hq]at c5;rw[aJ c5];exact aA c2
 ·have h5:(ky g (dR out)).Pairwise fun a b=>(iL g a).2<(iL g b).2:=(cy (f:=iL g) (R:=fun(a b:En)=>a.2<b.2)).1 Zt
  exact h5.imp fun h e=>by subst e;omega
theorem Mg.un {g:Gs} {os:List Fo} {E:List En} (h:Mg g os E) {k k':Nat} {p:Fo} (h1:os[k]? =some p) (h2:os[k']? =some p):k=k':=by
 obtain⟨a1,a2⟩:=an.1 h1;obtain⟨b1,b2⟩:=an.1 h2;exact(List.getElem_inj (h₀:=a1) (h₁:=b1) h.nd).1 (a2.trans b2.symm)
theorem xz:∀{L:List En} {last:Int},tv last L=true→∀e∈L,last<e.2∧lR e.1=0
 |[],_,_,e,h=>by cases h
 |x::L,last,h,e,he=>by
  simp only[tv,bT,decide_eq_true_eq]at h
  have hx:last<x.2∧lR x.1=0:=by
   refine⟨(vE h.1).2,?_⟩;have:=h.1;unfold mV at this
   split at this
   ·rename_i h1;exact absurd this h1
   ·rename_i h1;simpa using h1
  rcases bX.1 he with rfl|he
  ·exact hx
  ·have:=xz h.2 e he;exact⟨by omega,this.2⟩
theorem Na:∀{L:List En} {last:Int},(∀e∈L,last<e.2∧lR e.1=0)→L.Pairwise (fun a b=>a.2<b.2)→tv last L=true
 |[],_,_,_=>rfl
 |x::L,last,h,hp=>by
  obtain⟨h1,h2⟩:=h x (bH ..);have NU:=ei.1 hp;simp only[tv,bT,decide_eq_true_eq];refine⟨?_,Na (fun e he=>⟨NU.1 e he,(h e (b9 _ he)).2⟩) NU.2⟩;unfold mV;rw[if_neg (by rw[h2];simp),if_neg (by omega)]
theorem y4:∀{L:List En} {last:Int},tv last L=true→L.Pairwise fun a b=>a.2<b.2
 |[],_,_=>List.Pairwise.nil
 |x::L,last,h=>by
  simp only[tv,bT,decide_eq_true_eq]at h;exact ei.2 ⟨fun e he=>(xz h.2 e he).1,y4 h.2⟩
theorem Mg.mem {g:Gs} {os:List Fo} {E:List En} (h:Mg g os E) {e:En}:e∈E↔∃i d,lu g i d e:=by
 constructor
 ·intro he;obtain⟨k,hk⟩:=bm.1 he;obtain⟨i,d,e',_,h2,h3⟩:=h.at_ k _ (au (by rw[←h.len];exact(an.1 hk).1));rw[hk]at h2;cases h2;exact⟨i,d,h3⟩
 ·rintro⟨i,d,hl⟩;obtain⟨k,hk⟩:=bm.1 (h.all i d e hl);obtain⟨i',d',e',h1,h2,h3⟩:=h.at_ k _ hk;simp only[dq]at h1;obtain rfl:i=i':=by omega
  obtain rfl:d=d':=by omega
  rw[hl.un h3];exact aA h2
theorem lu.ok {g:Gs} (hg:HG g) {i d:Nat} {e:En} (h:lu g i d e): -1<e.2∧lR e.1=0:=by
 obtain⟨L,a,h1,h2,_⟩:=h;exact xz (hg _ (aA h1)).1 e (aA h2)
theorem Mg.ok {g:Gs} (hg:HG g) {os:List Fo} {E:List En} (h:Mg g os E):tv (-1) E=true:=
 Na (fun e he=>by obtain⟨i,d,hl⟩:=h.mem.1 he;exact hl.ok hg) h.up
theorem PS {E E':List En} (h:E.Pairwise fun a b=>a.2<b.2) (h':E'.Pairwise fun a b=>a.2<b.2) (hm:∀e,e∈E↔e∈E'):E=E':=
 tZ (fun a b h1 h2=>by omega) h h' (h.imp fun h e=>by subst e;omega) (h'.imp fun h e=>by subst e;omega) hm
theorem PT {i:Nat} {tl:List (Fd×Nat)} {k:List UInt8} {q:Po}:q∈EW i tl k↔∃t∈cU tl,gH t=k∧q=((i:Int),posOf tl t):=by
 unfold EW;rw[ca];constructor
 ·rintro⟨t,ht,rfl⟩;obtain⟨h1,h2⟩:=fT.1 ht;exact⟨t,h1,by simpa using h2,rfl⟩
 ·rintro⟨t,h1,h2,rfl⟩;exact⟨t,fT.2 ⟨h1,by simpa using h2⟩,rfl⟩
theorem HH {k:List UInt8} {q:Po}:∀{L:List En} {i:Nat},q∈Cn k i L↔∃(d:Nat) (e:En),L[d]? =some e∧q∈EW (i+d) (pM e) k
 |[],i=>by simp[Cn]
 |x::L,i=>by
  simp only[Cn,ck,HH (L:=L)];constructor
  ·rintro(h|⟨d,e,h1,h2⟩)
   ·exact⟨0,x,rfl,h⟩
   ·exact⟨d+1,e,by simpa using h1,by rw[show i+(d+1)=i+1+d from by omega];exact h2⟩
  ·rintro⟨d,e,h1,h2⟩
   cases d with
   |zero=>simp at h1;subst h1;exact .inl h2
   |succ d=>exact .inr ⟨d,e,by simpa using h1,by rw[show i+1+d=i+(d+1)from by omega];exact h2⟩
theorem y5 {L:List En} {k:List UInt8} {q:Po}:q∈pk L k↔∃(d:Nat) (e:En),L[d]? =some e∧∃t∈cU (pM e),gH t=k∧q=((d:Int),posOf (pM e) t):=by
 unfold pk;rw[HH];simp only[fR,PT]
theorem Eh:∀{l:List Po} {last:Int},fU last l=true→l.Pairwise (fun a b=>a.1<b.1)∧∀p∈l,last<p.1
 |[],_,_=>⟨List.Pairwise.nil,fun p h=>by cases h⟩
 |(d,ps)::l,last,h=>by
  simp only[fU,bT,decide_eq_true_eq]at h;obtain⟨⟨⟨⟨h1,h2⟩,h3⟩,h4⟩,h5⟩:=h;obtain⟨h6,h7⟩:=Eh h5;refine⟨ei.2 ⟨h7,h6⟩,fun p hp=>?_⟩;rcases bX.1 hp with rfl|hp
  ·exact h1
  ·have:=h7 p hp;omega
theorem Nb {L:List En} (h:tv (-1) L=true) (hn:L.length≤1000000) (k:List UInt8):(pk L k).Pairwise fun a b=>a.1<b.1:=
 (Eh (uj k L 0 (-1) (kr h) (by omega) (by omega))).1
def kW (to:List Int) (l:List Po):List Po:=l.filterMap fun p=>if 0≤to.getD p.1.toNat 0 then some (to.getD p.1.toNat 0,p.2)else none
theorem y6 (to:List Int) (l:List Po) (p:Po):kW to (l++[p])=if 0≤to.getD p.1.toNat 0 then kW to l++[(to.getD p.1.toNat 0,p.2)]else kW to l:=by
 unfold kW;rw[List.filterMap_append]
 split
 ·rename_i h;rw[List.filterMap_cons,if_pos h];rfl
 ·rename_i h;rw[List.filterMap_cons,if_neg h];simp
theorem ti (to:List Int) (l:List Po):(kW to l).length≤l.length:=List.length_filterMap_le _ _
def Ei (g:Gs) (os:List Fo) (tos:List (List Int)):Prop:=tos.length=g.length∧∀(i:Nat) (p:List En×List Bool),g[i]? =some p→Plc os i p.1.length (tos.getD i [])
def xj (g:Gs) (tos:List (List Int)) (k:List UInt8) (n:Nat):List Po:=(List.range n).flatMap fun i=>kW (tos.getD i []) (pk (g.getD i ([],[])).1 k)
theorem vI (g:Gs) (tos:List (List Int)) (k:List UInt8) (n:Nat):xj g tos k (n+1)=xj g tos k n++kW (tos.getD n []) (pk (g.getD n ([],[])).1 k):=by
 unfold xj;rw[List.range_succ,List.flatMap_append];simp
section
variable {g:Gs} {os:List Fo} {E:List En} {tos:List (List Int)} {k:List UInt8}
theorem y7 (hm:Mg g os E) (ht:Ei g os tos) {i:Nat} (hi:i<g.length) {q:Po}:q∈kW (tos.getD i []) (pk (g.getD i ([],[])).1 k)↔∃(d n:Nat) (e:En),os[n]? =some ((i:Int),(d:Int))∧E[n]? =some e∧∃t∈cU (pM e),gH t=k∧q=((n:Int),posOf (pM e) t):=by
 have nj:g[i]? =some g[i]:=au hi;obtain⟨hl,hp⟩:=ht.2 i _ nj;have pU:g.getD i ([],[])=g[i]:=by rw[az,nj];rfl
 rw[pU];unfold kW;rw[List.mem_filterMap];constructor
 ·rintro⟨p,h1,h2⟩;obtain⟨d,e,hd,t,Q8,Io,rfl⟩:=y5.1 h1;simp only[ay]at h2
  split at h2
  ·rename_i h3
   have h2:=aJ h2;rcases hp d (an.1 hd).1 with⟨h4,_⟩|⟨n,h4,h5⟩
   ·omega
   ·obtain⟨i',d',e',a1,a2,a3⟩:=hm.at_ n _ h5;simp only[dq]at a1;obtain rfl:i=i':=by omega
    obtain rfl:d=d':=by omega
    obtain⟨L,a,b1,b2,_⟩:=a3;rw[nj]at b1;have b1:=aJ b1;rw[b1]at hd;rw[hd]at b2;obtain rfl:=aJ b2;exact⟨d,n,e,h5,a2,t,Q8,Io,by rw[←h2,h4]⟩
  ·cases h2
 ·rintro⟨d,n,e,h1,h2,t,Q8,Io,rfl⟩;obtain⟨i',d',e',a1,a2,a3⟩:=hm.at_ n _ h1;simp only[dq]at a1;obtain rfl:i=i':=by omega
  obtain rfl:d=d':=by omega
  rw[h2]at a2;obtain rfl:=aJ a2;obtain⟨L,a,b1,b2,_⟩:=a3;rw[nj]at b1;have b1:=aJ b1;refine⟨((d:Int),posOf (pM e) t),y5.2 ⟨d,e,by rw[b1];exact b2,t,Q8,Io,rfl⟩,?_⟩;have hd:d<g[i].1.length:=by rw[b1];exact(an.1 b2).1
  simp only[ay];rcases hp d hd with⟨h4,h5⟩|⟨n',h4,h5⟩
  ·exact absurd (aA h1) h5
  ·obtain rfl:=hm.un h1 h5;rw[h4,if_pos (by omega)]
theorem Nc (hg:HG g) (hn:∀p∈g,p.1.length≤1000000) (hm:Mg g os E) (ht:Ei g os tos) {i:Nat} (hi:i<g.length):(kW (tos.getD i []) (pk (g.getD i ([],[])).1 k)).Pairwise fun a b=>a.1≠b.1:=by
 have nj:g[i]? =some g[i]:=au hi;obtain⟨hl,hp⟩:=ht.2 i _ nj;have pU:g.getD i ([],[])=g[i]:=by rw[az,nj];rfl
 rw[pU];unfold kW;have hu:=Nb (hg _ (aA nj)).1 (hn _ (aA nj)) k;refine List.pairwise_filterMap.2 (hu.imp_of_mem fun {a b} ha hb Wm x hx y hy=>?_);obtain⟨d,e,hd,_,_,_,rfl⟩:=y5.1 ha;obtain⟨d',e',N1,_,_,_,rfl⟩:=y5.1 hb;simp only[ay]at hx hy Wm
 split at hx
 ·split at hy
  ·obtain rfl:=aJ hx;obtain rfl:=aJ hy;simp only;rcases hp d (an.1 hd).1 with⟨h4,_⟩|⟨n,h4,h5⟩
   ·omega
   ·rcases hp d' (an.1 N1).1 with⟨h6,_⟩|⟨n',h6,h7⟩
    ·omega
    ·intro e;rw[h4,h6]at e;obtain rfl:n=n':=by omega
     rw[h5]at h7;have:=congrArg Prod.snd (aJ h7);simp only at this;omega
  ·cases hy
 ·cases hx
theorem Ej (hm:Mg g os E) (ht:Ei g os tos) {n:Nat} (hn:n≤g.length) {q:Po}:q∈xj g tos k n↔∃(i d m:Nat) (e:En),i<n∧os[m]? =some ((i:Int),(d:Int))∧E[m]? =some e∧∃t∈cU (pM e),gH t=k∧q=((m:Int),posOf (pM e) t):=by
 unfold xj;rw[uQ];constructor
 ·rintro⟨i,hi,h⟩;have hi:=List.mem_range.1 hi;obtain⟨d,m,e,h1,h2,h3⟩:=(y7 hm ht (by omega)).1 h;exact⟨i,d,m,e,hi,h1,h2,h3⟩
 ·rintro⟨i,d,m,e,hi,h1,h2,h3⟩;exact⟨i,List.mem_range.2 hi,(y7 hm ht (by omega)).2 ⟨d,m,e,h1,h2,h3⟩⟩
theorem xA (hg:HG g) (hl:∀p∈g,p.1.length≤1000000) (hm:Mg g os E) (ht:Ei g os tos):∀{n:Nat},n≤g.length→(xj g tos k n).Pairwise fun a b=>a.1≠b.1
 |0,_=>List.Pairwise.nil
 |n+1,hn=>by
  rw[vI];refine nt.2 ⟨xA hg hl hm ht (by omega),Nc hg hl hm ht (by omega),fun a ha b hb e=>?_⟩;obtain⟨i,d,m,e1,hi,h1,_,_,_,_,rfl⟩:=(Ej hm ht (by omega)).1 ha;obtain⟨d',m',e2,h2,_,_,_,_,rfl⟩:=(y7 hm ht (by omega)).1 hb;simp only at e;obtain rfl:m=m':=by omega
  rw[h1]at h2;have:=congrArg Prod.fst (aJ h2);simp only at this;omega
theorem Nd (hm:Mg g os E) (ht:Ei g os tos) {q:Po}:q∈xj g tos k g.length↔q∈pk E k:=by
 rw[Ej hm ht (aR _),y5];constructor
 ·rintro⟨i,d,m,e,_,_,h2,h3⟩;exact⟨m,e,h2,h3⟩
 ·rintro⟨m,e,h1,h2⟩;obtain⟨i,d,e',a1,a2,L,a,a3,_⟩:=hm.at_ m _ (au (by rw[←hm.len];exact(an.1 h1).1));exact⟨i,d,m,e,(an.1 a3).1,by rw[←a1];exact au _,h1,h2⟩
theorem vJ (hg:HG g) (hl:∀p∈g,p.1.length≤1000000) (hE:E.length≤1000000) (hm:Mg g os E) (ht:Ei g os tos):(xj g tos k g.length).Perm (pk E k):=
 (List.perm_ext_iff_of_nodup ((xA hg hl hm ht (aR _)).imp fun h e=>h (by rw[e])) ((Nb (hm.ok hg) hE k).imp fun h e=>by subst e;omega)).2 fun _=>Nd hm ht
theorem Ek (hg:HG g) (hl:∀p∈g,p.1.length≤1000000) (hE:E.length≤1000000) (hm:Mg g os E) (ht:Ei g os tos) {s:List Po} (hs:s.Perm (xj g tos k g.length)) (hp:s.Pairwise fun a b=>a.1≤b.1):s=pk E k:=by
 have hu:=Nb (hm.ok hg) hE k;have oE:=xA hg hl hm ht (k:=k) (aR _);refine List.Perm.eq_of_pairwise (le:=fun a b=>a.1≤b.1) (fun a b ha hb h1 h2=>?_) hp (hu.imp fun h=>by omega) (hs.trans (vJ hg hl hE hm ht));have rr:=(hs.trans (vJ hg hl hE hm ht)).mem_iff.1 ha;obtain⟨i,hi⟩:=wY.1 rr;obtain⟨j,hj⟩:=wY.1 hb;obtain⟨hi,rfl⟩:=hi;obtain⟨hj,rfl⟩:=hj;rcases eE i j with h|h|h
 ·have:=(cq.1 hu) i j hi hj h;omega
 ·subst h;rfl
 ·have:=(cq.1 hu) j i hj hi h;omega
theorem I8 (hm:Mg g os E) {J:List (List UInt8)} (hJ:Dz J) (kq:∀x,x∈J↔∃p∈g,x∈keysOf p.1):J.filter (fun k=> !(pk E k).isEmpty)=keysOf E:=by
 have jC:∀x,pk E x≠[]↔x∈iE E:=fun x=>⟨fun h=>Classical.byContradiction fun hn=>h (BK 0 hn),fun h=>FY 0 h⟩
 have hu:Dz (J.filter fun k=> !(pk E k).isEmpty):=uL zw hJ;refine tZ (R:=fun a b=>a<b) (fun a b h1 h2=>absurd h2 (iR h1)) hu (k4 E) hu.nodup (k4 E).nodup fun x=> ?_
 rw[fT,jt,←jC];constructor
 ·rintro⟨_,h⟩ e;rw[e]at h;simp at h
 ·intro h
  refine⟨(kq x).2 ?_,by cases hx:pk E x with
   |nil=>exact absurd hx h
   |cons a b=>rfl⟩
  have h2:=(jC x).1 h;unfold iE at h2;obtain⟨e,he,h3⟩:=uQ.1 h2;obtain⟨i,d,L,a,a1,a2,_⟩:=hm.mem.1 he;exact⟨(L,a),aA a1,jt.2 (uQ.2 ⟨e,aA a2,h3⟩)⟩
end
end Go.K
namespace Go.K
open Go.Proofs
set_option maxRecDepth 10000
def wO (g:Gs):Prop:=∃(i d i' d':Nat) (e e':En),lu g i d e∧lu g i' d' e'∧¬(i=i'∧d=d')∧e.2=e'.2
theorem Nf {g:List En} (hu:g.Pairwise fun a b=>a.2<b.2) {i i':Nat} {e e':En} (h:g[i]? =some e) (h':g[i']? =some e') (he:e.2=e'.2):i=i':=by
 obtain⟨p1,p2⟩:=an.1 h;obtain⟨q1,q2⟩:=an.1 h';have hp:=cq.1 hu;rcases eE i i' with hl|hl|hl
 ·have:=hp i i' p1 q1 hl;rw[p2,q2]at this;omega
 ·exact hl
 ·have:=hp i' i q1 p1 hl;rw[p2,q2]at this;omega
theorem lu.one {L:List En} {a:List Bool} {i d:Nat} {e:En}:lu [(L,a)] i d e↔i=0∧L[d]? =some e∧a[d]? =some true:=by
 constructor
 ·rintro⟨L',a',h1,h2,h3⟩
  cases i with
  |zero=>simp only[dW,cH,dq]at h1;obtain⟨rfl,rfl⟩:=h1;exact⟨rfl,h2,h3⟩
  |succ i=>simp at h1
 ·rintro⟨rfl,h2,h3⟩;exact⟨L,a,rfl,h2,h3⟩
def Ja (Z:List (En×Bool)):List En:=(Z.filter (·.2)).map (·.1)
theorem Ng {L:List En} {a:List Bool} {e:En}:e∈Ja (L.zip a)↔∃d:Nat,L[d]? =some e∧a[d]? =some true:=by
 unfold Ja;rw[ca];constructor
 ·rintro⟨⟨x,b⟩,h,rfl⟩;obtain⟨h1,h2⟩:=fT.1 h;simp only at h2;subst h2;obtain⟨d,hd⟩:=bm.1 h1;rw[List.getElem?_zip_eq_some]at hd;exact⟨d,hd.1,hd.2⟩
 ·rintro⟨d,h1,h2⟩;exact⟨(e,true),fT.2 ⟨aA (i:=d) (List.getElem?_zip_eq_some.2 ⟨h1,h2⟩),rfl⟩,rfl⟩
theorem PU {L:List En} {a:List Bool} (h:L.Pairwise fun x y=>x.2<y.2):(Ja (L.zip a)).Pairwise fun x y=>x.2<y.2:=by
 unfold Ja;refine cy.2 (uL zw ?_);rw[cq]at h ⊢;intro i j hi hj ji;rw[List.getElem_zip,List.getElem_zip];exact h i j (by rw[List.length_zip]at hi;omega) (by rw[List.length_zip]at hj;omega) ji
theorem U1 {L:List En} {a:List Bool} {os:List Fo} {E:List En} (hu:L.Pairwise fun x y=>x.2<y.2) (h:Mg [(L,a)] os E):E=Ja (L.zip a):=PS h.up (PU hu) fun e=>by
 rw[h.mem,Ng];constructor
 ·rintro⟨i,d,hl⟩;obtain⟨_,h1,h2⟩:=lu.one.1 hl;exact⟨d,h1,h2⟩
 ·rintro⟨d,h1,h2⟩;exact⟨0,d,lu.one.2 ⟨rfl,h1,h2⟩⟩
theorem Jb {g:Gs} (h:((g.map (·.1)).flatten).Pairwise fun x y=>x.2≠y.2): ¬wO g:=by
 rintro⟨i,d,i',d',e,e',⟨L,a,h1,h2,_⟩,⟨L',a',h3,h4,_⟩,eN,heq⟩;rw[List.pairwise_flatten]at h;obtain⟨ha,hb⟩:=h;have g1:(g.map (·.1))[i]? =some L:=by rw[bB,h1];rfl
 have g3:(g.map (·.1))[i']? =some L':=by rw[bB,h3];rfl
 obtain⟨p1,p2⟩:=an.1 g1;obtain⟨q1,q2⟩:=an.1 g3;rcases eE i i' with dO|rfl|dO
 ·have:=cq.1 hb i i' p1 q1 dO;rw[p2,q2]at this;exact this e (aA h2) e' (aA h4) heq
 ·rw[h1]at h3;cases h3;have hl:=ha L (aA g1);obtain⟨r1,r2⟩:=an.1 h2;obtain⟨s1,s2⟩:=an.1 h4;rcases eE d d' with h|h|h
  ·have:=cq.1 hl d d' r1 s1 h;rw[r2,s2]at this;exact this heq
  ·exact eN ⟨rfl,h⟩
  ·have:=cq.1 hl d' d s1 r1 h;rw[r2,s2]at this;exact this heq.symm
 ·have:=cq.1 hb i' i q1 p1 dO;rw[p2,q2]at this;exact this e' (aA h4) e (aA h2) heq.symm
theorem GB {L:List En} {a:List Bool} (hu:L.Pairwise fun x y=>x.2<y.2): ¬wO [(L,a)]:=Jb (by
 show(List.flatten [L]).Pairwise _;rw[List.flatten_cons,List.flatten_nil,iX];exact hu.imp fun h e=>by omega)
end Go.K
namespace Go.K
theorem Own.PV {α:Type} {A:RT α} (hA:BV A) {e:TypeId} {M:aC} {w:World} {base:Nat} {v:Value} {xs:List α} (h:Own A e M w base v xs) {M':aC} (hm:∀b,v.ownBlock=some b→M' b):Own A e M' w base v xs:=by
 obtain⟨⟨C,h1,h2⟩,_⟩:=h;exact⟨⟨C,h1,h2.PL hA⟩,hm⟩
theorem Own.Zu {α:Type} {A:RT α} (hA:BV A) {e:TypeId} {N:aC} {w w':World} {base:Nat} {v:Value} {xs:List α} (h:Own A e allM w base v xs) (s:Step allM w allM w' N) (hn:∀b,v.ownBlock=some b→¬N b):Own A e allM w' base v xs:=by
 obtain⟨⟨C,h1,h2⟩,_⟩:=h;refine⟨⟨C,⟨h1.1,?_⟩,h2.PL hA⟩,fun _ _=>trivial⟩;rcases h1.2 with h3|⟨g,cap,cur,h3,h4,h5,h6,h7,h8⟩
 ·exact .inl h3
 ·exact .inr ⟨g,cap,cur,h3,h4,by rw[s.same g (ak h5) (hn g (by rw[h3];rfl))];exact h5,h6,h7,h8⟩
theorem Own.RB {α:Type} {A:RT α} (hA:BV A) {e:TypeId} {M:aC} {w:World} {base:Nat} {v:Value} {xs:List α} (h:Own A e M w base v xs):Own A e (mU v) w base v xs:=h.PV hA fun _ h=>h
theorem Own.RC {α:Type} {A:RT α} (hA:BV A) {e:TypeId} {M M' N:aC} {w w':World} {base:Nat} {v:Value} {xs:List α} (h:Own A e (mU v) w base v xs) (s:Step M w M' w' N) (hn:∀c,v.ownBlock=some c→¬N c):Own A e (mU v) w' base v xs:=
 ((h.PV hA (M':=allM) (fun _ _=>trivial)).Zu hA s.all hn).RB hA
end Go.K
namespace Go.K
variable {P:Program} {r:Option Nat} {n:Nat} {L:Sl} {ds:List Deferred} {w:World} {K:Kt} {ops:Array Oper} {rest:List Oper} {d:Nat} {x y:Operand} {ty:TypeId} {pos:String} {af:Array Edge} {α:Type} {A:RT α}
theorem Own.JI {e:TypeId} {M:aC} {base:Nat} {u v:Value} {xs:List α} (h:Own A e M w base u xs) (xw:∀b,u.ownBlock=some b→v.ownBlock≠some b):Own A e (rm M v) w base u xs:=by
 obtain⟨⟨C,hr,ha⟩,hm⟩:=h;exact⟨⟨C,hr,ha.le (fw M v w)⟩,fun b hb=>⟨hm b hb,xw b hb⟩⟩
theorem Rg.U2 {t e:TypeId} {zv:Value} {bytes:Nat} {M:aC} {base g len cap j:Nat} {xs:List α} {a:α} {v:Value} (hA:A.n=1∧A.agg=false) (hi:TI P t zv 1 bytes) (hx:ev L x=some (.pointer (some ⟨g,j,none⟩))) (hy:ev L y=some v) (h:Own A e M w base (.slice (some ⟨g,0,none⟩) len cap) xs) (hj:j<xs.length) (hv:A.V M w a v)
  (k:∀w',Own A e M w' base (.slice (some ⟨g,0,none⟩) len cap) (xs.set j a)→Step M w M w' (fun k=>k=g)→Rg P r n ops rest L ds w' K):
  Rg P r n ops ({dst:=none,op:= .store t x y,type:=ty,pos,after:=af,guard:=none}::rest) L ds w K:=by
 obtain⟨vs,lA,hvv⟩:=hv;have hl:=A.len lA;rw[hA.1]at hl
 obtain⟨u,rfl⟩:∃u,vs=[u]:=by
  match vs,hl with
  |[u],_=>exact⟨u,rfl⟩
 have hvu:v=u:=by rw[hvv];unfold RT.val;rw[hA.2];rfl
 subst hvu;have h1:=A.one lA v (by simp);obtain⟨w',SD,ho,hs⟩:=h.setCells hj lA;obtain⟨⟨C,hr,_⟩,hm⟩:=h;rcases hr.2 with⟨h2,_⟩|⟨g',xK,cur,h2,_,h3,h4,h5,h6,h7⟩
 ·cases h2
 ·simp only[fW,cH,nF]at h2;obtain⟨⟨rfl,_⟩,rfl,rfl⟩:=h2;rw[hA.1]at h6 SD;refine .Qq (fun _ h=>by cases h) rfl rfl w' (fun ρ hρ=>?_) (k w' ho hs);subst SD;simp only[execOp,hρ x _ hx,hρ y _ hy];have:=nv (P:=P) hi (w:=w) (b:=g) (o:=j) (v:=v) h1 (by rw[fX h3 (v:=cur[j]'(by omega)) (by simp)];rfl) (by simp[World.frozen?,h3]);simp[this,World.setCells]
theorem Rg.ago {t e:TypeId} {zv v:Value} {bytes:Nat} {M:aC} (ht:P.underlying t=some (.slice e)) (hi:TI P e zv 1 bytes) (hx:ev L x=some v) (hd:Nat.blt d n=true) (hc:v.cells= #[v])
  (k:∀g w',w.heap.size≤g→w'.heap[g]? =some (.cells #[v] e (0,0))→Step M w M w' aD→Rg P r n ops rest ((d,.slice (some ⟨g,0,none⟩) 1 1)::L) ds w' K):
  Rg P r n ops ({dst:=some d,op:= .buildSlice t 1 #[(0,x)],type:=ty,pos,after:=af,guard:=none}::rest) L ds w K:=by
 obtain⟨i,zy,Ah,hi3,Wt⟩:=hi.get;refine .op (fun _ h=>by cases h) rfl rfl hd (.slice (some ⟨w.heap.size,0,none⟩) 1 1) (w.alloc (.cells #[v] e)) (fun ρ hρ=>?_) (k _ _ (aR _) (cp w _) (cW M w (.cells #[v] e)));simp only[execOp,fB,eS,j5,hρ x _ hx];simp only[Instr.buildSlice,ch,run_underlying ht,cB,hi.sizeOf,Nat.one_mul];rw[if_neg (by omega),if_neg (by omega)];simp only[ch,zeroValue,typeInfo,program,Sem.run,zy,Ah,cB,Sem.run_pure];rw[Cx 1 _ #[v] v (by simp) hc (by simp)];simp[newRow,newObj,Sem.run]
theorem Rg.PW {i:Operand} {t e:TypeId} {κ:IntKind} {j:Int} {b o len bytes:Nat} {zv:Value} (ht:P.underlying t=some (.array len e)) (hi:TI P e zv 1 bytes) (hx:ev L x=some (.pointer (some ⟨b,o,none⟩))) (E1:ev L i=some (.int κ j)) (hd:Nat.blt d n=true) (hj:0≤j∧j<len)
  (k:Rg P r n ops rest ((d,.pointer (some ⟨b,o+j.toNat,none⟩))::L) ds w K):
  Rg P r n ops ({dst:=some d,op:= .indexAddr t x i,type:=ty,pos,after:=af,guard:=none}::rest) L ds w K:=
 .op (fun _ h=>by cases h) rfl rfl hd _ w (fun ρ h=>by
  simp only[execOp,h x _ hx,h i _ E1];simp[Instr.indexAt,run_underlying ht,asIntOf,hj,hi.sizeOf,wW,Instr.sureAddr]) k
def Oc (p:Fo):List Value:=[.int .i64 p.1,.int .i64 p.2]
def Zv (p:Fo):Prop:=lU p.1∧lU p.2
theorem xB {M:aC} {w:World}:∀{xs:List Fo} {C:List Value},dV RT.fo M w xs C↔C=xs.flatMap Oc∧∀p∈xs,Zv p
 |[],C=>⟨fun h=>⟨h,fun p h=>by cases h⟩,fun h=>h.1⟩
 |p::xs,C=>by
  constructor
  ·rintro⟨vs,r,h1,⟨va,vb,rfl,⟨rfl,ha⟩,⟨rfl,hb⟩⟩,h3⟩;obtain⟨h4,h5⟩:=xB.1 h3;refine⟨by rw[h1,h4];rfl,fun q hq=>?_⟩;rcases bX.1 hq with rfl|hq
   ·exact⟨ha,hb⟩
   ·exact h5 q hq
  ·rintro⟨h1,h2⟩;obtain⟨ha,hb⟩:=h2 p (bH ..);exact⟨_,_,by rw[h1];rfl,⟨_,_,rfl,⟨rfl,ha⟩,⟨rfl,hb⟩⟩,xB.2 ⟨rfl,fun q hq=>h2 q (b9 _ hq)⟩⟩
theorem El {a:Int}:∀{xs:List Fo} {k:Nat} {p:Fo},xs[k]? =some p→(xs.flatMap Oc).set (k*2+1) (.int .i64 a)=(xs.set k (p.1,a)).flatMap Oc
 |[],k,p,h=>by simp at h
 |q::xs,0,p,h=>by
  simp at h;subst h;rfl
 |q::xs,k+1,p,h=>by
  have:=El (a:=a) (xs:=xs) (k:=k) (p:=p) (by simpa using h);rw[List.set_cons_succ,sm,sm,←this];show(Oc q++_).set _ _=Oc q++_;rw[show(k+1)*2+1=(k*2+1)+2 from by omega];rfl
theorem y8:∀xs:List Fo,(xs.flatMap Oc).length=xs.length*2
 |[]=>rfl
 |p::xs=>by rw[sm,bg,y8 xs,cD];show 2+_=_;omega
theorem Own.Zw {e:TypeId} {M:aC} {base g len cap k:Nat} {xs:List Fo} {p:Fo} (h:Own RT.fo e M w base (.slice (some ⟨g,0,none⟩) len cap) xs) (hx:xs[k]? =some p):
  ∃cur,w.heap[g]? =some (.cells cur e (0,0))∧M g∧Zv p∧base≤g∧(∃u,cur[k*2+1]? =some u∧u.oneCell'=true)∧∀(M':aC) (w':World) (a:Int),lU a→w'.heap[g]? =some (.cells (cur.setIfInBounds (k*2+1) (.int .i64 a)) e (0,0))→M' g→Own RT.fo e M' w' base (.slice (some ⟨g,0,none⟩) len cap) (xs.set k (p.1,a)):=by
 obtain⟨⟨C,hr,ha⟩,hm⟩:=h;obtain⟨rfl,hok⟩:=xB.1 ha;have E5:=(an.1 hx).1;rcases hr.2 with⟨h1,_⟩|⟨g',xK,cur,h1,h2,h3,h4,h5,h6,h7⟩
 ·cases h1
 ·simp only[fW,cH,nF]at h1;obtain⟨⟨rfl,_⟩,rfl,rfl⟩:=h1;have e2:RT.fo.n=2:=rfl;rw[e2]at h6 h7;have kq:k*2+1<xs.length*2:=by omega
  have iY:∃u,cur[k*2+1]? =some u∧u.oneCell'=true:=by
   have hl:k*2+1<(xs.flatMap Oc).length:=by rw[y8];exact kq
   refine⟨(xs.flatMap Oc)[k*2+1],?_,ha.one _ (uP _)⟩;have h8:(cur.toList.take (xs.length*2))[k*2+1]? =some (xs.flatMap Oc)[k*2+1]:=by rw[h7];exact au hl
   rw[cj,if_pos kq]at h8;simpa using h8
  refine⟨cur,h3,hm g rfl,hok p (aA hx),h2,iY,fun M' w' a har hw hM'=>?_⟩;refine⟨⟨(xs.set k (p.1,a)).flatMap Oc,⟨by rw[y8];rfl,.inr ⟨g,cap,_,by rw[fA],h2,hw,by rw[fA];exact h4,h5,by rw[e2];simpa using h6,?_⟩⟩,xB.2 ⟨rfl,fun q hq=>?_⟩⟩,fun b hb=>by cases hb;exact hM'⟩
  ·rw[e2,fA,←El hx,←h7];apply fe;intro j;rw[du];simp only[cj,Array.toList_setIfInBounds,du,bC,zu];by_cases hj:j<xs.length*2
   ·rw[if_pos hj,if_pos hj];have:xs.length*2≤cur.size:=by rw[h6];omega
    by_cases e:k*2+1=j
    ·rw[if_pos e,if_pos e,if_pos (by omega),if_pos (by omega)]
    ·rw[if_neg e,if_neg e]
   ·rw[if_neg hj,if_neg hj];rw[if_neg (by omega)]
  ·rcases List.mem_or_eq_of_mem_set hq with hq|rfl
   ·exact hok q hq
   ·exact⟨(hok p (aA hx)).1,har⟩
end Go.K
namespace Go.K
open Go.Proofs
namespace TKSet
theorem Em:TI Tryz.prog 131 (.slice none 0 0) 1 24:=by unfold TI;kernel_rfl
theorem agp:TI Tryz.prog 133 (.agg #[(.int .i64 0),(.slice none 0 0)]) 2 32:=by unfold TI;kernel_rfl
theorem y9:TI Tryz.prog 190 (.int .u64 0) 1 8:=by unfold TI;kernel_rfl
theorem agq:placesOf Tryz.prog 133=[(0,1),(1,1)].map some:=by kernel_rfl
end TKSet
open TKSet
set_option maxRecDepth 10000
theorem zZ {w0:World} {k m x:Nat} (BX:∃e fr,w0.heap[1]? =some (.cells (Fj.map fun(k:Nat)=>Value.int .u8 (k:Int)).toArray e fr)) (hx:x=2^k*(2*m+1)) (hl:x<2^64):
  Spec Tryz.prog 213 #[.int .u64 x] w0 (fun v' w'=>v'= .int .i64 k∧w0=w'):=by
 obtain⟨et,ft,BX⟩:=BX;have hp:=Nat.two_pow_pos k;have tz:0<x:=by rw[hx];exact Nat.mul_pos hp (by omega)
 have hkx:2^k≤x:=by rw[hx];exact Nat.le_mul_of_pos_right _ (by omega)
 have hk:k<64:=by
  rcases cJ k 64 with h2|h2
  ·exact h2
  ·have:=nr (n:=2) (by decide) h2;omega
 obtain⟨hd1,hd2⟩:=SE k hk;have lj:((Fj.map fun(k:Nat)=>Value.int .u8 (k:Int)).toArray)[(2^k*285870213051353865)%2^64/2^58]? =some (.int .u8 (k:Int)):=by rw[il,bB,hd2];rfl
 refine bc (args:=[_]) (fn:=Tryz.f213) Tryz.func213 rfl (n:=14) Tryz.ntmps213 (aj (ae (ah rfl rfl (ab (aj (aj (ae (ad rfl rfl (k7 rfl rfl rfl (ab (T.tx rfl ((by omega)) ?_)))))))))));refine aT (aj (ae (ad rfl rfl (ad rfl rfl (Rg.abZ rfl rfl (aV (v':= .int .u64 ((2^64-x:Nat):Int)) (by rw[show(0:Int)-(x:Int)=((2^64-x:Nat):Int)-18446744073709551616 from by omega];simp[IntKind.wrap,IntKind.bits,IntKind.signed];omega) (Rg.and rfl rfl rfl (aV (v':= .int .u64 ((2^k:Nat):Int)) (by rw[Km x (2^64-x) hl (by omega),hx,OF (by omega)]) (Rg.HT rfl rfl rfl (aV (v':= .int .u64 (((2^k*285870213051353865)%2^64:Nat):Int)) (congrArg _ (by rw[show((2^k:Nat):Int)*285870213051353865=((2^k*285870213051353865:Nat):Int)from by rw[Int.natCast_mul];rfl];exact Bn _)) (Rg.shr rfl rfl rfl (by decide) ?_)))))))))));refine aV (v':= .int .u64 (((2^k*285870213051353865)%2^64/2^58:Nat):Int)) (congrArg _ (WX _ 58 (by decide))) (xp (len:=64) Tryz.underlying326 I5 rfl rfl rfl (by omega) (aL (v:= .int .u8 (k:Int)) cx rfl rfl rfl BX (by rw[ay];exact lj) (Rg.uU cx aw rfl rfl (by omega) (ah rfl rfl (ab (aN ?_))))));exact aU rfl rfl ⟨rfl,rfl⟩
theorem vK {M:aC} {w0:World} {n:Nat} (hn:n≤1099511627776):
  Spec Tryz.prog 24 #[.int .i64 n] w0 (fun v' w'=>∃bs bw,v'= .pointer (some ⟨bs,0,none⟩)∧w0.heap.size≤bs∧w0.heap.size≤bw∧Step M w0 (ins (ins M bw) bs) w' aD∧jI 133 190 n (List.replicate ((n+63)/64) 0) (ins (ins M bw) bs) w' bs bw):=by
 refine bc (args:=[_]) (fn:=Tryz.f24) Tryz.func24 rfl (n:=13) Tryz.ntmps24 (aj (ae (ah rfl rfl (ab (aj (ae (ad rfl rfl (Rg.max2 rfl rfl rfl (aV (v':= .int .i64 n) (congrArg _ (by omega)) (ah rfl rfl (ab ?_)))))))))));refine aj (ae (ad rfl rfl (ad rfl rfl (bD rfl rfl rfl (by omega) (fq rfl rfl rfl (by omega) (Rg.zE rfl rfl rfl (by omega) (aV (v':= .int .i64 (((n+63)/64:Nat):Int)) (congrArg _ (by omega)) ?_)))))));refine Rg.mk0 M eR y9 rfl rfl rfl rfl (by omega) (by omega) (fun bw w1 z1 z1' h1 s1=>?_);refine iW (places:=[(0,1),(1,1)]) iH agp agq rfl ⟨_,_,rfl,rfl,_,_,rfl,rfl,rfl⟩ (out:=[_,_]) ⟨0,[_],rfl,rfl,by simp[Value.cells],1,[_],rfl,rfl,by simp[Value.cells],rfl⟩ ?_;refine wX (ins M bw) rfl rfl (fun bs w2 z2 z2' h2 s2=>?_);have y1:=s1.size;refine ah rfl rfl (ab (aN ?_));refine aU rfl rfl ⟨bs,bw,rfl,by omega,z1,s1.aB s2,.inl rfl,.inr (.inl rfl),by omega,by rw[bM];exact h2,?_,by simp,fun x hx=>by rw[pR hx];decide,hn⟩;have:=s2.aK h1;rw[this];simp[qq]
end Go.K
namespace Go.K
open Go.Proofs
set_option maxRecDepth 10000
theorem Jc {M:aC} {w0:World} {n:Nat} {ws:List Nat} {bs bw:Nat} (h:jI 133 190 n ws M w0 bs bw):
  Spec Tryz.prog 102 #[.pointer (some ⟨bs,0,none⟩)] w0 (fun v' w'=>v'= .int .i64 (n:Int)∧w0=w'):=by
 have hS:=h.s;have hW:=h.w;have hlen:=h.len;have hok:=h.ok;have VT:=h.nn;refine bc (args:=[_]) (fn:=Tryz.f102) Tryz.func102 rfl (n:=7) Tryz.ntmps102 (aj (ae (ah rfl rfl (ab (aj (ae (ad rfl rfl (bS rfl ⟨_,rfl⟩ rfl (bN iH rfl rfl I3 (by decide) rfl rfl (aL aw rfl rfl rfl (by assumption) rfl (ah rfl rfl ?_)))))))))));refine ab (aN ?_);exact aU rfl rfl ⟨rfl,rfl⟩
end Go.K
namespace Go.K
open Go.Proofs
namespace TKSet3
theorem Em:TI Tryz.prog 131 (.slice none 0 0) 1 24:=by unfold TI;kernel_rfl
theorem y9:TI Tryz.prog 190 (.int .u64 0) 1 8:=by unfold TI;kernel_rfl
theorem Zx:Enters Tryz.prog 155:=enters Tryz.func155 rfl (by decide)
theorem agr:Enters Tryz.prog 213:=enters Tryz.func213 rfl (by decide)
end TKSet3
open TKSet3
set_option maxRecDepth 10000
theorem zc {M:aC} {w0:World} {n:Nat} {ws:List Nat} {bs bw:Nat} (h:jI 133 190 n ws M w0 bs bw) {i:Int} (hi: -1≤i∧i≤1099511627776) (hb:∀j,bit ws j=true→j<n) (BX:∃e fr,w0.heap[1]? =some (.cells (Fj.map fun(k:Nat)=>Value.int .u8 (k:Int)).toArray e fr)):
  Spec Tryz.prog 155 #[.pointer (some ⟨bs,0,none⟩),.int .i64 i] w0 (fun v' w'=>(∃r,v'= .int .i64 r∧QF ws i.toNat r∧ -1≤r∧r≤1099511627776)∧w0=w'):=by
 have hS:=h.s;have hW:=h.w;have hlen:=h.len;have hok:=h.ok;have VT:=h.nn;refine bc (args:=[_,_]) (fn:=Tryz.f155) Tryz.func155 rfl (n:=36) Tryz.ntmps155 (aj (ae (ah rfl rfl (ab (aj (ae (ad rfl rfl (Rg.max2 rfl rfl rfl (aV (v':= .int .i64 (i.toNat:Int)) (congrArg _ (by omega)) (ah rfl rfl (ab ?_)))))))))));refine aj (aZ ?_);refine dn (σ:=Nat) (fun s=>[(0,.pointer (some ⟨bs,0,none⟩)),(1,.int .i64 s)]) (fun s w=>w0=w∧i.toNat≤s∧(∀t,i.toNat≤t→t<s→bit ws t=false)∧s≤1099511627840) (fun s=>n+64-s) i.toNat (.cons rfl (.cons rfl .nil)) ?_ ?_
 ·exact⟨rfl,aR _,fun t h1 h2=>by omega,by omega⟩
 ·rintro p w1 ⟨rfl,hp,j9,kf⟩;refine aj (aj (ae (ad rfl rfl (ad rfl rfl (bS rfl ⟨_,rfl⟩ rfl (bN iH rfl rfl I3 (by decide) rfl rfl (aL aw rfl rfl rfl (by assumption) rfl (cf rfl rfl rfl (ab ?_)))))))));refine bP rfl (fun c2=>?_) (fun c2=>?_)
  ·refine aT (aZ (aj (aj (ae (ad rfl rfl (bS rfl ⟨_,rfl⟩ rfl (bN iH rfl rfl Em (by decide) rfl rfl (aL eR rfl rfl rfl (by assumption) rfl (ad rfl rfl (Rg.zE rfl rfl rfl (by omega) (Rg.Kl eR y9 rfl rfl rfl (by omega) ?_)))))))))));refine aL su rfl rfl rfl hW (v:= .int .u64 ((ws.getD (p/64) 0:Nat):Int)) (by rw[show(((p:Int)/64)).toNat=p/64 from by omega];exact mq (by omega)) (ad rfl rfl (Rg.zF rfl rfl rfl (by omega) (Rg.shr rfl rfl rfl (by omega) (aV (v':= .int .u64 ((ws.getD (p/64) 0/2^(p%64):Nat):Int)) (congrArg _ (by rw[show((p:Int)%64)=((p%64:Nat):Int)from by omega];exact WX _ _ (by omega))) (ah rfl rfl (ab (aj (ae (ad rfl rfl (fp rfl rfl rfl (ab ?_)))))))))));refine bP rfl (fun c4=>?_) (fun c4=>?_)
   ·refine aj (ae (ad rfl rfl (ad rfl rfl ?_)));obtain⟨k,m,E8⟩:=Ko (ws.getD (p/64) 0/2^(p%64)) (Nat.pos_of_ne_zero fun h=>c4 (by rw[h];rfl));have A9:=CR (hok.get _) (show p%64<64 by omega) E8;have ags:ws.getD (p/64) 0/2^(p%64)<2^64:=Nat.lt_of_le_of_lt (Nat.div_le_self _ _) (hok.get _);refine aX rfl rfl agr (zZ (k:=k) (m:=m) BX E8 ags) (fun r wc h=>?_);obtain⟨rfl,rfl⟩:=h;refine bD rfl rfl rfl (by omega) (ah rfl rfl (ab (aN ?_)));have hlb:=fun t ht=>(Bm (k:=k) (m:=m)).2 t ht
    have Zy:bit ws (p+k)=true:=by rw[x8 A9,E8];exact Bm.1
    have:=hb _ Zy
    exact aU rfl rfl ⟨⟨_,rfl,.inl ⟨p+k,by omega,by omega,Zy,fun t h1 h2=>by
     rcases cJ t p with h|h
     ·exact j9 t h1 h
     ·have h3:=x8 (ws:=ws) (i:=p) (t:=t-p) (by omega);rw[show p+(t-p)=t from by omega]at h3;rw[h3,E8];exact hlb _ (by omega)⟩,by omega,by omega⟩,rfl⟩
   ·have hz0:ws.getD (p/64) 0/2^(p%64)=0:=by
     have:=dI.1 c4;exact Int.ofNat.inj this
    refine aT (ae (ad rfl rfl (ad rfl rfl (Rg.zF rfl rfl rfl (by omega) (fq rfl rfl rfl (by omega) (bD rfl rfl rfl (by omega) (ah rfl rfl (ab ?_))))))));refine⟨rfl,p+(64-p%64),(.cons rfl (.cons (by rw[show((p+(64-p%64):Nat):Int)=(p:Int)+(64-(p:Int)%64)from by omega];rfl) .nil)),?_,?_⟩
    ·refine⟨rfl,by omega,fun t h1 h2=>?_,by omega⟩;rcases cJ t p with h|h
     ·exact j9 t h1 h
     ·have h3:=x8 (ws:=ws) (i:=p) (t:=t-p) (by omega);rw[show p+(t-p)=t from by omega]at h3;rw[h3,hz0];simp
    ·show n+64-(p+(64-p%64))<n+64-p;omega
  ·refine cL (aj (ae (ah rfl rfl (ab (aN ?_)))))
   exact aU rfl rfl ⟨⟨_,rfl,.inr ⟨rfl,fun t h1=>by
    rcases cJ t p with h|h
    ·exact j9 t h1 h
    ·cases PB:bit ws t with
     |false=>rfl
     |true=>have:=hb t PB;omega⟩,by omega,by omega⟩,rfl⟩
theorem Jd {M:aC} {w0:World} {bs:Nat} (hM:Lt M w0):
  Spec Tryz.prog 103 #[.pointer (some ⟨bs,0,none⟩)] w0 (fun v' w'=>∃bl,v'= .func (.func 154) #[] #[.pointer (some ⟨bl,0,none⟩)]∧w'.heap[bl]? =some (.cells #[.pointer (some ⟨bs,0,none⟩)] 47 (0,0))∧w0.heap.size≤bl∧Step M w0 M w' aD):=by
 refine bc (args:=[_]) (fn:=Tryz.f103) Tryz.func103 rfl (n:=4) Tryz.ntmps103 (aj (ae ?_));refine wX M rfl rfl (fun bl w1 h1 VX hS s1=>?_);change w1.heap[bl]? =some (.cells #[.pointer (some ⟨bs,0,none⟩)] _ _)at hS;refine ah rfl rfl (ab (aj (ae (ka (xs:=[]) (ys:=[.tmp 1]) rfl rfl rfl (ah rfl rfl (ab (aN ?_)))))));exact aU rfl rfl ⟨bl,rfl,hS,h1,s1.back⟩
theorem GC {w0:World} {n:Nat} {ws:List Nat} {bs bw bl yl:Nat} {J:Nat→aC→World→Prop} {M:aC} {Jx:World→Prop} (hb:∀j,bit ws j=true→j<n) (Hx:∀p M w,J p M w→w.heap[bl]? =some (.cells #[.pointer (some ⟨bs,0,none⟩)] 47 (0,0))∧jI 133 190 n ws M w bs bw∧(∃e fr,w.heap[1]? =some (.cells (Fj.map fun(k:Nat)=>Value.int .u8 (k:Int)).toArray e fr))) (hy:∀(p j:Nat) (M:aC) (w:World),J p M w→p≤j→bit ws j=true→(∀t,p≤t→t<j→bit ws t=false)→wk Tryz.prog yl [.int .i64 j].toArray w (fun r w'=>∃c,r= .bool c∧(c=true→∃M',J (j+1) M' w')∧(c=false→Jx w'))) (h0:J 0 M w0):
  Spec Tryz.prog 154 #[.func (.yield yl) #[] #[],.pointer (some ⟨bl,0,none⟩)] w0 (fun _ w'=>(∃p M',J p M' w'∧∀t,p≤t→bit ws t=false)∨Jx w'):=by
 obtain⟨Wa,Tq,agt⟩:=Hx _ _ _ h0;refine bc (args:=[_,_]) (fn:=Tryz.f154) Tryz.func154 rfl (n:=17) Tryz.ntmps154 (aj (ae (aL nQ rfl rfl rfl (by assumption) rfl ?_)));refine aX rfl rfl Zx (zc Tq (i:=0) (by omega) hb agt) (fun r wc h=>?_);obtain⟨⟨r,rfl,hr,Wl,NY⟩,rfl⟩:=h;refine ah rfl rfl (ab (aZ ?_));refine dn (σ:=Nat×Int) (fun s=>[(0,.func (.yield yl) #[] #[]),(1,.pointer (some ⟨bl,0,none⟩)),(3,.int .i64 s.2)]) (fun s w=>(∃M1,J s.1 M1 w)∧QF ws s.1 s.2∧ -1≤s.2∧s.2≤1099511627776∧s.1≤n) (fun s=>n+1-s.1) (0,r) (.cons rfl (.cons rfl (.cons rfl .nil))) ?_ ?_
 ·exact⟨⟨M,h0⟩,hr,Wl,NY,bG _⟩
 ·clear hr Wl NY;rintro⟨p,r⟩ w1 ⟨⟨M1,hJ⟩,hr,Wl,NY,Oa⟩;dsimp only at hJ hr Wl NY Oa ⊢;refine aj (aj (ae (ad rfl rfl (dT rfl rfl rfl (ad rfl rfl ?_)))));refine aO (g:=8) rfl (fun iJ=>?_) (fun iJ=>?_)
  ·refine al rfl rfl (ad rfl rfl (al rfl rfl (ad rfl rfl (al rfl rfl ?_))))
   have hrj:∃j:Nat,r=j∧p≤j∧bit ws j=true∧∀t,p≤t→t<j→bit ws t=false:=by
    rcases hr with h|h
    ·exact h
    ·omega
   obtain⟨j,rfl,WD,Zz,j9⟩:=hrj;have Jw:=hb j Zz;refine Rg.yield rfl (vs:=[.int .i64 j]) rfl rfl (hy p j M1 _ hJ WD Zz j9) (fun r4 w5 h5=>?_);obtain⟨c,rfl,hc5,Zl⟩:=h5;refine aV (v':= .bool (decide (c=true))) (by simp) (aW rfl rfl rfl (ab ?_));refine bP rfl (fun c1=>?_) (fun c1=>?_)
   ·obtain⟨M2,hJ2⟩:=hc5 c1;obtain⟨N0,jG,agu⟩:=Hx _ _ _ hJ2;refine aT (aj (aZ (aT (ae (aL nQ rfl rfl rfl (by assumption) rfl (ad rfl rfl (bD rfl rfl rfl (by omega) ?_)))))));refine aX rfl rfl Zx (zc jG (i:=(j:Int)+1) (by have:=jG.nn;omega) hb agu) (fun r wc h=>?_);obtain⟨⟨r2,rfl,ZA,hr3,hr4⟩,rfl⟩:=h;refine ah rfl rfl (ab ?_);refine⟨rfl,(j+1,r2),(.cons rfl (.cons rfl (.cons rfl .nil))),?_,?_⟩
    ·refine⟨⟨M2,hJ2⟩,?_,hr3,hr4,by simp only;omega⟩;rw[show((j:Int)+1).toNat=j+1 from by omega]at ZA;exact ZA
    ·simp only;omega
   ·refine cL ?_;change wZ Tryz.prog Tryz.f154 (fun _ w'=>(∃p M',J p M' w'∧∀t,p≤t→bit ws t=false)∨Jx w') .normal _ [] _
    first
    |exact fY rfl (.inr (Zl (by simpa using c1)))
    |(have qi:∀t,p≤t→bit ws t=false:=by
       rcases hr with⟨j,h,_⟩|h
       ·omega
       ·exact h.2
      exact fY rfl (.inl ⟨p,M1,hJ,qi⟩))
  ·refine ar rfl rfl rfl rfl (ar rfl rfl rfl rfl (ar rfl rfl rfl rfl (aE rfl rfl rfl (ab (jD rfl (cL ?_))))));change wZ Tryz.prog Tryz.f154 (fun _ w'=>(∃p M',J p M' w'∧∀t,p≤t→bit ws t=false)∨Jx w') .normal _ [] _
   first
   |exact fY rfl (.inr (Zl (by simpa using c1)))
   |(have qi:∀t,p≤t→bit ws t=false:=by
      rcases hr with⟨j,h,_⟩|h
      ·omega
      ·exact h.2
     exact fY rfl (.inl ⟨p,M1,hJ,qi⟩))
end Go.K
namespace Go.K
open Go.Proofs
namespace TKSet2
theorem Em:TI Tryz.prog 131 (.slice none 0 0) 1 24:=by unfold TI;kernel_rfl
theorem y9:TI Tryz.prog 190 (.int .u64 0) 1 8:=by unfold TI;kernel_rfl
theorem ZB:Enters Tryz.prog 24:=enters Tryz.func24 rfl (by decide)
theorem E67:Enters Tryz.prog 67:=enters Tryz.func67 rfl (by decide)
end TKSet2
open TKSet2
set_option maxRecDepth 10000
theorem A1 {ws vs:List Nat} {n:Nat} (hl:ws.length=(n+63)/64) (hv:vs.length=(n+63)/64) (hr:0<n%64) (h1:∀j,j<64*ws.length→bit vs j= !bit ws j) (j:Nat):bit (vs.set (vs.length-1) (vs.getD (vs.length-1) 0%2^(n%64))) j=(decide (j<n)&& !bit ws j):=by
 rw[Bo _ (by omega)];by_cases hj:j/64=vs.length-1
 ·rw[if_pos hj,Nat.testBit_mod_two_pow];have h2:=h1 j (by omega);have h3:(vs.getD (vs.length-1) 0).testBit (j%64)=bit vs j:=by unfold bit;rw[hj]
  rw[h3,h2];congr 1;exact decide_eq_decide.2 (by omega)
 ·rw[if_neg hj];by_cases tH:j<n
  ·rw[h1 j (by omega),decide_eq_true tH,eT]
  ·rw[decide_eq_false tH,kK,OG (by omega)]
theorem Eo {ws vs:List Nat} {n:Nat} (hl:ws.length=(n+63)/64) (hr:n%64=0) (h1:∀j,j<64*ws.length→bit vs j= !bit ws j) (h2:∀j,64*ws.length≤j→bit vs j=false) (j:Nat):bit vs j=(decide (j<n)&& !bit ws j):=by
 by_cases tH:j<n
 ·rw[h1 j (by omega),decide_eq_true tH,eT]
 ·rw[decide_eq_false tH,kK,h2 j (by omega)]
theorem Je {M:aC} {w0:World} {n:Nat} {ws:List Nat} {bs bw:Nat} (h:jI 133 190 n ws M w0 bs bw):
  Spec Tryz.prog 67 #[.pointer (some ⟨bs,0,none⟩)] w0 (fun v' w'=>∃os ow Jy,v'= .pointer (some ⟨os,0,none⟩)∧w0.heap.size≤os∧w0.heap.size≤ow∧Step M w0 (ins (ins M ow) os) w' aD∧jI 133 190 n Jy (ins (ins M ow) os) w' os ow∧∀j,bit Jy j=(decide (j<n)&& !bit ws j)):=by
 have hS:=h.s;have hW:=h.w;have hlen:=h.len;have hok:=h.ok;have VT:=h.nn;refine bc (args:=[_]) (fn:=Tryz.f67) Tryz.func67 rfl (n:=56) Tryz.ntmps67 (aj (ae (ah rfl rfl (ab (aj (ae (ad rfl rfl (bS rfl ⟨_,rfl⟩ rfl (bN iH rfl rfl I3 (by decide) rfl rfl (aL aw rfl rfl rfl (by assumption) rfl ?_))))))))));refine aX rfl rfl ZB (vK (M:=M) VT) (fun r1 w1 h=>?_);obtain⟨os,ow,rfl,z1,z2,s1,hO1⟩:=h;obtain⟨M1,BY⟩:∃M1,M1=ins (ins M ow) os:=⟨_,rfl⟩;rw[←BY]at s1 hO1;have h1:=h.step s1 (fun h=>h) (fun h=>h);have hS1:=h1.s;have lbs:=ak hS;have lbw:=ak hW;refine ah rfl rfl (ab (aj (aj (ae (ad rfl rfl (bS rfl ⟨_,rfl⟩ rfl (bN iH rfl rfl Em (by decide) rfl rfl (aL eR rfl rfl rfl (by assumption) rfl (Rg.mu eR rfl rfl (ad rfl rfl (ab ?_)))))))))));refine aZ ?_;refine dn (σ:=Nat×List Nat) (fun s=>[(0,.pointer (some ⟨bs,0,none⟩)),(3,.pointer (some ⟨os,0,none⟩)),(15,.slice (some ⟨bw,0,none⟩) ws.length ws.length),(16,.int .i64 ws.length),(17,.int .i64 s.1)]) (fun s w=>s.1≤ws.length∧jI 133 190 n ws M1 w bs bw∧jI 133 190 n s.2 M1 w os ow∧(∀j,j<64*s.1→bit s.2 j= !bit ws j)∧(∀j,64*s.1≤j→bit s.2 j=false)∧Step M1 w1 M1 w (fun b=>b=ow)) (fun s=>ws.length-s.1) (0,List.replicate ((n+63)/64) 0) (.cons rfl (.cons rfl (.cons rfl (.cons rfl (.cons rfl .nil))))) ?_ ?_
 ·exact⟨bG _,h1,hO1,fun j hj=>by omega,fun j hj=>x7 _ _,(ax _ _).cG (fun _ h=>h.elim) (fun b hb=>by rw[hb];exact hO1.mw)⟩
 ·rintro⟨k,vs⟩ w2 ⟨hk,h2,BZ,wz,A7,S2⟩;dsimp only at hk BZ wz A7 ⊢;have hS2:=h2.s;have hOS:=BZ.s;have kn:=BZ.len;refine aj (ae (cf rfl rfl rfl (ab (aj ?_))));refine bP rfl (fun c3=>?_) (fun c3=>?_)
  ·refine aT (aj (aZ (aj (ae (ad rfl rfl (Rg.Kl eR y9 rfl rfl rfl (by omega) (aL su rfl rfl rfl h2.w (v:= .int .u64 ((ws.getD (k) 0:Nat):Int)) (by rw[show((k:Int)).toNat=k from by omega];exact mq (by omega)) (ah rfl rfl (ah rfl rfl (ab (ae ?_)))))))))));refine ad rfl rfl (bS rfl ⟨_,rfl⟩ rfl (bN iH rfl rfl Em (by decide) rfl rfl (aL eR rfl rfl rfl (by assumption) rfl (ad rfl rfl (ad rfl rfl (Rg.WW rfl rfl (hok.get _) (Rg.Kl eR y9 rfl rfl rfl (by omega) ?_)))))));refine cu (M:=M1) (u:= .int .u64 ((vs.getD k 0:Nat):Int)) y9 rfl rfl BZ.w (by rw[ay];exact mq (by omega)) rfl BZ.mw (fun w5 hW5 s5=>?_);rw[ay,x5]at hW5;refine ab (ae (bD rfl rfl rfl (by omega) (ad rfl rfl (ab ?_))));refine⟨rfl,(k+1,vs.set k (2^64-1-ws.getD k 0)),(.cons rfl (.cons rfl (.cons rfl (.cons rfl (.cons rfl .nil))))),?_,?_⟩
   ·refine⟨by simp only;omega,h2.step s5 (by omega) (by omega),BZ.put s5 (by simp) hW5 (BZ.ok.set (by omega)),fun j hj=>?_,fun j hj=>?_,S2.trans s5 (fun _ _ h=>h)⟩
    ·simp only at hj ⊢;rw[Bo _ (by omega)];by_cases hjk:j/64=k
     ·rw[if_pos hjk,Kq (hok.get _) (by omega)];unfold bit;rw[hjk]
     ·rw[if_neg hjk];exact wz j (by omega)
    ·simp only at hj ⊢;rw[Bo _ (by omega),if_neg (by omega)];exact A7 j (by omega)
   ·simp only;omega
  ·refine cL (aj (aj (ae (ad rfl rfl (bS rfl ⟨_,rfl⟩ rfl (bN iH rfl rfl I3 (by decide) rfl rfl (aL aw rfl rfl rfl (by assumption) rfl (Rg.zF rfl rfl rfl (by omega) (aV (v':= .int .i64 ((n%64:Nat):Int)) (congrArg _ (by omega)) (ah rfl rfl (ab ?_)))))))))));refine aj (ae (ad rfl rfl (jc rfl rfl rfl (ab ?_))));refine bP rfl (fun c8=>?_) (fun c8=>?_)
   ·have G2:=Nat.two_pow_pos (n%64);have hp3:2^(n%64)<2^64:=Nat.pow_lt_pow_right (by decide) (by omega);apply T.CD (M:=M1) mixed [] [cT.eq _,cT.eq _,cT.eq _,cT.eq (.slice (some ⟨ow,0,none⟩) vs.length vs.length),cT.eq _,cT.eq _,cT.eq _,cT.eq (.slice (some ⟨ow,0,none⟩) vs.length vs.length),cT.eq (.int .i64 vs.length),cT.eq (.int .i64 ((vs.length-1:Nat):Int)),cT.eq (.pointer (some ⟨ow,((vs.length-1:Nat):Int).toNat,none⟩)),cT.eq (.int .u64 ((vs.getD (vs.length-1) 0:Nat):Int)),cT.eq _,cT.eq (.int .u64 ((2^(n%64):Nat):Int)),cT.eq (.int .u64 ((2^(n%64)-1:Nat):Int)),cT.eq (.int .u64 (((vs.getD (vs.length-1) 0%2^(n%64)):Nat):Int)),cT.eq (.pointer (some ⟨ow,((vs.length-1:Nat):Int).toNat,none⟩))] 17
    ·rfl
    ·rfl
    ·rfl
    ·rfl
    ·rfl
    ·exact fun p hp=>by cases hp
    ·exact vX.none
    ·refine aG ?_ ?_
     ·intro wD E sD;refine ad rfl rfl ?_;exact ab ⟨rfl,rfl,_,rfl,rfl,ax _ _⟩
     refine aG ?_ ?_
     ·intro wD E sD;refine aP (bS rfl ⟨_,rfl⟩ rfl ?_);exact ab ⟨rfl,rfl,_,rfl,rfl,ax _ _⟩
     refine aG ?_ ?_
     ·intro wD E sD;refine aP (bN iH rfl rfl Em (by decide) rfl rfl ?_);exact ab ⟨rfl,rfl,_,rfl,rfl,ax _ _⟩
     refine aG ?_ ?_
     ·intro wD E sD;refine aP (aL eR rfl rfl rfl (cR sD (by assumption)) rfl ?_);exact ab ⟨rfl,rfl,_,rfl,rfl,ax _ _⟩
     refine aG ?_ ?_
     ·intro wD E sD;refine ad rfl rfl ?_;exact ab ⟨rfl,rfl,_,rfl,rfl,ax _ _⟩
     refine aG ?_ ?_
     ·intro wD E sD;refine aP (bS rfl ⟨_,rfl⟩ rfl ?_);exact ab ⟨rfl,rfl,_,rfl,rfl,ax _ _⟩
     refine aG ?_ ?_
     ·intro wD E sD;refine aP (bN iH rfl rfl Em (by decide) rfl rfl ?_);exact ab ⟨rfl,rfl,_,rfl,rfl,ax _ _⟩
     refine aG ?_ ?_
     ·intro wD E sD;refine aP (aL eR rfl rfl rfl (cR sD (by assumption)) rfl ?_);exact ab ⟨rfl,rfl,_,rfl,rfl,ax _ _⟩
     refine aG ?_ ?_
     ·intro wD E sD;refine aP (Rg.mu eR rfl rfl ?_);exact ab ⟨rfl,rfl,_,rfl,rfl,ax _ _⟩
     refine aG ?_ ?_
     ·intro wD E sD;refine aP (fq rfl rfl rfl (by omega) (aV (v':= .int .i64 ((vs.length-1:Nat):Int)) (congrArg _ (by omega)) ?_));exact ab ⟨rfl,rfl,_,rfl,rfl,ax _ _⟩
     refine aG ?_ ?_
     ·intro wD E sD;refine aP (aP (Rg.Kl eR y9 rfl rfl rfl (by omega) ?_));exact ab ⟨rfl,rfl,_,rfl,rfl,ax _ _⟩
     refine aG ?_ ?_
     ·intro wD E sD;refine aP (aL su rfl rfl rfl (sD.aK BZ.w) (v:= .int .u64 ((vs.getD (vs.length-1) 0:Nat):Int)) (by rw[ay];exact mq (by omega)) ?_);exact ab ⟨rfl,rfl,_,rfl,rfl,ax _ _⟩
     refine aG ?_ ?_
     ·intro wD E sD;refine ad rfl rfl ?_;exact ab ⟨rfl,rfl,_,rfl,rfl,ax _ _⟩
     refine aG ?_ ?_
     ·intro wD E sD;refine aP (Rg.shl rfl rfl rfl (by omega) (aV (v':= .int .u64 ((2^(n%64):Nat):Int)) (congrArg _ (ab0 _ (by omega))) ?_));exact ab ⟨rfl,rfl,_,rfl,rfl,ax _ _⟩
     refine aG ?_ ?_
     ·intro wD E sD;refine aP (Rg.R7 rfl rfl rfl (aV (v':= .int .u64 ((2^(n%64)-1:Nat):Int)) (congrArg _ (by rw[show((2^(n%64):Nat):Int)-1=((2^(n%64)-1:Nat):Int)from by omega,Bn,nK (by omega)])) ?_));exact ab ⟨rfl,rfl,_,rfl,rfl,ax _ _⟩
     refine aG ?_ ?_
     ·intro wD E sD;refine aP (aP (Rg.and rfl rfl rfl (aV (v':= .int .u64 (((vs.getD (vs.length-1) 0%2^(n%64)):Nat):Int)) (congrArg _ (by rw[Km _ _ (BZ.ok.get _) (by omega),Nat.and_two_pow_sub_one_eq_mod])) ?_)));exact ab ⟨rfl,rfl,_,rfl,rfl,ax _ _⟩
     refine aG ?_ ?_
     ·intro wD E sD;refine aP (aP (aP (aP (aP (aP (aP (aP (aP (aP (aP (aP ?_)))))))))));refine aP (aP (aP (aP (aP (aP (Rg.Kl eR y9 rfl rfl rfl (by omega) ?_))))));exact ab ⟨rfl,rfl,_,rfl,rfl,ax _ _⟩
     exact xo
    ·intro Ro DX;refine aP (aP (aP (aP (aP (aP (aP (aP (aP (aP (aP (aP ?_)))))))))));refine aP (aP (aP (aP (aP ?_))));refine cu (M:=M1) (u:= .int .u64 ((vs.getD (vs.length-1) 0:Nat):Int)) y9 rfl rfl (DX.aK BZ.w) (by rw[ay];exact mq (by omega)) rfl BZ.mw (fun w9 hW9 s9=>?_);rw[ay,x5]at hW9;refine ab (aj (ae (ad rfl rfl (ah rfl rfl (ab (aN ?_))))));have E9:k=ws.length:=by omega
     first
     |exact aU rfl rfl ⟨os,ow,vs.set (vs.length-1) (vs.getD (vs.length-1) 0%2^(n%64)),rfl,z1,z2,by rw[←BY];exact(s1.cg S2 (fun b hb=>by omega)).aB DX |>.cg s9 (fun b hb=>by omega),by rw[←BY];exact(BZ.step DX (fun h=>h) (fun h=>h)).put s9 (by simp) hW9 (BZ.ok.set (Nat.lt_of_le_of_lt (Nat.mod_le _ _) (BZ.ok.get _))),fun j=>A1 hlen kn (by omega) (by rw[←E9];exact wz) j⟩
     |exact aU rfl rfl ⟨os,ow,vs,rfl,z1,z2,by rw[←BY];exact s1.cg S2 (fun b hb=>by omega),by rw[←BY];exact BZ,fun j=>Eo hlen (by omega) (by rw[←E9];exact wz) (by rw[←E9];exact A7) j⟩
   ·refine aT (aj (ae (ad rfl rfl (ah rfl rfl (ab (aN ?_))))));have E9:k=ws.length:=by omega
    first
    |exact aU rfl rfl ⟨os,ow,vs.set (vs.length-1) (vs.getD (vs.length-1) 0%2^(n%64)),rfl,z1,z2,by rw[←BY];exact(s1.cg S2 (fun b hb=>by omega)).aB DX |>.cg s9 (fun b hb=>by omega),by rw[←BY];exact(BZ.step DX (fun h=>h) (fun h=>h)).put s9 (by simp) hW9 (BZ.ok.set (Nat.lt_of_le_of_lt (Nat.mod_le _ _) (BZ.ok.get _))),fun j=>A1 hlen kn (by omega) (by rw[←E9];exact wz) j⟩
    |exact aU rfl rfl ⟨os,ow,vs,rfl,z1,z2,by rw[←BY];exact s1.cg S2 (fun b hb=>by omega),by rw[←BY];exact BZ,fun j=>Eo hlen (by omega) (by rw[←E9];exact wz) (by rw[←E9];exact A7) j⟩
theorem Jf {M:aC} {w0:World} {n:Nat} (hn:n≤1099511627776):
  Spec Tryz.prog 23 #[.int .i64 n] w0 (fun v' w'=>∃os ow Jy M',v'= .pointer (some ⟨os,0,none⟩)∧w0.heap.size≤os∧w0.heap.size≤ow∧Step M w0 M' w' aD∧jI 133 190 n Jy M' w' os ow∧∀j,bit Jy j=decide (j<n)):=by
 refine bc (args:=[_]) (fn:=Tryz.f23) Tryz.func23 rfl (n:=6) Tryz.ntmps23 (aj (ae (ah rfl rfl (ab (aj (ae (ad rfl rfl ?_)))))));refine aX rfl rfl ZB (vK (M:=M) hn) (fun r1 w1 h=>?_);obtain⟨bs,bw,rfl,z1,z2,s1,h1⟩:=h;refine aX rfl rfl E67 (Je h1) (fun r2 w2 h=>?_);obtain⟨os,ow,Jy,rfl,z3,z4,s2,h2,hb⟩:=h;have y1:=s1.size;refine ah rfl rfl (ab (aN ?_));exact aU rfl rfl ⟨os,ow,Jy,_,rfl,by omega,by omega,s1.aB s2,h2,fun j=>by rw[hb j,x7];simp⟩
end Go.K
namespace Go.K
open Go.Proofs
namespace TKSet5
theorem agA:Enters Tryz.prog 103:=enters Tryz.func103 rfl (by decide)
theorem agB:Enters Tryz.prog 154:=enters Tryz.func154 rfl (by decide)
end TKSet5
open TKSet5
set_option maxRecDepth 10000
def low (ws:List Nat):Nat→List Int
 |0=>[]
 |p+1=>if bit ws p then low ws p++[(p:Int)]else low ws p
theorem HI (ws:List Nat):∀p,(low ws p).length≤p
 |0=>aR _
 |p+1=>by
  have:=HI ws p;unfold low;split
  ·simp;omega
  ·omega
theorem ur {ws:List Nat} {p:Nat}:∀{j:Nat},p≤j→(∀t,p≤t→t<j→bit ws t=false)→low ws j=low ws p
 |0,h,_=>by rw[show p=0 by omega]
 |j+1,h,j9=>by
  rcases lE h with e|h1
  ·rw[e]
  ·rw[low,j9 j (by omega) (by omega)];simp only[Bool.false_eq_true,if_false];exact ur (by omega) (fun t h1 h2=>j9 t h1 (by omega))
theorem B0 (ws:List Nat):∀p x,x∈low ws p↔∃t:Nat,x=(t:Int)∧t<p∧bit ws t=true
 |0,x=>by simp[low]
 |p+1,x=>by
  have ih:=B0 ws p x;unfold low;constructor
  ·intro h
   split at h
   ·rename_i hb
    rcases ck.1 h with h|h
    ·obtain⟨t,h1,h2,h3⟩:=ih.1 h;exact⟨t,h1,by omega,h3⟩
    ·rw[bE.1 h];exact⟨p,rfl,by omega,hb⟩
   ·obtain⟨t,h1,h2,h3⟩:=ih.1 h;exact⟨t,h1,by omega,h3⟩
  ·rintro⟨t,h1,h2,h3⟩;rcases cJ t p with h|h
   ·have:=ih.2 ⟨t,h1,h,h3⟩
    split
    ·exact ck.2 (.inl this)
    ·exact this
   ·have:t=p:=by omega
    subst this;rw[if_pos h3];exact ck.2 (.inr (by rw[h1];exact bE.2 rfl))
theorem HJ:BV (RT.int .i64):=fun _ _ _ _ _ _ h=>h
structure JJ (n:Nat) (ws:List Nat) (bs bw bl:Nat) (M:aC) (w:World):Prop where
 f: ¬M bl∧¬M bs∧¬M bw∧¬M 1
 l:w.heap[bl]? =some (.cells #[.pointer (some ⟨bs,0,none⟩)] 47 (0,0))
 s:jI 133 190 n ws (fun _=>True) w bs bw
 t:∃e fr,w.heap[1]? =some (.cells (Fj.map fun(k:Nat)=>Value.int .u8 (k:Int)).toArray e fr)
theorem JJ.keeps {n:Nat} {ws:List Nat} {bs bw bl:Nat} {M M':aC} {w w':World} (h:JJ n ws bs bw bl M w) (l:Le M w M' w'):JJ n ws bs bw bl M' w':=by
 obtain⟨⟨f1,f2,f3,f4⟩,hl,hs,e,fr,ht⟩:=h;have a1:=l bl (ak hl) f1;have a2:=l bs (ak hs.s) f2;have a3:=l bw (ak hs.w) f3;have a4:=l 1 (ak ht) f4;exact⟨⟨a1.1,a2.1,a3.1,a4.1⟩,a1.2.trans hl,⟨trivial,trivial,hs.ne,a2.2.trans hs.s,a3.2.trans hs.w,hs.len,hs.ok,hs.nn⟩,e,fr,a4.2.trans ht⟩
theorem GD {M:aC} {w0:World} {n:Nat} {ws:List Nat} {bs bw:Nat} (hM:Lt M w0) (h:jI 133 190 n ws (fun _=>True) w0 bs bw) (hb:∀j,bit ws j=true→j<n) (hf: ¬M bs∧¬M bw∧¬M 1) (BX:∃e fr,w0.heap[1]? =some (.cells (Fj.map fun(k:Nat)=>Value.int .u8 (k:Int)).toArray e fr)):
  Spec Tryz.prog 57 #[.pointer (some ⟨bs,0,none⟩)] w0 (fun v w=>∃M',Own (RT.int .i64) 3 M' w w0.heap.size v (low ws n)∧Step M w0 M' w aD):=by
 have lC:=hM;refine qm (args:=[_]) (fn:=Tryz.f57) Tryz.func57 rfl (n:=13) Tryz.ntmps57 ?_;have S:Step M w0 M w0 aD:=(ax _ _).cG (fun _ h=>h.elim) (fun _ h=>h.elim);refine aj (ae (ah rfl rfl (ab (aj (ae ?_)))));refine ey M kG rfl (fun mB C3 Tg Ti jT nz=>?_);obtain⟨lp,mC⟩:∃M',M'=ins M mB:=⟨_,rfl⟩;rw[←mC]at nz;have iK:lp mB:=by rw[mC];exact .inl rfl
 change C3.heap[mB]? =some (.cells #[.slice none 0 0] _ _)at jT;replace hM:=nz.lt hM;have:=S.size;replace S:=S.aB nz;refine ab (aj (aj (ae (ad rfl rfl ?_))));refine aX rfl rfl agA (Jd (bs:=bs) hM) (fun r2 w2 hc=>?_);obtain⟨bl,rfl,gl,k5,s2⟩:=hc;have fl: ¬lp bl:=fun h=>by have:=hM _ h;omega
 have hk:JJ n ws bs bw bl lp w2:=by
  obtain⟨e,fr,ht⟩:=BX;have q:=S.aB s2;exact⟨⟨fl,fun hn=>hf.1 ((q.mem _ (ak h.s)).1 hn),fun hn=>hf.2.1 ((q.mem _ (ak h.w)).1 hn),fun hn=>hf.2.2 ((q.mem _ (ak ht)).1 hn)⟩,gl,⟨trivial,trivial,h.ne,q.aK h.s,q.aK h.w,h.len,h.ok,h.nn⟩,e,fr,q.aK ht⟩
 have:=ak jT;replace iK:=(s2.mem _ this).2 iK;replace jT:=s2.aK jT;replace hM:=s2.lt hM;have:=S.size;replace S:=S.aB s2;refine ab (aZ ?_);refine T.range (gf:=154) (lb:=[.pointer (some ⟨bl,0,none⟩)].toArray) rfl agB (fun rec pS=>?_);obtain⟨D,hD⟩:∃D,D=w2.heap.size:=⟨_,rfl⟩;obtain⟨Mr,h0⟩:=af7 (A:=RT.int .i64) (e:=3) (T:=37) (C:=284) (K:=JJ n ws bs bw bl) (st:=rec .ready none) JJ.keeps hM S jT iK hk (by omega);rw[←hD]at pS h0 ⊢;refine Spec.mono (GC (M:=fun _=>True) (J:=fun p Ma w=>Ma=(fun _=>True)∧∃M' vo,MR (RT.int .i64) 3 37 284 (JJ n ws bs bw bl) M w0 mB D (rec .ready none) vo (low ws p) M' w) (Jx:=fun _=>False) hb (fun p Ma w ⟨e,M',vo,h⟩=>by subst e;exact⟨h.k.l,h.k.s,h.k.t⟩) (fun p j Ma wr hJ WD Zz j9=>?_) ⟨rfl,Mr,_,h0⟩) (fun _ w3 h3=>?_)
 ·obtain⟨_,M',vo,h⟩:=hJ;have Jw:=hb j Zz;have VT:=h.k.s.nn;have HU:=HI ws p;refine nV (ps:=[7]) (vs:=[.int .i64 (j:Int)]) pS h.r rfl (by decide) (ae (ah rfl rfl (ab ?_)));refine⟨rfl,h.r,?_⟩;have h4:=h.pb JJ.keeps (st':=rec .busy none);have s4:Step M' wr M' (wr.putObj (D+1) (.loop (rec .busy none))) (fun k=>k=D+1):=eu h.mr;generalize wr.putObj (D+1) _=w4 at h4 s4 ⊢;refine aZ (ae (aL ao rfl rfl rfl h4.o rfl (aV (v':=vo) rfl (ad rfl rfl ?_))));refine dQ (A:=RT.int .i64) (hn:=by decide) (M:=M') ao I3 (by decide) rfl rfl h4.lt (xG.2 ⟨rfl,by show-9223372036854775808≤(j:Int)∧(j:Int)≤9223372036854775807;omega⟩) (.inr ⟨rfl,rfl⟩) (fun u5 w5 zL s5=>?_);have h6:=h4.aM JJ.keeps s5;refine cX (M:=M') (base:=w0.heap.size) ao I3 rfl rfl rfl rfl h6.own zL (aq _ _) (by simp;omega) (by simp;omega) h6.S.size (fun v6 M6 w6 tW s6=>?_);obtain⟨⟨go6,mo6⟩,Jv⟩:=h6.grow JJ.keeps (by decide) s6 tW;refine cu (M:=M6) kG rfl rfl go6 rfl (by obtain⟨_,_,he,_⟩:=tW.isSlice;rw[he];rfl) mo6 (fun w7 g7 s7=>?_);refine ab ?_;have h8:=(Jv s7 g7).pb JJ.keeps (st':=rec .ready none);exact⟨(Jv s7 g7).r,true,rfl,fun _=>⟨_,rfl,M6,v6,by rw[low,if_pos Zz,ur WD j9];exact h8⟩,fun h=>by cases h⟩
 ·obtain⟨p,_,⟨_,M',vo,h⟩,qi⟩:=h3.resolve_right id;left;refine⟨h.r,?_⟩;have h5:=h.pb JJ.keeps (st':=rec .exhausted none);generalize w3.putObj (D+1) _=wE at h5 ⊢;refine aj (ae (aL ao rfl rfl rfl h5.o rfl (aV (v':=vo) rfl (ah rfl rfl (ab (aN ?_))))));have sE:Step M' wE M' (wE.putObj D (.deferred none)) (fun k=>k=D):=eu h5.md;have hz:=h5.z;have hS:=h5.S.cg sE (fun k (hk:k=D)=>by omega)
  have ho:=h5.own.step sE (fun b hb (hn:b=D)=>by
   obtain⟨cs,hc⟩:=h5.own.isCells hb;rw[hn,h5.d]at hc;cases hc)
  have e:low ws n=low ws p:=by
   rcases Nat.le_total p n with h1|h1
   ·exact ur h1 (fun t h2 _=>qi t h2)
   ·exact(ur h1 (fun t h2 _=>by
     cases PB:bit ws t with
     |false=>rfl
     |true=>have:=hb t PB;omega)).symm
  exact Bh rfl rfl h5.d ⟨M',by rw[e];exact ho,hS⟩
end Go.K
namespace Go.K
open Go.Proofs
namespace TKMay11
theorem Cr:TI Tryz.prog 25 (.pointer none) 1 8:=by unfold TI;kernel_rfl
theorem Jg:TI Tryz.prog 47 (.pointer none) 1 8:=by unfold TI;kernel_rfl
theorem E34:Enters Tryz.prog 34:=enters Tryz.func34 rfl (by decide)
theorem agC:Enters Tryz.prog 102:=enters Tryz.func102 rfl (by decide)
end TKMay11
open TKMay11
set_option maxRecDepth 10000
def GF (M:aC) (w:World) (n:Nat) (ws:List Nat) (bs:Nat):Prop:=∃bw,jI 133 190 n ws (fun _=>True) w bs bw∧¬M bs∧¬M bw
theorem GF.le {M M':aC} {w w':World} {n:Nat} {ws:List Nat} {bs:Nat} (hl:Le M w M' w') (h:GF M w n ws bs):GF M' w' n ws bs:=by
 obtain⟨bw,h1,h2,h3⟩:=h;obtain⟨a1,a2⟩:=hl bs (ak h1.s) h2;obtain⟨b1,b2⟩:=hl bw (ak h1.w) h3;exact⟨bw,⟨trivial,trivial,h1.ne,a2.trans h1.s,b2.trans h1.w,h1.len,h1.ok,h1.nn⟩,a1,b1⟩
theorem GF.all {M:aC} {w:World} {n:Nat} {ws:List Nat} {bs:Nat} (h:GF M w n ws bs):∃bw,jI 133 190 n ws (fun _=>True) w bs bw:=by
 obtain⟨bw,h1,_⟩:=h;exact⟨bw,h1⟩
def uu (M:aC) (w:World) (a:List Bool) (bs:Nat):Prop:=∃ws,GF M w a.length ws bs∧∀j,bit ws j=true↔a[j]? =some true
theorem uu.le {M M':aC} {w w':World} {a:List Bool} {bs:Nat} (hl:Le M w M' w') (h:uu M w a bs):uu M' w' a bs:=by
 obtain⟨ws,h1,h2⟩:=h;exact⟨ws,h1.le hl,h2⟩
theorem xC (ws:List Nat):∀p,(low ws p).Pairwise (· < ·)
 |0=>List.Pairwise.nil
 |p+1=>by
  unfold low
  split
  ·refine nt.2 ⟨xC ws p,by simp,fun a ha b hb=>?_⟩;obtain⟨t,rfl,ht,_⟩:=(B0 ws p a).1 ha;rw[bE.1 hb];omega
  ·exact xC ws p
theorem GG {ws:List Nat} {a:List Bool} (h:∀j,bit ws j=true↔a[j]? =some true):low ws a.length=gv a:=by
 refine tZ (R:=fun a b=>a<b) (fun a b h1 h2=>by omega) (xC _ _) (uq _) ((xC _ _).imp fun h e=>by omega) ((uq _).imp fun h e=>by omega) fun x=> ?_
 rw[B0,kV];constructor
 ·rintro⟨t,rfl,_,h2⟩;exact⟨t,rfl,(h t).1 h2⟩
 ·rintro⟨t,rfl,h2⟩;exact⟨t,rfl,(an.1 h2).1,(h t).2 h2⟩
theorem Ep {M:aC} {w0:World} {a:List Bool} {bs:Nat} (hM:Lt M w0) (h:uu M w0 a bs) (h0: ¬M 1) (BX:∃e fr,w0.heap[1]? =some (.cells (Fj.map fun(k:Nat)=>Value.int .u8 (k:Int)).toArray e fr)):Spec Tryz.prog 57 #[.pointer (some ⟨bs,0,none⟩)] w0 (fun v w=>((RT.int .i64).sl).V M w (gv a) v∧Step M w0 M w aD):=by
 obtain⟨ws,⟨bw,h1,h2,h3⟩,h4⟩:=h;refine(GD hM h1 (fun j hj=>(an.1 ((h4 j).1 hj)).1) ⟨h2,h3,h0⟩ BX).mono fun v w ⟨M',ho,s⟩=>?_
 rw[GG h4]at ho;exact ho.Gv HJ s (aR _) hM (by have:=vH a;have:=h1.nn;omega)
theorem zd {M:aC} {ss:List Se} {bs ns:List Nat} {v0 v1:Value} (w0:World) (hs:(((RT.se).ptr).sl).V M w0 ss v0) (hb:(RT.CS.sl).V M w0 bs v1) (hl:bs.length=ss.length) (hn:ns.length=ss.length) (dr:∀(i b n:Nat),bs[i]? =some b→ns[i]? =some n→∃ws,GF M w0 n ws b):
  Spec Tryz.prog 56 #[v0,v1] w0 (fun v w=>v= .bool (decide (ss.map (fun s=>s.1.length)=ns))∧w=w0):=by
 have hlen:=ep hs;refine bc (args:=[_,_]) (fn:=Tryz.f56) Tryz.func56 rfl (n:=39) Tryz.ntmps56 (aj (ae (ah rfl rfl (ab (aj (aj (ae (ad rfl rfl (bJ cA rfl hs rfl (ad rfl rfl (bJ fv rfl hb rfl ?_)))))))))));refine fp rfl rfl rfl (ab (T.tx rfl ((fun h=>h (by rw[hl]))) (aT (aj (aj (ae (ad rfl rfl (bJ cA rfl hs rfl (ad rfl rfl (ab (aZ ?_)))))))))));refine dn (σ:=Nat) (fun i=>[(1,v1),(12,v0),(13,.int .i64 (ss.length:Int)),(14,.int .i64 (i:Int))]) (fun i w=>i≤ss.length∧(∀(j:Nat),j<i→∀(s:Se) (n:Nat),ss[j]? =some s→ns[j]? =some n→s.1.length=n)∧w=w0) (fun i=>ss.length-i) 0 (.cons rfl (.cons rfl (.cons rfl (.cons rfl .nil)))) ?_ ?_
 ·exact⟨bG _,(fun j h=>by omega),rfl⟩
 ·rintro i w ⟨hi,l7,rfl⟩;refine aj (ae (cf rfl rfl rfl (ab (aj ?_))));refine bP rfl (fun c4=>?_) (fun c4=>?_)
  ·refine aT (aj (aZ (aj (ae (ad rfl rfl ?_)))));obtain⟨s,Iw⟩:∃s,ss[i]? =some s:=⟨_,au (by omega)⟩;refine cF (M:=M) cA Cr rfl rfl rfl hs (aq _ _) (by omega) (fun u5 x_ l2 zL=>?_);rw[ay]at l2;obtain rfl:=aJ (Iw.symm.trans l2);refine bV (M:=M) fu rfl rfl rfl rfl rfl zL (aq _ _) (fun v5 oF=>?_);have U3:=j0.1 oF;obtain⟨a5,rfl⟩:=U3.iC;refine ah rfl rfl (ah rfl rfl (ab (aj (ae (ad rfl rfl (Rg.CK fu rfl ⟨_,rfl⟩ rfl rfl (ad rfl rfl (al rfl rfl (ad rfl rfl (al rfl rfl (ad rfl rfl ?_)))))))))));refine al rfl rfl ?_;obtain⟨b,QK⟩:∃b,bs[i]? =some b:=⟨_,au (by omega)⟩;refine cF (M:=M) fv Jg rfl rfl rfl hb (aq _ _) (by omega) (fun u6 x_ l2 Fz=>?_);rw[ay]at l2;obtain rfl:=aJ (QK.symm.trans l2);refine al rfl rfl ?_;refine bV (M:=M) nQ rfl rfl rfl rfl rfl Fz (aq _ _) (fun vb Yp=>?_);obtain rfl:=tM.1 Yp;refine al rfl rfl (Rg.CK nQ rfl ⟨_,rfl⟩ rfl rfl (aE rfl rfl rfl (ad rfl rfl (al rfl rfl (ad rfl rfl (al rfl rfl (ad rfl rfl (al rfl rfl ?_))))))));refine cF (M:=M) fv Jg rfl rfl rfl hb (aq _ _) (by omega) (fun apW x_ l2 ZC=>?_);rw[ay]at l2;obtain rfl:=aJ (QK.symm.trans l2);refine al rfl rfl ?_;refine bV (M:=M) nQ rfl rfl rfl rfl rfl ZC (aq _ _) (fun vb2 agD=>?_);obtain rfl:=tM.1 agD;refine al rfl rfl ?_;obtain⟨nn,QA⟩:∃n,ns[i]? =some n:=⟨_,au (by omega)⟩;obtain⟨ws,Qv⟩:=dr i b nn QK QA;obtain⟨bw,hsa⟩:=Qv.all;refine aX rfl rfl agC (Jc hsa) (fun r6 w6 hc=>?_);obtain⟨rfl,rfl⟩:=hc;refine al rfl rfl (ad rfl rfl (al rfl rfl ?_));refine aX rfl rfl E34 (AV _ U3) (fun r7 w7 hc=>?_)
   obtain⟨rfl,rfl⟩:=hc;refine al rfl rfl (fp rfl rfl rfl (aE rfl rfl rfl (ab ?_)));refine bP rfl (fun c6=>?_) (fun c6=>?_)
   ·refine aj (ae (ah rfl rfl (ab (aN ?_))))
    exact aU rfl rfl ⟨congrArg Value.bool (dC (decide_eq_false fun h=>c6 (by
     have h1:=congrArg (·[i]?) h;rw[bB,Iw,QA]at h1;have h9:s.1.length=nn:=aJ h1;omega))),rfl⟩
   ·refine aT (ae (bD rfl rfl rfl (by omega) (ad rfl rfl (ab ?_))));refine⟨rfl,i+1,(.cons rfl (.cons rfl (.cons rfl (.cons rfl .nil)))),?_,?_⟩
    ·refine⟨by omega,fun j hj s' n' h1 h2=>?_,rfl⟩;rcases cJ j i with h|h
     ·exact l7 j h s' n' h1 h2
     ·obtain rfl:j=i:=by omega
      rw[Iw]at h1;rw[QA]at h2;cases h1;cases h2;omega
    ·omega
  ·refine cL (aj (ae (ah rfl rfl (ab (aN ?_)))))
   exact aU rfl rfl ⟨congrArg Value.bool (dC (decide_eq_true (by
    apply fe;intro j;rw[bB];rcases cJ j ss.length with h|h
    ·obtain⟨s,hs⟩:∃s,ss[j]? =some s:=⟨_,au h⟩;obtain⟨n,Ix⟩:∃n,ns[j]? =some n:=⟨_,au (by omega)⟩;rw[hs,Ix,cV,l7 j (by omega) s n hs Ix]
    ·rw[dS h,dS (by omega)];rfl))),rfl⟩
end Go.K
namespace Go.K
open Go.Proofs
set_option maxRecDepth 10000
theorem PX {M:aC} {w:World} {x:Po} {v:Value} (h:RT.po.V M w x v):∃u,v= .agg #[.int .i64 x.1,u]∧((RT.int .i64).sl).V M w x.2 u∧(-9223372036854775808≤x.1∧x.1≤9223372036854775807):=by
 obtain⟨vs,⟨va,vb,rfl,⟨rfl,hk⟩,hb⟩,rfl⟩:=h;obtain⟨a,cap,rfl,h2⟩:=hb;exact⟨.slice a x.2.length cap,rfl,⟨_,⟨a,cap,rfl,h2⟩,rfl⟩,hk⟩
theorem ZD {M:aC} {w:World} {x:Int} {ps:List Int} {u:Value} (hx: -9223372036854775808≤x∧x≤9223372036854775807) (hu:((RT.int .i64).sl).V M w ps u):RT.po.V M w (x,ps) (.agg #[.int .i64 x,u]):=eV (gm hx) hu rfl rfl rfl rfl
theorem GH {M:aC} {l:List Po} {to:List Int} {v0 v1:Value} (w0:World) (hM:Lt M w0) (hv:(RT.po.sl).V M w0 l v0) (ht:((RT.int .i64).sl).V M w0 to v1) (hl:l.length≤1000000) (kq:∀p∈l,0≤p.1∧p.1<to.length):
  Spec Tryz.prog 63 #[v0,v1] w0 (fun v w=>∃M',Own RT.po 83 M' w w0.heap.size v (kW to l)∧Lt M' w∧Step M w0 M' w aD):=by
 have lC:=hM;refine bc (args:=[_,_]) (fn:=Tryz.f63) Tryz.func63 rfl (n:=33) Tryz.ntmps63 ?_;have S:Step M w0 M w0 aD:=(ax _ _).cG (fun _ h=>h.elim) (fun _ h=>h.elim);refine aj (ae (ah rfl rfl (ab (aj (ae (ah rfl rfl (ab (aj (aj (ae (ad rfl rfl ?_)))))))))));refine bJ bF rfl hv rfl (ad rfl rfl (ab (aZ ?_)));refine dn (σ:=Nat×Value) (fun q=>[(1,v1),(5,q.2),(8,v0),(9,.int .i64 (l.length:Int)),(10,.int .i64 (q.1:Int))]) (fun q w=>q.1≤l.length∧∃M1,Lt M1 w∧(RT.po.sl).V M1 w l v0∧((RT.int .i64).sl).V M1 w to v1∧Own RT.po 83 M1 w w0.heap.size q.2 (kW to (l.take q.1))∧Step M w0 M1 w aD) (fun q=>l.length-q.1) (0,.slice none 0 0) (.cons rfl (.cons rfl (.cons rfl (.cons rfl (.cons rfl .nil))))) ?_ ?_
 ·exact⟨bG _,_,hM,hv,ht,dE _ _ _ _ _,S⟩
 ·clear hM hv ht S;rintro⟨i,u⟩ w ⟨hi,M1,hM,hv,ht,ho,S⟩;dsimp only at hi ho ⊢;have sC:=fun b hb=>(ho.base b hb).2
  refine aj (ae (cf rfl rfl rfl (ab (aj ?_))));refine bP rfl (fun c3=>?_) (fun c3=>?_)
  ·refine aT (aj (aZ (aj (ae ?_))));obtain⟨p,hk⟩:∃p,l[i]? =some p:=⟨_,au (by omega)⟩;obtain⟨hp0,tu⟩:=kq p (aA hk);have QT:l.take (i+1)=l.take i++[p]:=by rw[cb,hk];rfl
   have qh:=ti to (l.take i);have apY:(l.take i).length=i:=by rw[bC];omega
   refine cF (M:=M1) bF o0 rfl rfl rfl hv (aq _ _) (by omega) (fun u40 y ZE agE=>?_);rw[ay]at ZE;obtain rfl:=aJ (hk.symm.trans ZE);refine de (M:=M1) (A:=RT.po) bW rfl o0 (by decide) rfl rfl rfl agE (aq _ _) (fun v41 xk=>?_);obtain⟨ux,rfl,EV,hpr⟩:=PX xk;obtain⟨ua,uc,rfl,_,_,_⟩:=iP.1 EV;refine ey M1 o0 rfl (fun PY OR apZ ap0 lS mz=>?_);obtain⟨uv,Nh⟩:∃M',M'=ins M1 PY:=⟨_,rfl⟩;rw[←Nh]at mz;have nD:uv PY:=by rw[Nh];exact .inl rfl
   change OR.heap[PY]? =some (.cells #[.int .i64 0,.slice none 0 0] _ _)at lS;replace hv:=hv.le mz.le;replace ht:=ht.le mz.le;replace xk:=xk.le mz.le;replace EV:=EV.le mz.le;replace ho:=ho.aM mz;replace hM:=mz.lt hM;have:=S.size;replace S:=S.aB mz;refine ez (M:=uv) (vs:=[.int .i64 p.1,.slice ua p.2.length uc]) o0 rfl rfl (BL rfl xk) rfl rfl lS nD (fun w43 g43 PZ=>?_);have:=ak lS;replace nD:=(PZ.mem _ this).2 nD;replace hv:=hv.le PZ.le;replace ht:=ht.le PZ.le;replace xk:=xk.le PZ.le;replace EV:=EV.le PZ.le;replace ho:=ho.step PZ (fun b hb hk=>by have hk:b=PY:=hk;have:=sC b hb;omega);replace hM:=PZ.lt hM;have:=S.size;replace S:=S.trans PZ (fun k hk h=>by have h:_=_:=h;subst h;first|(exfalso;omega)|(show _≤_;omega)|exact⟨by first|omega|assumption,(S.mem _ hk).1 ((PZ.mem _ (ak lS)).1 nD)⟩|exact .inl rfl|exact .inr rfl|exact .inr (.inl rfl)|exact .inr (.inr rfl)|exact .inr (.inr (.inl rfl))|exact rfl);have RD:=g43;clear lS;have lS:=RD;clear RD;refine ab (aj (ae (ad rfl rfl (bN (o':=0) bW rfl rfl I3 (by decide) rfl rfl (aL aw rfl rfl rfl lS rfl (aV (v':= .int .i64 p.1) rfl ?_))))));refine cF (M:=uv) ao I3 rfl rfl rfl ht (aq _ _) (by omega) (fun u53 x53 agF agG=>?_);refine bV (M:=uv) aw rfl rfl rfl rfl rfl agG (aq _ _) (fun v53 agH=>?_);obtain⟨rfl,ap3⟩:=xG.1 agH;obtain rfl:to.getD p.1.toNat 0=x53:=by rw[az,agF];rfl
   refine dT rfl rfl rfl (ab ?_);refine bP rfl (fun c5=>?_) (fun c5=>?_)
   ·apply T.ql 9 [0] 1 aD mixed rfl rfl rfl rfl;intro wD6 sA6;have GI:=sA6 uv;have:=ak lS;replace nD:=(GI.mem _ this).2 nD;replace lS:=GI.aK lS;replace hv:=hv.le GI.le;replace ht:=ht.le GI.le;replace xk:=xk.le GI.le;replace EV:=EV.le GI.le;replace ho:=ho.aM GI;replace hM:=GI.lt hM;have:=S.size;replace S:=S.aB GI;refine ad rfl rfl ?_;refine ab ⟨rfl,rfl,rfl,?_⟩;refine ad rfl rfl ?_;refine ab ⟨rfl,rfl,rfl,?_⟩;refine bN (o':=0) bW rfl rfl I3 (by decide) rfl rfl ?_;refine ab ⟨rfl,rfl,rfl,?_⟩;refine aL aw rfl rfl rfl lS rfl (aV (v':= .int .i64 p.1) rfl ?_);refine ab ⟨rfl,rfl,rfl,?_⟩;refine cF (M:=uv) ao I3 rfl rfl rfl ht (aq _ _) (by omega) (fun u64 x64 agJ agK=>?_);refine ab ⟨rfl,rfl,rfl,?_⟩;refine bV (M:=uv) aw rfl rfl rfl rfl rfl agK (aq _ _) (fun v64 agL=>?_);obtain⟨rfl,agM⟩:=xG.1 agL;obtain rfl:to.getD p.1.toNat 0=x64:=by rw[az,agJ];rfl
    refine ab ⟨rfl,rfl,rfl,?_⟩;refine bN (o':=1) bW rfl rfl kG (by decide) rfl rfl ?_;refine ab ⟨rfl,rfl,rfl,?_⟩;refine aL ao rfl rfl rfl lS rfl (aV (v':= .slice ua p.2.length uc) rfl ?_);refine ab ⟨rfl,rfl,rfl,?_⟩;refine iW (places:=[(0,1),(1,1)]) bW o0 W0 rfl ⟨_,_,rfl,rfl,_,_,rfl,rfl,rfl⟩ (out:=[_,_]) ⟨0,[_],rfl,rfl,by simp[Value.cells],1,[_],rfl,rfl,by simp[Value.cells],rfl⟩ ?_;refine ab ⟨rfl,rfl,rfl,?_⟩;refine ff ?_;refine⟨jd ⟨gR,trivial⟩,?_⟩;have kp:=kd aD wD6;refine dQ (A:=RT.po) (hn:=by decide) (M:=uv) bF o0 (by decide) rfl rfl hM (ZD (ps:=p.2) agM EV) (.inl rfl) (fun ap5 ap6 Ni B1=>?_);have:=ak lS;replace nD:=(B1.mem _ this).2 nD;replace lS:=B1.aK lS;replace hv:=hv.le B1.le;replace ht:=ht.le B1.le;replace xk:=xk.le B1.le;replace EV:=EV.le B1.le;replace ho:=ho.aM B1;replace hM:=B1.lt hM;have:=S.size;replace S:=S.aB B1;refine(fun(kp:eO _ _ _)=>ab ⟨rfl,rfl,fun _=>kp,?_⟩) (by first|exact kp|exact kp.sG (by assumption)|exact kp.goN (by assumption)|exact kp.go (by assumption) (fun _ _ h=>by first|exact h|exact h.elim));refine cX (M:=uv) (base:=w0.heap.size) bF o0 rfl rfl rfl rfl ho Ni (aq _ _) (by show _+1≤_;omega) (by show(_+1)*_≤_;omega) (S.size) (fun ZF akJ akK U4 uw=>?_);have:=ak lS;replace nD:=(uw.mem _ this).2 nD;replace lS:=uw.keep lS (fun h=>by have:=sC _ h;omega);replace hv:=hv.le uw.le;replace ht:=ht.le uw.le;replace xk:=xk.le uw.le;replace EV:=EV.le uw.le;replace Ni:=Ni.le uw.le;replace hM:=uw.lt hM;have:=S.size;replace S:=S.dm uw ho (aR _);replace ho:=U4;refine ab ⟨rfl,rfl,fun h=>absurd rfl h,?_⟩;refine ah rfl rfl ?_;refine ab ⟨rfl,rfl,fun h=>absurd rfl h,?_⟩;refine nN (ae (bD rfl rfl rfl (by omega) (ad rfl rfl (ab ?_))))
    refine⟨rfl,(i+1,ZF),(.cons rfl (.cons rfl (.cons rfl (.cons rfl (.cons rfl .nil))))),?_,?_⟩
    ·exact⟨by dsimp only;omega,_,hM,hv,ht,by dsimp only;rw[QT,y6,if_pos c5];exact ho,S⟩
    ·dsimp only;omega
   ·refine aT (ae (bD rfl rfl rfl (by omega) (ad rfl rfl (ab ?_))));refine⟨rfl,(i+1,u),(.cons rfl (.cons rfl (.cons rfl (.cons rfl (.cons rfl .nil))))),?_,?_⟩
    ·exact⟨by dsimp only;omega,_,hM,hv,ht,by dsimp only;rw[QT,y6,if_neg c5];exact ho,S⟩
    ·dsimp only;omega
  ·refine cL (aj (ae (ad rfl rfl (ah rfl rfl (ab (aN ?_))))));rw[br (by omega)]at ho;exact aU rfl rfl ⟨_,ho,hM,S⟩
end Go.K
namespace Go.Proofs
open Go.Shelf
def Tryz.GK:Go.Shelf.Ren:=⟨fun|6=>64|15=>115|14=>114|28=>172|29=>173|20=>164|21=>165|22=>166|23=>167|24=>168|25=>169|26=>170|27=>171|46=>217|47=>218|48=>219|49=>220|50=>221|57=>262|n=>n,fun|22=>80|24=>83|25=>129|3=>3|39=>189|0=>0|53=>257|55=>190|4=>4|46=>251|45=>250|50=>202|5=>5|9=>9|66=>296|70=>300|76=>327|77=>328|n=>n,fun|n=>n⟩
theorem Tryz.U5:Go.Proofs.SlLaysF0.n6 Tryz.prog Tryz.GK:={
 mixed:=by kernel_rfl
 f6:=⟨Tryz.f64.name,by decide,Tryz.func64.trans (congrArg some (by kernel_rfl))⟩
 f14:=⟨Tryz.f114.name,by decide,Tryz.func114.trans (congrArg some (by kernel_rfl))⟩
 f15:=Tryz.func115.trans (congrArg some (by kernel_rfl))
 f20:=⟨Tryz.f164.name,by decide,Tryz.func164.trans (congrArg some (by kernel_rfl))⟩
 f21:=⟨Tryz.f165.name,by decide,Tryz.func165.trans (congrArg some (by kernel_rfl))⟩
 f22:=⟨Tryz.f166.name,by decide,Tryz.func166.trans (congrArg some (by kernel_rfl))⟩
 f23:=⟨Tryz.f167.name,by decide,Tryz.func167.trans (congrArg some (by kernel_rfl))⟩
 f24:=⟨Tryz.f168.name,by decide,Tryz.func168.trans (congrArg some (by kernel_rfl))⟩
 f25:=⟨Tryz.f169.name,by decide,Tryz.func169.trans (congrArg some (by kernel_rfl))⟩
 f26:=⟨Tryz.f170.name,by decide,Tryz.func170.trans (congrArg some (by kernel_rfl))⟩
 f27:=⟨Tryz.f171.name,by decide,Tryz.func171.trans (congrArg some (by kernel_rfl))⟩
 f28:=Tryz.func172.trans (congrArg some (by kernel_rfl))
 f29:=Tryz.func173.trans (congrArg some (by kernel_rfl))
 f46:=⟨Tryz.f217.name,by decide,Tryz.func217.trans (congrArg some (by kernel_rfl))⟩
 f47:=Tryz.func218.trans (congrArg some (by kernel_rfl))
 f48:=Tryz.func219.trans (congrArg some (by kernel_rfl))
 f49:=⟨Tryz.f220.name,by decide,Tryz.func220.trans (congrArg some (by kernel_rfl))⟩
 f50:=⟨Tryz.f221.name,by decide,Tryz.func221.trans (congrArg some (by kernel_rfl))⟩
 f57:=⟨Tryz.f262.name,by decide,Tryz.func262.trans (congrArg some (by kernel_rfl))⟩
 t0:=fJ
 a0:=lJ
 z0:=j6
 v0:=gI
 t3:=aw
 a3:=lK
 z3:=j7
 v3:=gJ
 t4:=iN
 a4:=rI
 z4:=nL
 v4:=jw
 t5:=cx
 a5:=Tryz.isAgg5
 z5:=Tryz.sizeOf5
 v5:=tw
 t9:=aH
 a9:=lL
 z9:=j8
 v9:=gK
 t22:=bF
 a22:=Tryz.isAgg80
 z22:=Tryz.sizeOf80
 v22:=Tryz.zeroValue80
 t25:=Tryz.underlying129
 a25:=Tryz.isAgg129
 z25:=Tryz.sizeOf129
 v25:=Tryz.zeroValue129
 t39:=jO
 a39:=Tryz.isAgg189
 z39:=Tryz.sizeOf189
 v39:=Tryz.zeroValue189
 t45:=Tryz.underlying250
 a45:=Tryz.isAgg250
 z45:=Tryz.sizeOf250
 v45:=Tryz.zeroValue250
 t46:=Tryz.underlying251
 a46:=Tryz.isAgg251
 z46:=Tryz.sizeOf251
 v46:=Tryz.zeroValue251
 t50:=Tryz.underlying202
 a50:=Tryz.isAgg202
 z50:=Tryz.sizeOf202
 v50:=Tryz.zeroValue202
 t53:=Tryz.underlying257
 a53:=Tryz.isAgg257
 z53:=Tryz.sizeOf257
 v53:=Tryz.zeroValue257
 t55:=su
 a55:=Tryz.isAgg190
 z55:=Tryz.sizeOf190
 v55:=Tryz.zeroValue190
 t66:=Tryz.underlying296
 a66:=Tryz.isAgg296
 z66:=Tryz.sizeOf296
 v66:=Tryz.zeroValue296
 t70:=Tryz.underlying300
 a70:=Tryz.isAgg300
 z70:=Tryz.sizeOf300
 v70:=Tryz.zeroValue300
 t76:=Tryz.underlying327
 a76:=Tryz.isAgg327
 z76:=Tryz.sizeOf327
 v76:=Tryz.zeroValue327
 t77:=Tryz.underlying328
 a77:=Tryz.isAgg328
 z77:=Tryz.sizeOf328
 v77:=Tryz.zeroValue328}
end Go.Proofs
namespace Go.K
open Go.Proofs
namespace TKSmall11
theorem E66:Enters Tryz.prog 66:=enters Tryz.func66 rfl (by decide)
theorem UQ:Enters Tryz.prog 116:=enters Tryz.func116 rfl (by decide)
end TKSmall11
open TKSmall11
set_option maxRecDepth 10000
theorem ze {w0:World} {x:Int}:
  Spec Tryz.prog 116 #[.int .i64 x] w0 (fun v' w'=>v'= .bool (decide False)∧w0=w'):=by
 refine bc (args:=[_]) (fn:=Tryz.f116) Tryz.func116 rfl (n:=6) Tryz.ntmps116 (aj (ae (ah rfl rfl (ab (aj (ae (ad rfl rfl (ad rfl rfl (fp rfl rfl rfl (ah rfl rfl (ab ?_)))))))))));refine aN ?_;exact aU rfl rfl ⟨congrArg Value.bool (by simp),rfl⟩
theorem uy {w0:World} {x y:Int}:
  Spec Tryz.prog 66 #[.int .i64 x,.int .i64 y] w0 (fun v' w'=>v'= .int .i64 (if x<y then-1 else if x>y then 1 else 0)∧w0=w'):=by
 refine bc (args:=[_,_]) (fn:=Tryz.f66) Tryz.func66 rfl (n:=20) Tryz.ntmps66 (aj (ae (ah rfl rfl (ab (aj (ae (ad rfl rfl ?_)))))));refine aX rfl rfl UQ (ze) (fun r wc h=>?_);obtain⟨rfl,rfl⟩:=h;refine ah rfl rfl (ab (aj (ae (ad rfl rfl ?_))));refine aX rfl rfl UQ (ze) (fun r wc h=>?_);obtain⟨rfl,rfl⟩:=h;refine ah rfl rfl (ab (aj (aj (ae (ad rfl rfl (ab (T.tx rfl ((fun h=>h)) (aT (aj (aj (ae ?_)))))))))));refine ad rfl rfl (ab (T.tx rfl ((fun h=>h)) (aT (aj (aj (ae (ad rfl rfl (ad rfl rfl (cf rfl rfl rfl (ab ?_))))))))));refine bP rfl (fun c9=>?_) (fun c9=>?_)
 ·refine aj (ae (ah rfl rfl (ab (aN ?_))));exact aU rfl rfl ⟨by rw[if_pos c9],rfl⟩
 ·refine aT (aj (aj (ae (ad rfl rfl (ad rfl rfl (jc rfl rfl rfl (ab ?_)))))));refine bP rfl (fun Fv=>?_) (fun Fv=>?_)
  ·refine aj (ae (ah rfl rfl (ab (aN ?_))));exact aU rfl rfl ⟨by rw[if_neg c9,if_pos Fv],rfl⟩
  ·refine aT (aj (ae (ah rfl rfl (ab (aN ?_)))));exact aU rfl rfl ⟨by rw[if_neg c9,if_neg Fv],rfl⟩
noncomputable instance {xs:List Int}:Decidable (∀i,i+1<xs.length→xs.getD i 0≤xs.getD (i+1) 0):=Classical.propDecidable _
theorem ir {l:List Int} {i:Nat} {x:Int} (h:l[i]? =some x):l.getD i 0=x:=by rw[az,h];rfl
theorem Aa {M:aC} {w0:World} {v:Value} {xs:List Int} (hv:((RT.int .i64).sl).V M w0 xs v) (tz:0<xs.length):
  Spec Tryz.prog 157 #[v,.func (.func 66) #[] #[]] w0 (fun v' w'=>v'= .bool (decide (∀i,i+1<xs.length→xs.getD i 0≤xs.getD (i+1) 0))∧Step M w0 M w' aD):=by
 have hlen:=ep hv;refine bc (args:=[_,_]) (fn:=Tryz.f157) Tryz.func157 rfl (n:=25) Tryz.ntmps157 (aj (ae (ah rfl rfl (ab (aj (aj (ae (ad rfl rfl (bJ ao rfl hv rfl (fq rfl rfl rfl (by omega) (aV (v':= .int .i64 ((xs.length-1:Nat):Int)) (congrArg _ (by omega)) ?_)))))))))));refine ah rfl rfl (ab (aZ ?_));refine dn (σ:=Nat) (fun s=>[(0,v),(1,.func (.func 66) #[] #[]),(5,.int .i64 s)]) (fun s w=>s<xs.length∧(∀t,s≤t→t+1<xs.length→xs.getD t 0≤xs.getD (t+1) 0)∧Step M w0 M w aD) (fun s=>s) (xs.length-1) (.cons rfl (.cons rfl (.cons rfl .nil))) ?_ ?_
 ·exact⟨by omega,fun t h1 h2=>by omega,ax _ _⟩
 ·rintro k w1 ⟨hk,hs,S⟩;refine aj (aj (ae (ad rfl rfl (jc rfl rfl rfl (ab ?_)))));refine bP rfl (fun c2=>?_) (fun c2=>?_)
  ·refine aT (aj (aZ (aj ?_)));obtain⟨x,hx⟩:∃x,(xs)[k]? =some x:=⟨_,au (by omega)⟩;obtain⟨y,hy⟩:∃x,(xs)[k-1]? =some x:=⟨_,au (by omega)⟩;apply T.J2 10 mixed rfl rfl rfl rfl rfl;intro wD4 sA4;have F3:=sA4 M;refine ad rfl rfl ?_;refine ab ⟨rfl,rfl,rfl,?_⟩;refine ad rfl rfl ?_;refine ab ⟨rfl,rfl,rfl,?_⟩;refine ad rfl rfl ?_;refine ab ⟨rfl,rfl,rfl,?_⟩;refine cF (M:=M) ao I3 rfl rfl rfl ((hv.le S.le).le F3.le) (aq _ _) (by first|omega|decide) (fun SK U6 Nj ZG=>?_);obtain rfl:x=U6:=dC (aJ (Nj.symm.trans (by rw[ay];exact hx)));refine ab ⟨rfl,rfl,rfl,?_⟩;refine cd (M:=M) aw rfl rfl (by assumption) (by repeat (first|exact aq _ _|refine aY (bu (by assumption)) ?_)) (fun RE=>?_);refine aV (v':= .int .i64 (x)) rfl ?_;replace RE: -9223372036854775808≤(x:Int)∧x≤9223372036854775807:=RE;refine ab ⟨rfl,rfl,rfl,?_⟩;refine ad rfl rfl ?_;refine ab ⟨rfl,rfl,rfl,?_⟩;refine ad rfl rfl ?_;refine ab ⟨rfl,rfl,rfl,?_⟩;refine fq rfl rfl rfl (by omega) ?_;refine ab ⟨rfl,rfl,rfl,?_⟩;refine cF (M:=M) ao I3 rfl rfl rfl ((hv.le S.le).le F3.le) (aq _ _) (by first|omega|decide) (fun ap7 agO ZH akL=>?_);obtain rfl:y=agO:=dC (aJ (ZH.symm.trans (by rw[show((k:Int)-1).toNat=k-1 from by omega];exact hy)));refine ab ⟨rfl,rfl,rfl,?_⟩;refine cd (M:=M) aw rfl rfl (by assumption) (by repeat (first|exact aq _ _|refine aY (bu (by assumption)) ?_)) (fun RF=>?_);refine aV (v':= .int .i64 (y)) rfl ?_;replace RF: -9223372036854775808≤(y:Int)∧y≤9223372036854775807:=RF;refine ab ⟨rfl,rfl,rfl,?_⟩;refine ff ?_;refine zC (first:=[]) (captured:=[]) rfl rfl rfl E66 uy (fun r w1 h=>?_);obtain⟨rfl,rfl⟩:=h;refine cf rfl rfl rfl (ab ?_);refine bP rfl (fun c4=>?_) (fun c4=>?_)
   ·have hgt: ¬(y≤x):=fun h=>by
     first
     |omega
     |(split at c4<;>first|omega|(split at c4<;>omega))
    refine aj (ae (ah rfl rfl (ab (aN ?_))))
    exact aU rfl rfl ⟨congrArg Value.bool (dC (decide_eq_false fun h=>by
     have:=h (k-1) (by omega);rw[show k-1+1=k from by omega,ir hx,ir hy]at this;exact hgt this)),S.aB F3⟩
   ·have hle:y≤x:=by
     first
     |omega
     |(split at c4<;>first|omega|(split at c4<;>omega))
    refine aT (ae (ad rfl rfl (fq rfl rfl rfl (by omega) (ah rfl rfl (ab ?_)))));refine⟨rfl,k-1,(.cons rfl (.cons rfl (.cons (congrArg (fun z=>some (Value.int .i64 z)) (by omega)) .nil))),?_,?_⟩
    ·refine⟨by omega,fun t h1 h2=>?_,S.aB F3⟩;by_cases e:t=k-1
     ·subst e;rw[show k-1+1=k from by omega,ir hx,ir hy];exact hle
     ·exact hs t (by omega) h2
    ·show k-1<k;omega
  ·refine cL (aj (ae (ah rfl rfl (ab (aN ?_)))));exact aU rfl rfl ⟨congrArg Value.bool (dC (decide_eq_true fun i hi=>hs i (by omega) hi)),S⟩
theorem Er {M:aC} {w0:World} {v:Value} {xs:List Int} (hM:Lt M w0) (hv:((RT.int .i64).sl).V M w0 xs v) (hl:xs.length≤1099511627776):
  Spec Tryz.prog 51 #[v] w0 (fun v' w'=>∃M',Own (RT.int .i64) 3 M' w' w0.heap.size v' xs∧Lt M' w'∧Step M w0 M' w' aD):=by
 obtain⟨a,cap,pW,hc,hlen,hs⟩:=iP.1 hv;refine bc (args:=[_]) (fn:=Tryz.f51) Tryz.func51 rfl (n:=8) Tryz.ntmps51 (aj (ae (ah rfl rfl (ab (aj (aj (ae (ad rfl rfl (aV (v':= .slice a xs.length cap) pW (Rg.tJ ao rfl rfl rfl (ab ?_)))))))))));refine bP rfl (fun c1=>?_) (fun c1=>?_)
 ·refine aj (ae (ah rfl rfl (ab (aN ?_))))
  obtain rfl:xs=[]:=by
   rcases hs with h|⟨b,o,h,_⟩
   ·exact h
   ·rw[c1]at h;cases h
  exact aU rfl rfl ⟨M,dE _ _ _ _ _,hM,ax _ _⟩
 ·refine aT (aj (ae ?_));refine Rg.WV ao I3 M rfl (fun g w1 z1 z1' g1 s1=>?_);have nH:=s1.lt hM;refine ad rfl rfl ?_;refine cX (M:=ins M g) (base:=w0.heap.size) ao I3 rfl rfl rfl rfl (Own.empty g1 z1 (.inl rfl)) (hv.le s1.le) (aq _ _) (by simp;omega) (by simp;omega) (by have:=s1.size;omega) (fun v2 M2 w2 tg s2=>?_);refine ah rfl rfl (ab (aN ?_));exact aU rfl rfl ⟨M2,by rw[fQ]at tg;exact tg,s2.lt nH,s1.cg s2 (fun b hb=>by have hb:b=g:=(aJ hb).symm;rw[hb];exact z1)⟩
theorem B2 {M:aC} {w0:World} {base:Nat} {v:Value} {xs:List Int} (ho:Own (RT.int .i64) 3 M w0 base v xs) (hl:xs.length≤1099511627776):
  Spec Tryz.prog 158 #[v] w0 (fun v' w'=>∃a k cap,v'= .slice a k cap∧(k=xs.length↔(∀i,i+1<xs.length→xs.getD i 0≠xs.getD (i+1) 0))∧Step M w0 M w' (fP v)):=by
 refine bc (args:=[_]) (fn:=Tryz.f158) Tryz.func158 rfl (n:=61) Tryz.ntmps158 (aj (ae (ah rfl rfl (ab (aj (aj (ae (ad rfl rfl (fS ao rfl ho rfl (cf rfl rfl rfl (ab ?_)))))))))));refine bP rfl (fun c1=>?_) (fun c1=>?_)
 ·refine aj (ae (ad rfl rfl (ah rfl rfl (ab (aN ?_)))));obtain⟨a,cap,rfl,hc⟩:=ho.isSlice;exact aU rfl rfl ⟨a,xs.length,cap,rfl,⟨fun _ i hi=>by omega,fun _=>rfl⟩,(ax _ _).cG (fun _ h=>h.elim) (fun b hb=>ho.mut_ b hb)⟩
 ·obtain⟨g,cap,cur,rfl,Sb,PQ,Eg⟩:=ho.ve (ho.BW (by omega));obtain⟨_,xK,VZ,Kw⟩:=ho.isSlice;simp only[fW]at VZ;have lF:xs.length≤cap:=by omega
  have hN:∀b,b=g→fP (.slice (some ⟨g,0,none⟩) xs.length cap) b:=fun b hb=>by rw[hb];rfl
  refine aT (aj (aj (ae (ah rfl rfl (ab (aZ ?_))))));refine dn (σ:=Nat) (fun s=>[(0,.slice (some ⟨g,0,none⟩) xs.length cap),(3,.int .i64 s)]) (fun s w=>1≤s∧s≤xs.length∧(∀i,i+1<s→xs.getD i 0≠xs.getD (i+1) 0)∧Step M w0 M w aD) (fun s=>xs.length-s) 1 (.cons rfl (.cons rfl .nil)) ?_ ?_
  ·exact⟨aR _,by omega,fun i hi=>by omega,ax _ _⟩
  ·rintro k w1 ⟨tD,hk,j9,S⟩;refine aj (aj (ae (ad rfl rfl (ad rfl rfl (Rg.mu ao rfl rfl (cf rfl rfl rfl (ab ?_)))))));refine bP rfl (fun c4=>?_) (fun c4=>?_)
   ·refine aT (aj (aZ (aj ?_)));obtain⟨a,hx⟩:∃x,(xs)[k]? =some x:=⟨_,au (by omega)⟩;obtain⟨b,hy⟩:∃x,(xs)[k-1]? =some x:=⟨_,au (by omega)⟩;apply uO mixed rfl rfl;intro wD6 sA6;have GI:=sA6 M;refine ad rfl rfl ?_;refine ab ⟨rfl,rfl,rfl,?_⟩;refine ad rfl rfl ?_;refine ab ⟨rfl,rfl,rfl,?_⟩;refine vW (size:=1) ao I3 rfl rfl rfl (by omega) (q:=k) (by rw[ay];omega) ?_;refine ab ⟨rfl,rfl,rfl,?_⟩;refine cd (M:=fun b=>M b∧b≠g) aw rfl rfl (((ho.aM S).aM GI).Kj hx) (aq _ _) (fun kq=>?_);refine ab ⟨rfl,rfl,rfl,?_⟩;refine ad rfl rfl ?_;refine ab ⟨rfl,rfl,rfl,?_⟩;refine ad rfl rfl ?_;refine ab ⟨rfl,rfl,rfl,?_⟩;refine fq rfl rfl rfl (by omega) ?_;refine ab ⟨rfl,rfl,rfl,?_⟩;refine vW (size:=1) ao I3 rfl rfl rfl (by omega) (q:=k-1) (by omega) ?_;refine ab ⟨rfl,rfl,rfl,?_⟩;refine cd (M:=fun b=>M b∧b≠g) aw rfl rfl (((ho.aM S).aM GI).Kj hy) (aq _ _) (fun kq=>?_);refine ab ⟨rfl,rfl,rfl,?_⟩;refine k7 rfl rfl rfl ?_;refine ab ⟨rfl,rfl,rfl,?_⟩;refine ff ?_;refine bP rfl (fun c6=>?_) (fun c6=>?_)
    ·refine aj (ae (ad rfl rfl (ad rfl rfl (Rg.Kh ao I3 rfl rfl rfl (by omega) (aV (v':= .slice (some ⟨g,k,none⟩) (xs.length-k) (cap-k)) (by rw[ay,eG]) (ah rfl rfl (ab (aj (aj (ae (ah rfl rfl ?_)))))))))));refine ab (aZ ?_);refine dn (σ:=Nat×Nat) (fun s=>[(0,.slice (some ⟨g,0,none⟩) xs.length cap),(3,.int .i64 s.2),(4,.slice (some ⟨g,k,none⟩) (xs.length-k) (cap-k)),(5,.int .i64 s.1)]) (fun s w=>1≤s.1∧s.1≤xs.length-k∧k≤s.2∧s.2+1≤k+s.1∧∃ys,Own (RT.int .i64) 3 M w base (.slice (some ⟨g,0,none⟩) xs.length cap) ys∧ys.length=xs.length∧Step M w0 M w (fP (.slice (some ⟨g,0,none⟩) xs.length cap))) (fun s=>xs.length-k-s.1) (1,k) (.cons rfl (.cons rfl (.cons rfl (.cons rfl .nil)))) ?_ ?_
     ·exact⟨aR _,by simp only;omega,aR _,aR _,xs,(ho.aM S).aM GI,rfl,(S.aB GI).cG (fun _ h=>h.elim) (fun b hb=>ho.mut_ b hb)⟩
     ·rintro⟨k2,kk⟩ w2 ⟨h21,h22,agP,agQ,ys,tg,Ff,S2⟩;dsimp only at h21 h22 agP agQ tg ⊢;refine aj (aj (ae (ad rfl rfl (ad rfl rfl (Rg.mu ao rfl rfl (cf rfl rfl rfl (ab ?_)))))));refine bP rfl (fun c9=>?_) (fun c9=>?_)
      ·refine aT (aj (aZ (aj ?_)));obtain⟨a2,hx⟩:∃x,(ys)[k+k2]? =some x:=⟨_,au (by omega)⟩;obtain⟨b2,hy⟩:∃x,(ys)[k+k2-1]? =some x:=⟨_,au (by omega)⟩;apply uO mixed rfl rfl;intro LY LZ;have jh:=LZ M;refine ad rfl rfl ?_;refine ab ⟨rfl,rfl,rfl,?_⟩;refine ad rfl rfl ?_;refine ab ⟨rfl,rfl,rfl,?_⟩;refine vW (size:=1) ao I3 rfl rfl rfl (by omega) (q:=k+k2) (by rw[ay];omega) ?_;refine ab ⟨rfl,rfl,rfl,?_⟩;refine cd (M:=fun b=>M b∧b≠g) aw rfl rfl ((tg.aM jh).Kj hx) (aq _ _) (fun kq=>?_);refine ab ⟨rfl,rfl,rfl,?_⟩;refine ad rfl rfl ?_;refine ab ⟨rfl,rfl,rfl,?_⟩;refine ad rfl rfl ?_;refine ab ⟨rfl,rfl,rfl,?_⟩;refine fq rfl rfl rfl (by omega) ?_;refine ab ⟨rfl,rfl,rfl,?_⟩;refine vW (size:=1) ao I3 rfl rfl rfl (by omega) (q:=k+k2-1) (by omega) ?_;refine ab ⟨rfl,rfl,rfl,?_⟩;refine cd (M:=fun b=>M b∧b≠g) aw rfl rfl ((tg.aM jh).Kj hy) (aq _ _) (fun kq=>?_);refine ab ⟨rfl,rfl,rfl,?_⟩;refine fp rfl rfl rfl ?_;refine ab ⟨rfl,rfl,rfl,?_⟩;refine ff ?_;refine bP rfl (fun Fv=>?_) (fun Fv=>?_)
       ·refine aj (ae (ad rfl rfl (ad rfl rfl (ad rfl rfl (ad rfl rfl (vW (size:=1) ao I3 rfl rfl rfl (by omega) (q:=k+k2) (by rw[ay];omega) ?_))))));refine cd (M:=fun b=>M b∧b≠g) aw rfl rfl ((tg.aM jh).Kj hx) (aq _ _) (fun kq=>?_);refine vW (size:=1) ao I3 rfl rfl rfl (by omega) (q:=kk) (by rw[ay];omega) ?_;refine Rg.Ki (M:=M) I3 rfl rfl (tg.aM jh) (by omega) kq (fun w5 ho5 s5=>?_);refine ab (ae (ad rfl rfl (bD rfl rfl rfl (by omega) (ah rfl rfl (ab (ae (ad rfl rfl (bD rfl rfl rfl (by omega) (ah rfl rfl (ab ?_))))))))));refine⟨rfl,(k2+1,_),(.cons rfl (.cons rfl (.cons rfl (.cons rfl .nil)))),?_,?_⟩
        ·first
         |exact⟨by simp only;omega,by simp only;omega,by simp only;omega,by simp only;omega,_,ho5,by rw[fA];exact Ff,(S2.aB jh).trans s5 (fun b _ hb=>hN b hb)⟩
         |exact⟨by simp only;omega,by simp only;omega,by simp only;omega,by simp only;omega,ys,tg.aM jh,Ff,S2.aB jh⟩
        ·simp only;omega
       ·refine aT (ae (ad rfl rfl (bD rfl rfl rfl (by omega) (ah rfl rfl (ab ?_)))));refine⟨rfl,(k2+1,_),(.cons rfl (.cons rfl (.cons rfl (.cons rfl .nil)))),?_,?_⟩
        ·first
         |exact⟨by simp only;omega,by simp only;omega,by simp only;omega,by simp only;omega,_,ho5,by rw[fA];exact Ff,(S2.aB jh).trans s5 (fun b _ hb=>hN b hb)⟩
         |exact⟨by simp only;omega,by simp only;omega,by simp only;omega,by simp only;omega,ys,tg.aM jh,Ff,S2.aB jh⟩
        ·simp only;omega
      ·refine cL (aj (ae (ad rfl rfl (ad rfl rfl (Rg.Kh ao I3 rfl rfl rfl (by omega) (aV (v':= .slice (some ⟨g,kk,none⟩) (xs.length-kk) (cap-kk)) (by rw[ay,eG]) ?_))))));refine Rg.SF (M:=M) ao I3 rfl tg (by omega) (by omega) (by decide) (fun w6 tW s6=>?_);refine ab (aj (ae (ad rfl rfl (ad rfl rfl (Rg.SC ao I3 rfl rfl rfl (by omega) (aV (v':= .slice (some ⟨g,0,none⟩) kk cap) (by rw[ay]) (ah rfl rfl (ab (aN ?_)))))))));exact aU rfl rfl ⟨_,kk,cap,rfl,⟨fun h=>by omega,fun h=>absurd (h (k-1) (by omega)) (by rw[show k-1+1=k from by omega,ir hy,ir hx];exact fun h=>h c6.symm)⟩,S2.trans s6 (fun b _ hb=>hN b hb)⟩
    ·refine aT (ae (ad rfl rfl (bD rfl rfl rfl (by omega) (ah rfl rfl (ab ?_)))));refine⟨rfl,k+1,(.cons rfl (.cons rfl .nil)),?_,?_⟩
     ·refine⟨by omega,by omega,fun i hi=>?_,S.aB GI⟩;by_cases e:i+1=k
      ·rw[e,ir hx,show i=k-1 from by omega,ir hy];exact fun h=>c6 h.symm
      ·exact j9 i (by omega)
     ·show xs.length-(k+1)<xs.length-k;omega
   ·refine cL (aj (ae (ad rfl rfl (ah rfl rfl (ab (aN ?_))))));exact aU rfl rfl ⟨_,xs.length,cap,rfl,⟨fun _ i hi=>j9 i (by omega),fun _=>rfl⟩,S.cG (fun _ h=>h.elim) (fun b hb=>ho.mut_ b hb)⟩
end Go.K
namespace Go.K
open Go.Proofs
namespace TKSortP
theorem E65:Enters Tryz.prog 65:=enters Tryz.func65 rfl (by decide)
theorem E66:Enters Tryz.prog 66:=enters Tryz.func66 rfl (by decide)
end TKSortP
open TKSortP
set_option maxRecDepth 10000
open Go.Proofs Go.Sort
abbrev JK (a:Int) (u:Value):Obj:= .cells #[.int .i64 a,u] 83 (0,0)
theorem P0 {a b:Int} {u v:Value} (w0:World) (hu:u.oneCell'=true) (hv:v.oneCell'=true):
  Spec Tryz.prog 65 #[.agg #[.int .i64 a,u],.agg #[.int .i64 b,v]] w0 (fun r w=>r= .int .i64 (if a<b then-1 else if a>b then 1 else 0)∧w=(w0.alloc (JK a u)).alloc (JK b v)):=by
 refine bc (args:=[_,_]) (fn:=Tryz.f65) Tryz.func65 rfl (n:=10) Tryz.ntmps65 (aj (ae (Rg.Lr rfl rfl ?_)));change Rg _ _ _ _ _ _ _ (w0.alloc (JK a u)) _;refine Rg.Lr rfl rfl ?_;change Rg _ _ _ _ _ _ _ ((w0.alloc (JK a u)).alloc (JK b v)) _;have ga:((w0.alloc (JK a u)).alloc (JK b v)).heap[w0.heap.size]? =some (JK a u):=(cW aD _ _).aK (cp w0 _);have gb:=cp (w0.alloc (JK a u)) (JK b v);refine ah rfl rfl (ab (aj (ae (bN (o':=0) bW rfl rfl I3 (by decide) rfl rfl (aL aw rfl rfl rfl ga rfl (aV (v':= .int .i64 a) rfl (bN (o':=0) bW rfl rfl I3 (by decide) rfl rfl (aL aw rfl rfl rfl gb rfl (aV (v':= .int .i64 b) rfl ?_)))))))));refine aX rfl rfl E66 uy (fun r7 w7 hc=>?_);obtain⟨rfl,rfl⟩:=hc;refine ah rfl rfl (ab (aN ?_));exact aU rfl rfl ⟨rfl,rfl⟩
abbrev TP (ps:List (Po×Value)):Type:={q:Po×Value // q∈ps}
def xl {ps:List (Po×Value)} (x:TP ps):List Value:=[.int .i64 x.1.1.1,x.1.2]
def P1 {ps:List (Po×Value)} (x y:TP ps):Int:=if x.1.1.1<y.1.1.1 then-1 else if x.1.1.1>y.1.1.1 then 1 else 0
theorem px {ps:List (Po×Value)} (x y:TP ps):P1 x y<0↔x.1.1.1<y.1.1.1:=by
 unfold P1;by_cases h:x.1.1.1<y.1.1.1
 ·rw[if_pos h];exact⟨fun _=>h,fun _=>by omega⟩
 ·rw[if_neg h];by_cases h2:x.1.1.1>y.1.1.1
  ·rw[if_pos h2];exact⟨fun h3=>by omega,fun h3=>absurd h3 h⟩
  ·rw[if_neg h2];exact⟨fun h3=>by omega,fun h3=>absurd h3 h⟩
theorem P2 {ps:List (Po×Value)}:SWO (Go.Proofs.ltOf (P1 (ps:=ps))) where
 irrefl x:=by simp only[Go.Proofs.ltOf,decide_eq_false_iff_not,px];omega
 trans x y z h1 h2:=by simp only[Go.Proofs.ltOf,decide_eq_true_eq,px]at*;omega
 ntrans x y z h1 h2:=by simp only[Go.Proofs.ltOf,decide_eq_false_iff_not,px]at*;omega
theorem agR (w:World):(isAgg 83).run Tryz.prog w= .ok true w:=by simp[isAgg,ch,run_underlying bW]
theorem ZI (w:World):(Go.sizeOf 83).run Tryz.prog w= .ok 2 w:=by
 obtain⟨i,h1,_,h2,_⟩:=o0.get;simp[Go.sizeOf,typeInfo,ch,program,Sem.run,h1,h2]
theorem Nk {ps:List (Po×Value)} [Inhabited (TP ps)] (h1:∀q∈ps,q.2.oneCell'=true) (fP off size:Nat) (w:World):CmpLays Tryz.prog 65 #[] (xl (ps:=ps)) 2 P1 fP off size w:=fun m os dk hs x y=>
 (show Calls Tryz.prog 65 #[.agg #[.int .i64 x.1.1.1,x.1.2],.agg #[.int .i64 y.1.1.1,y.1.2]] (sortWorldK xl 2 w fP off m dk os) (fun e w'=>∃v,e= .returned v∧_∧_)from P0 (a:=x.1.1.1) (b:=y.1.1.1) _ (h1 _ x.2) (h1 _ y.2)).mono fun e w' ⟨v,h1,h2,h3⟩=>⟨by rw[h1,h2];rfl,0,#[JK x.1.1.1 x.1.2,JK y.1.1.1 y.1.2],by rw[h3];simp only[yB,Go.Sort.grow_grow];rfl⟩
theorem ZJ {ps:List (Po×Value)} [Inhabited (TP ps)] (h1:∀q∈ps,q.2.oneCell'=true) (U7:∀a∈ps,∀b∈ps,a.1.1=b.1.1→a=b) (fP off cap:Nat) (d:Array (TP ps)) (w:World) (hH:HoldsK xl 2 w fP off d) (hblk:fP<w.heap.size) (jS:d.size<4611686018427387904):
  Spec Tryz.prog 64 #[.slice (some ⟨fP,off,none⟩) d.size cap,.func (.func 65) #[] #[]] w (fun v w'=>v= .tuple #[]∧∃n os,w'=sortWorldK xl 2 w fP off n (d.toList.mergeSort fun x y=> !(Go.Proofs.ltOf P1) y x).toArray os):=by
 exact(Go.Proofs.AnyQ.slices_SortFunc_total Tryz.U5 2 agR ZI xl (fun _=>rfl) (fun x v hv=>by simp[xl]at hv;rcases hv with rfl|rfl<;>first|rfl|exact h1 _ x.2) P1 P2 65 #[] fP off cap d w E65 (Nk h1 fP off d.size w) hH hblk jS (fun x y h1 h2=>by
  simp only[Go.Proofs.ltOf,decide_eq_false_iff_not,px]at h1 h2;exact Subtype.ext (U7 _ x.2 _ y.2 (by omega)))).mono fun e w' ⟨h1,h2⟩=>⟨_,h1,rfl,h2⟩
theorem HK {M:aC} {w:World}:∀{l:List Po} {C:List Value},dV RT.po M w l C→∃ps:List (Po×Value),ps.map (·.1)=l∧C=ps.flatMap (fun q=>[.int .i64 q.1.1,q.2])∧∀q∈ps,RT.po.R M w q.1 [.int .i64 q.1.1,q.2]
 |[],C,h=>⟨[],rfl,h,fun q h=>by cases h⟩
 |x::l,C,⟨vs,r,h1,h2,h3⟩=>by
  obtain⟨ps,h4,h5,h6⟩:=HK h3;obtain⟨va,vb,rfl,⟨rfl,hk⟩,hb⟩:=h2;have NV:=hb;obtain⟨a,cap,rfl,_⟩:=hb;refine⟨(x,.slice a x.2.length cap)::ps,by simp[h4],by rw[h1,h5];rfl,fun q hq=>?_⟩;rcases bX.1 hq with rfl|hq
  ·exact⟨_,_,rfl,⟨rfl,hk⟩,NV⟩
  ·exact h6 q hq
theorem Es {M:aC} {w:World}:∀{ps:List (Po×Value)},(∀q∈ps,RT.po.R M w q.1 [.int .i64 q.1.1,q.2])→dV RT.po M w (ps.map (·.1)) (ps.flatMap fun q=>[.int .i64 q.1.1,q.2])
 |[],_=>rfl
 |q::ps,h=>⟨_,_,rfl,h q (bH ..),Es fun q hq=>h q (b9 _ hq)⟩
theorem Et {M:aC} {base:Nat} {v:Value} {l:List Po} (w0:World) (ho:Own RT.po 83 M w0 base v l) (eN:l.Pairwise fun a b=>a.1≠b.1) (h0:0<l.length) (hl:l.length≤100000000):
  Spec Tryz.prog 64 #[v,.func (.func 65) #[] #[]] w0 (fun r w=>r= .tuple #[]∧∃s:List Po,s.Perm l∧(s.Pairwise fun a b=>a.1≤b.1)∧Own RT.po 83 M w base v s∧Step M w0 M w (fP v)):=by
 have aqc:=ho.mut_;obtain⟨⟨C,⟨hC,hr⟩,hA⟩,hm⟩:=ho;rcases hr with⟨rfl,h0'⟩|⟨g,cap,cur,rfl,hb,hg,hle,Q9,JD,ru⟩
 ·omega
 ·obtain⟨ps,rfl,rfl,kf⟩:=HK hA;have sy:∀q∈ps,q.2.oneCell'=true:=fun q hq=>RT.po.one (kf q hq) _ (by simp)
  have Oi:=cy.1 eN
  have U7:∀a∈ps,∀b∈ps,a.1.1=b.1.1→a=b:=fun a ha b hb e=>by
   obtain⟨i,hi,rfl⟩:=wY.1 ha;obtain⟨j,hj,rfl⟩:=wY.1 hb;rcases eE i j with h|h|h
   ·exact absurd e ((cq.1 Oi) i j hi hj h)
   ·subst h;rfl
   ·exact absurd e.symm ((cq.1 Oi) j i hj hi h)
  rw[aI]at h0 hl hle ru hC
  haveI:Inhabited (TP ps):=⟨⟨ps[0],uP _⟩⟩
  obtain⟨d,hd⟩:∃d:Array (TP ps),d.toList.map (·.1)=ps:=⟨ps.attach.toArray,by rw[List.toList_toArray];exact List.attach_map_subtype_val ps⟩;have jS:d.size=ps.length:=by have:=congrArg List.length hd;simpa using this
  have hk:∀x:TP ps,(xl x).length=2:=fun _=>rfl
  have FQ:∀t:List (TP ps),(t.map (·.1)).flatMap (fun q:Po×Value=>[Value.int .i64 q.1.1,q.2])=t.flatMap xl:=fun t=>by rw[List.flatMap_map];rfl
  have e2:RT.po.n=2:=rfl;rw[e2]at ru JD hC;have hH:HoldsK xl 2 w0 g 0 d:=AG hk (by omega) hg (by rw[jS,ru,←FQ,hd]);have hs:=ZJ sy U7 g 0 cap d w0 hH (ak hg) (by omega);rw[jS]at hs;rw[aI];refine hs.mono fun r w' ⟨h1,n,os,h2⟩=> ?_
  have hp:=jg d.toList fun x y=> !(ltOf P1) y x
  have P3:(d.toList.mergeSort fun x y=> !(ltOf P1) y x).Pairwise fun a b=>a.1.1.1≤b.1.1.1:=by
   refine(List.pairwise_mergeSort (fun a b c h1 h2=>?_) (fun a b=>?_) _).imp fun h=>?_
   ·simp only[ltOf,iU,decide_eq_false_iff_not,px]at*;omega
   ·simp only[ltOf,qb,iU,decide_eq_false_iff_not,px];omega
   ·simp only[ltOf,iU,decide_eq_false_iff_not,px]at h;omega
  generalize (d.toList.mergeSort fun x y=> !(ltOf P1) y x)=us at hp P3 h2;have JE:(us.map (·.1)).length=ps.length:=by rw[aI,hp.length_eq,zu,jS]
  have zG:us.toArray.size*2=ps.length*2:=by rw[←JE];simp
  have kC:Step M w0 M w' (fP (.slice (some ⟨g,0,none⟩) ps.length cap)):=by
   have hgm:M g:=hm g (by rw[aI];rfl);have s:=pL (enc:=xl (ps:=ps)) (k:=2) (w:=w0) (g:=g) (n:=n) (d:=us.toArray) (os:=os);rw[←h2]at s;exact⟨fun h b hb=>iu (h b hb) s.size,s.os,s.tape,s.output,s.size,fun _ _=>Iff.rfl,fun b hb hn=>s.same b hb (fun e=>hn (by have e:b=g:=e;subst e;rfl)),fun b hb=>by have hb:some g=some b:=hb;cases hb;exact hgm⟩
  refine⟨h1,(us.map (·.1)).map (·.1),?_,?_,⟨⟨(us.map (·.1)).flatMap (fun q:Po×Value=>[Value.int .i64 q.1.1,q.2]),⟨?_,.inr ⟨g,cap,putCells id 0 (flatK xl 2 us.toArray) cur,by rw[aI,JE],hb,by rw[h2];exact rW hg,by rw[aI,JE];exact hle,Q9,by rw[e2,←JD];simp[putCells],?_⟩⟩,?_⟩,fun b hb=>hm b (by rw[aI];exact hb)⟩,kC⟩
  ·have:=(hp.map (·.1)).map (·.1);rw[hd]at this;exact this
  ·exact cy.2 (cy.2 P3)
  ·rw[FQ,nh hk,aI,aI,e2]
  ·rw[FQ,aI,JE,e2,←zG,←size_flatK xl,rX (by rw[size_flatK,zG,JD];omega),tX hk (by omega)]
  ·refine Es fun q hq=> ?_
   obtain⟨x,hx,rfl⟩:=ca.1 hq;exact RT.po.le (fun b hb zx=>⟨zx,kC.same b hb fun e=>zx (kC.sub b e)⟩) (kf x.1 x.2)
end Go.K
namespace Go.Proofs
open Go.Shelf
def Tryz.B3:Go.Shelf.Ren:=⟨fun|44=>163|n=>n,fun|25=>57|26=>9|3=>3|4=>4|0=>0|n=>n,fun|n=>n⟩
theorem Tryz.Eu:Go.Proofs.SlLaysN.n44 Tryz.prog Tryz.B3:={
 mixed:=by kernel_rfl
 f44:=⟨Tryz.f163.name,by decide,Tryz.func163.trans (congrArg some (by kernel_rfl))⟩
 t0:=fJ
 a0:=lJ
 z0:=j6
 v0:=gI
 t3:=aw
 a3:=lK
 z3:=j7
 v3:=gJ
 t4:=iN
 a4:=rI
 z4:=nL
 v4:=jw
 t25:=aQ
 a25:=Tryz.isAgg57
 z25:=Tryz.sizeOf57
 v25:=Tryz.zeroValue57
 t26:=aH
 a26:=lL
 z26:=j8
 v26:=gK
 i26:=by kernel_rfl}
def Tryz.vL:Go.Shelf.Ren:=⟨fun|4=>216|n=>n,fun|22=>57|25=>9|3=>3|4=>4|9=>9|20=>20|0=>0|n=>n,fun|n=>n⟩
theorem Tryz.RG:Go.Proofs.Lays8.n4 Tryz.prog Tryz.vL:={
 mixed:=by kernel_rfl
 f4:=⟨Tryz.f216.name,by decide,Tryz.func216.trans (congrArg some (by kernel_rfl))⟩
 t0:=fJ
 a0:=lJ
 z0:=j6
 v0:=gI
 t3:=aw
 a3:=lK
 z3:=j7
 v3:=gJ
 t4:=iN
 a4:=rI
 z4:=nL
 v4:=jw
 t9:=aH
 a9:=lL
 z9:=j8
 v9:=gK
 t20:=Tryz.underlying20
 a20:=Tryz.isAgg20
 z20:=Tryz.sizeOf20
 v20:=Tryz.zeroValue20
 t22:=aQ
 a22:=Tryz.isAgg57
 z22:=Tryz.sizeOf57
 v22:=Tryz.zeroValue57}
end Go.Proofs
namespace Go.K
open Go.Sort Go.Proofs
section
variable {α:Type} [Inhabited α] {enc:α→Value}
theorem A2 {w:World} {g n:Nat} {cur:Array Value} {e:TypeId} {d:Array α} {os:Array Obj} (hg:w.heap[g]? =some (.cells cur e (0,0))):(grow (putRow enc (Go.Sort.ahead w n) g 0 d) os).heap[g]? =some (.cells (putCells enc 0 d cur) e (0,0)):=by
 have dO:g<w.heap.size:=ak hg
 have h1:(w.heap.modify g (onCells (putCells enc 0 d)))[g]? =some (.cells (putCells enc 0 d cur) e (0,0)):=by
  rw[jF,if_pos rfl,hg];rfl
 show((w.heap.modify g (onCells (putCells enc 0 d)))++os)[g]? =_;rw[Array.getElem?_append_left (by simpa using dO)];exact h1
theorem wR {w:World} {g n:Nat} {d:Array α} {os:Array Obj}:Step allM w allM (grow (putRow enc (Go.Sort.ahead w n) g 0 d) os) (fun b=>b=g):=
 ⟨fun h=>absurd (h w.heap.size trivial) (jv _),rfl,rfl,rfl,by show _≤((w.heap.modify g _)++os).size;simp,fun _ _=>Iff.rfl,fun b hb hn=>by
  have hn: ¬b=g:=hn;show((w.heap.modify g (onCells (putCells enc 0 d)))++os)[b]? =_;rw[Array.getElem?_append_left (by simpa using hb),jF,if_neg (fun h=>hn h.symm)],fun _ _=>trivial⟩
theorem qM {d:Array α} {cur:Array Value} {m:Nat} (h:d.size≤cur.size) (hm:m≤d.size):(putCells enc 0 d cur).toList.take m=(d.toList.map enc).take m:=by
 apply fe;intro j;rw[cj,cj];by_cases hj:j<m
 ·have h1:j<d.size:=by omega
  have h2:j<cur.size:=by omega
  rw[if_pos hj,if_pos hj];simp[putCells,h1,h2]
 ·rw[if_neg hj,if_neg hj]
theorem holds_of {w:World} {g:Nat} {cur:Array Value} {e:TypeId} {d:Array α} (hg:w.heap[g]? =some (.cells cur e (0,0))) (hC:cur.toList.take d.size=d.toList.map enc):Holds enc w g 0 d:=fun j hj=>by
 have h1:(cur.toList.take d.size)[j]? =(d.toList.map enc)[j]? :=by rw[hC]
 rw[cj,if_pos hj,bB,Array.getElem?_toList,Array.getElem?_toList,Array.getElem?_eq_getElem hj,cV]at h1;constructor
 ·simp[World.cell?,hg,h1,hj]
 ·simp[World.frozen?,hg]
end
theorem zf:∀{xs:List (List UInt8)} {C:List Value} {M:aC} {w:World},dV RT.str M w xs C→C=xs.map encStr∧∀x∈xs,x.length≤140737488355328
 |[],C,_,_,h=>⟨h,fun x hx=>by cases hx⟩
 |x::xs,C,_,_,⟨vs,r,h1,h2,h3⟩=>by
  obtain⟨h4,h5⟩:=zf h3;obtain⟨h6,h7⟩:=h2;refine⟨by rw[h1,h4,h6];rfl,fun y hy=>?_⟩;rcases bX.1 hy with rfl|hy
  ·exact h7
  ·exact h5 y hy
theorem vM {M:aC} {w:World}:∀{xs:List (List UInt8)},(∀x∈xs,x.length≤140737488355328)→dV RT.str M w xs (xs.map encStr)
 |[],_=>rfl
 |x::xs,h=>⟨[encStr x],_,rfl,⟨rfl,h x (bH ..)⟩,vM fun y hy=>h y (b9 _ hy)⟩
theorem zi {d:Array (List UInt8)} (hs:∀i j,i≤j→j<d.size→¬d[j]! <d[i]!):∀m,m≤d.size→(Go.Lib.compactUpTo d m).Pairwise (fun a b=>a<b)∧(∀x∈Go.Lib.compactUpTo d m,∃j,j<m∧x=d[j]!)∧∀j,j<m→d[j]! ∈Go.Lib.compactUpTo d m
 |0,_=>⟨List.Pairwise.nil,(fun x h=>by cases h),fun j h=>by omega⟩
 |m+1,hm=>by
  obtain⟨h1,h2,h3⟩:=zi hs m (by omega);rw[Go.Lib.compactUpTo_succ]
  cases hk:Go.Lib.keeps d m with
  |true=>
   rw[if_pos rfl];have eN:m=0∨d[m]! ≠d[m-1]! :=by simpa[Go.Lib.keeps]using hk
   refine⟨nt.2 ⟨h1,by simp,fun a ha b hb=>?_⟩,fun x hx=>?_,fun j hj=>?_⟩
   ·rw[bE]at hb;subst hb;obtain⟨j,hj,rfl⟩:=h2 a ha;have h4:=hs j m (by omega) (by omega);rcases jM d[j]! d[m]! with h|h|h
    ·exact h
    ·exfalso;have h5:=hs j (m-1) (by omega) (by omega);have h6:=hs (m-1) m (by omega) (by omega);rcases eN with h0|h0
     ·omega
     ·rcases jM d[m-1]! d[m]! with h7|h7|h7
      ·rw[←h]at h7;exact h5 h7
      ·exact h0 h7.symm
      ·exact h6 h7
    ·exact absurd h h4
   ·rcases ck.1 hx with hx|hx
    ·obtain⟨j,hj,e⟩:=h2 x hx;exact⟨j,by omega,e⟩
    ·exact⟨m,by omega,bE.1 hx⟩
   ·rcases cJ j m with h|h
    ·exact gy _ (h3 j h)
    ·obtain rfl:j=m:=by omega
     exact List.mem_append_right _ (bE.2 rfl)
  |false=>
   rw[if_neg (by simp),iX];have he:m≠0∧d[m]! =d[m-1]! :=by simpa[Go.Lib.keeps]using hk
   refine⟨h1,fun x hx=>?_,fun j hj=>?_⟩
   ·obtain⟨j,hj,e⟩:=h2 x hx;exact⟨j,by omega,e⟩
   ·rcases cJ j m with h|h
    ·exact h3 j h
    ·obtain rfl:j=m:=by omega
     rw[he.2];exact h3 _ (by omega)
def ju (ks:List (List (List UInt8))):List (List UInt8):=Go.Lib.compact (ks.flatten.mergeSort fun x y=>decide (x≤y))
theorem zj (ks:List (List (List UInt8))):(ju ks).Pairwise (fun a b=>a<b)∧∀x,x∈ju ks↔∃l∈ks,x∈l:=by
 have RH:(ks.flatten.mergeSort fun x y=>decide (x≤y)).Pairwise fun a b=>¬b<a:=by
  refine(List.pairwise_mergeSort (fun a b c h1 h2=>?_) (fun a b=>?_) _).imp fun h=>?_
  ·simp only[decide_eq_true_eq]at*
   intro h3;rcases jM b c with h|h|h
   ·exact h1 (l1 h h3)
   ·subst h;exact h1 h3
   ·exact h2 h
  ·simp only[qb,decide_eq_true_eq];rcases jM a b with h|h|h
   ·exact .inl fun h'=>absurd h' (iR h)
   ·subst h;exact .inl (jb _)
   ·exact .inr fun h'=>absurd h' (iR h)
  ·simp only[decide_eq_true_eq]at h;exact h
 generalize hz:(ks.flatten.mergeSort fun x y=>decide (x≤y))=zs at RH
 have eH:∀x,x∈zs↔∃l∈ks,x∈l:=fun x=>by
  rw[←hz,(jg _ _).mem_iff,List.mem_flatten]
 obtain⟨h1,h2,h3⟩:=zi (d:=zs.toArray) (fun i j ji hj=>by
  have hj':j<zs.length:=by simpa using hj
  have im:i<zs.length:=by omega
  rw[getElem!_pos _ i (by simpa using im),getElem!_pos _ j hj];rcases cJ i j with h|h
  ·simpa using(cq.1 RH) i j im hj' h
  ·obtain rfl:i=j:=by omega
   exact jb _) zs.length (by simp)
 have e:ju ks=Go.Lib.compactUpTo zs.toArray zs.length:=by unfold ju Go.Lib.compact;rw[hz]
 rw[e];refine⟨h1,fun x=>?_⟩;rw[←eH];constructor
 ·intro hx;obtain⟨j,hj,rfl⟩:=h2 x hx;rw[getElem!_pos _ j (by simpa using hj)];simp
 ·intro hx;obtain⟨j,hj,rfl⟩:=wY.1 hx;have:=h3 j hj
  rwa [getElem!_pos _ j (by simpa using hj),List.getElem_toArray]at this
theorem Jh (ks:List (List (List UInt8))):(ju ks).length≤ks.flatten.length:=by
 have h:=(zj ks).1.imp (S:=fun a b=>a≠b) fun h e=>by subst e;exact jb _ h
 exact List.Nodup.length_le_of_subset h fun x hx=>by
  obtain⟨l,hl,hx⟩:=((zj ks).2 x).1 hx;exact List.mem_flatten.2 ⟨l,hl,hx⟩
end Go.K
namespace Go.K
open Go.Proofs
set_option maxRecDepth 10000
open Go.Proofs Go.Sort
theorem nk:BV RT.str:=fun _ _ _ _ _ _ h=>h
theorem Ji {base:Nat} {v:Value} {ts:List (List UInt8)} (w0:World) (ho:Own RT.str 9 allM w0 base v ts) (hl:ts.length≤100000000):
  Spec Tryz.prog 141 #[v] w0 (fun r w=>r= .tuple #[]∧Own RT.str 9 allM w base v (ts.mergeSort fun x y=>decide (x≤y))∧Step allM w0 allM w (mU v)):=by
 obtain⟨⟨C,⟨hC,hr⟩,hA⟩,hm⟩:=ho;rcases hr with⟨rfl,h0⟩|⟨g,cap,cur,rfl,hb,hg,hle,Q9,JD,ru⟩
 ·have J4:ts=[]:=cP.1 h0;subst J4;exact(AnyM.slices_Sort_string_none Tryz.Ht none 0 w0).mono fun e w' ⟨h1,h2⟩=>⟨_,h1,rfl,by rw[List.mergeSort_nil];exact dE _ _ _ _ _,by rw[h2];exact(ax allM w0).cG (fun _ h=>h.elim) (fun _ _=>trivial)⟩
 ·obtain⟨rfl,jS⟩:=zf hA;have e1:RT.str.n=1:=rfl;rw[e1,eG]at ru JD;have hH:Holds encStr w0 g 0 ts.toArray:=holds_of hg (by simpa using ru);refine(AnyM.slices_Sort_string Tryz.Ht g 0 cap ts w0 hH (ak hg) (by omega)).mono fun e w' ⟨h1,n,os,h2⟩=>⟨_,h1,rfl,?_,?_⟩
  ·rw[h2];have hp:=jg ts fun x y=>decide (x≤y)
   generalize (ts.mergeSort fun x y=>decide (x≤y))=us at hp;have JE:us.length=ts.length:=hp.length_eq;refine⟨⟨us.map encStr,⟨by simp[e1],.inr ⟨g,cap,_,by rw[JE],hb,A2 hg,by omega,Q9,by rw[e1,eG,←JD];simp[putCells],?_⟩⟩,vM fun x hx=>jS x (hp.mem_iff.1 hx)⟩,fun _ _=>trivial⟩;rw[e1,eG,qM (by simp;omega) (by simp),br (by simp)]
  ·rw[h2];exact wR.cG (fun b hb=>by have hb:b=g:=hb;subst hb;rfl) (fun _ _=>trivial)
theorem Jj {base:Nat} {v:Value} {ts:List (List UInt8)} (w0:World) (ho:Own RT.str 9 allM w0 base v ts) (hl:ts.length≤100000000):
  Spec Tryz.prog 163 #[v] w0 (fun r w=>Own RT.str 9 allM w base r (Go.Lib.compact ts)∧Step allM w0 allM w (mU v)):=by
 obtain⟨⟨C,⟨hC,hr⟩,hA⟩,hm⟩:=ho;rcases hr with⟨rfl,h0⟩|⟨g,cap,cur,rfl,hb,hg,hle,Q9,JD,ru⟩
 ·have J4:ts=[]:=cP.1 h0;subst J4;exact(AnyG.slices_Compact_string_empty Tryz.Eu none 0 w0).mono fun e w' ⟨h1,h2⟩=>⟨_,h1,dE _ _ _ _ _,by rw[h2];exact(ax allM w0).cG (fun _ h=>h.elim) (fun _ _=>trivial)⟩
 ·obtain⟨rfl,jS⟩:=zf hA;have e1:RT.str.n=1:=rfl;rw[e1,eG]at ru JD;have hH:Holds encStr w0 g 0 ts.toArray:=holds_of hg (by simpa using ru);have lF:=Go.Lib.compact_length_le ts;refine(AnyG.slices_Compact_string Tryz.Eu g 0 cap ts w0 hH (by omega) hle).mono fun e w' ⟨h1,n,h2⟩=>⟨_,h1,?_,?_⟩
  ·have xM:w'=grow (putRow encStr (Go.Sort.ahead w0 n) g 0 (Go.Lib.compact ts++List.replicate (ts.length-(Go.Lib.compact ts).length) []).toArray) #[]:=by rw[grow_empty];exact h2
   rw[xM];refine⟨⟨(Go.Lib.compact ts).map encStr,⟨by simp[e1],.inr ⟨g,cap,_,rfl,hb,A2 hg,by omega,Q9,by rw[e1,eG,←JD];simp[putCells],?_⟩⟩,vM fun x hx=>jS x ?_⟩,fun _ _=>trivial⟩
   ·rw[e1,eG,qM (by simp;omega) (by simp)];simp
   ·unfold Go.Lib.compact Go.Lib.compactUpTo at hx;obtain⟨j,hj,rfl⟩:=ca.1 hx;have hj:=List.mem_range.1 (fT.1 hj).1;rw[getElem!_pos _ j (by simpa using hj)];simp
  ·have xM:w'=grow (putRow encStr (Go.Sort.ahead w0 n) g 0 (Go.Lib.compact ts++List.replicate (ts.length-(Go.Lib.compact ts).length) []).toArray) #[]:=by rw[grow_empty];exact h2
   rw[xM];exact wR.cG (fun b hb=>by have hb:b=g:=hb;subst hb;rfl) (fun _ _=>trivial)
theorem Jk {n:Nat} (w0:World) (hn:n≤1000000000):Spec Tryz.prog 216 #[.slice none 0 0,.int .i64 n] w0 (fun r w=>Own RT.str 9 allM w w0.heap.size r []∧Step allM w0 allM w aD):=by
 rcases Nat.eq_zero_or_pos n with rfl|h
 ·exact(Any8.slices_Grow_room Tryz.RG none 0 0 0 w0 (aR _) (by omega) (by omega) (aR _)).mono fun e w' ⟨h1,h2⟩=>⟨_,h1,dE _ _ _ _ _,by rw[h2];exact ax _ _⟩
 ·obtain⟨i0,hi,hz,hs,hb⟩:=I9.get;refine(Any8.slices_Grow_grow Tryz.RG i0 _ hi hz (by omega) none 0 0 n [] w0 (aR _) (by omega) (by rw[hb];omega) (by omega) (by simp) (fun _=>rfl) (fun a h=>by cases h)).mono fun e w' ⟨h1,h2⟩=>⟨_,h1,?_,?_⟩
  ·have hG:n≤grownCap w0 n 0 (Tryz.vL.t 25):=grownCap_ge w0 _ _ _;have hm:=grownCap_le_maxLen w0 (0+n) 0 9 (by unfold maxLen;omega);rw[h2];refine⟨⟨[],⟨rfl,.inr ⟨w0.heap.size,_,_,rfl,aR _,by exact cp w0.drew _,bG _,hm,?_,by simp⟩⟩,rfl⟩,fun _ _=>trivial⟩;show _=grownCap w0 (0+n) 0 (Tryz.vL.t 25)*1;simp[Builtin.zeroCells,Value.cells];omega
  ·rw[h2];exact(lX allM w0).aB (cW allM w0.drew _)
end Go.K
namespace Go.K
open Go.Proofs
namespace TKJoinB
theorem agS:Enters Tryz.prog 113:=enters Tryz.func113 rfl (by decide)
theorem agT:Enters Tryz.prog 141:=enters Tryz.func141 rfl (by decide)
theorem agU:Enters Tryz.prog 162:=enters Tryz.func162 rfl (by decide)
theorem agV:Enters Tryz.prog 163:=enters Tryz.func163 rfl (by decide)
theorem agW:Enters Tryz.prog 216:=enters Tryz.func216 rfl (by decide)
end TKJoinB
open TKJoinB
set_option maxRecDepth 10000
theorem Ev {ks:List (List (List UInt8))} {i:Nat} {l:List (List UInt8)} (h:ks[i]? =some l):((ks.take (i+1)).flatten).length=(ks.take i).flatten.length+l.length∧(ks.take (i+1)).flatten=(ks.take i).flatten++l:=by
 rw[cb,h,cY,List.flatten_append,bg];simp
theorem B4 (ks:List (List (List UInt8))) (i:Nat):(ks.take i).flatten.length≤ks.flatten.length:=by
 conv=>rhs;rw[←uK i ks,List.flatten_append,bg]
 omega
theorem B5 {M:aC} {ks:List (List (List UInt8))} {v0:Value} (w0:World) (hM:Lt M w0) (hv:((RT.str.sl).sl).V M w0 ks v0) (hl:ks.flatten.length≤100000000):
  Spec Tryz.prog 162 #[v0] w0 (fun v w=>∃M',Own RT.str 9 M' w w0.heap.size v ks.flatten∧Lt M' w∧Step M w0 M' w aD):=by
 have hlen:=ep hv;have lC:=hM;refine bc (args:=[_]) (fn:=Tryz.f162) Tryz.func162 rfl (n:=36) Tryz.ntmps162 ?_;have S:Step M w0 M w0 aD:=(ax _ _).cG (fun _ h=>h.elim) (fun _ h=>h.elim);refine aj (ae (ah rfl rfl (ab (aj (ae (ah rfl rfl (ab (aj (aj (ae (ad rfl rfl ?_)))))))))));refine bJ Tryz.underlying120 rfl hv rfl (ad rfl rfl (ab (aZ ?_)));refine dn (σ:=Nat) (fun i=>[(0,v0),(3,.int .i64 ((ks.take i).flatten.length:Int)),(9,v0),(10,.int .i64 (ks.length:Int)),(11,.int .i64 (i:Int))]) (fun i w=>i≤ks.length∧Lt M w∧((RT.str.sl).sl).V M w ks v0∧Step M w0 M w aD) (fun i=>ks.length-i) 0 (.cons rfl (.cons rfl (.cons rfl (.cons rfl (.cons rfl .nil))))) ?_ ?_
 ·exact⟨bG _,hM,hv,S⟩
 ·clear hM hv S;rintro i w ⟨hi,hM,hv,S⟩;have nw:=B4 ks i;refine aj (ae (cf rfl rfl rfl (ab (aj ?_))));refine bP rfl (fun c3=>?_) (fun c3=>?_)
  ·refine aT (aj (aZ (aj (ae ?_))));obtain⟨l,hk⟩:∃l,ks[i]? =some l:=⟨_,au (by omega)⟩;obtain⟨tD,Bc⟩:=Ev hk;have hk3:=B4 ks (i+1);refine cF (M:=M) Tryz.underlying120 zz rfl rfl rfl hv (aq _ _) (by omega) (fun u4 x wC ET=>?_);rw[ay]at wC;obtain rfl:=aJ (hk.symm.trans wC);refine bV (M:=M) aQ rfl rfl rfl rfl rfl ET (aq _ _) (fun v4 rU=>?_);refine ah rfl rfl (ab (aj (ae (ad rfl rfl (ad rfl rfl (bJ aQ rfl rU rfl (bD rfl rfl rfl (by omega) (aV (v':= .int .i64 (((ks.take (i+1)).flatten.length:Nat):Int)) (congrArg _ (by rw[tD];omega)) (ah rfl rfl (ab (aj ?_)))))))))));refine ae (ad rfl rfl (cf rfl rfl rfl (ab (T.tx rfl ((by omega)) (aT (ae (bD rfl rfl rfl (by omega) (ad rfl rfl (ab ?_)))))))));refine⟨rfl,i+1,(.cons rfl (.cons rfl (.cons rfl (.cons rfl (.cons rfl .nil))))),?_,?_⟩
   ·exact⟨by omega,hM,hv,S⟩
   ·omega
  ·refine cL (aj (ae (ad rfl rfl ?_)));have hie:i=ks.length:=by omega
   refine aV (v':= .int .i64 ((ks.flatten.length:Nat):Int)) (by rw[hie,br (aR _)]) ?_;refine aX rfl rfl agW (Jk w (n:=ks.flatten.length) (by omega)) (fun r9 w9 hc=>?_);obtain⟨Pv,s9⟩:=hc;obtain⟨ho,s9'⟩:=Pv.MW (M:=allM) nk s9 (aR _) M;replace ho:=ho.oL S.size;have Rm:=s9'.lt hM;have Iv:=hv.le s9'.le;have S9:=S.aB s9';refine ah rfl rfl (ab (aj (aj (ae (ad rfl rfl (bJ Tryz.underlying120 rfl Iv rfl (ad rfl rfl (ab (aZ ?_)))))))));refine dn (σ:=Nat×Value) (fun q=>[(6,q.2),(25,v0),(26,.int .i64 (ks.length:Int)),(27,.int .i64 (q.1:Int))]) (fun q w=>q.1≤ks.length∧∃M1,Lt M1 w∧((RT.str.sl).sl).V M1 w ks v0∧Own RT.str 9 M1 w w0.heap.size q.2 (ks.take q.1).flatten∧Step M w0 M1 w aD) (fun q=>ks.length-q.1) (0,r9) (.cons rfl (.cons rfl (.cons rfl (.cons rfl .nil)))) ?_ ?_
   ·exact⟨bG _,_,Rm,Iv,(by simpa using ho),S9⟩
   ·clear hM hv S Rm Iv ho S9;rintro⟨i,u⟩ w ⟨hi,M1,hM,hv,ho,S⟩;dsimp only at hi ho ⊢;have nw:=B4 ks i;refine aj (ae (cf rfl rfl rfl (ab (aj ?_))));refine bP rfl (fun Fv=>?_) (fun Fv=>?_)
    ·refine aT (aj (aZ (aj (ae ?_))));obtain⟨l,hk⟩:∃l,ks[i]? =some l:=⟨_,au (by omega)⟩;obtain⟨tD,Bc⟩:=Ev hk;have hk3:=B4 ks (i+1);refine cF (M:=M1) Tryz.underlying120 zz rfl rfl rfl hv (aq _ _) (by omega) (fun u4 x wC ET=>?_);rw[ay]at wC;obtain rfl:=aJ (hk.symm.trans wC);refine bV (M:=M1) aQ rfl rfl rfl rfl rfl ET (aq _ _) (fun akN U8=>?_);refine ah rfl rfl (ab (ae (ad rfl rfl (ad rfl rfl ?_))));refine cX (M:=M1) (base:=w0.heap.size) aQ I9 rfl rfl rfl rfl ho U8 (aq _ _) (by omega) (by omega) (S.size) (fun ZK akO akP U9 Nl=>?_);replace hv:=hv.le Nl.le;replace hM:=Nl.lt hM;have:=S.size;replace S:=S.dm Nl ho (aR _);replace ho:=U9;refine ah rfl rfl (ab (ae (bD rfl rfl rfl (by omega) (ad rfl rfl (ab ?_)))));refine⟨rfl,(i+1,ZK),(.cons rfl (.cons rfl (.cons rfl (.cons rfl .nil)))),?_,?_⟩
     ·exact⟨by dsimp only;omega,_,hM,hv,by dsimp only;rw[Bc];exact ho,S⟩
     ·dsimp only;omega
    ·refine cL (aj (ae (ad rfl rfl (ah rfl rfl (ab (aN ?_))))));rw[br (by omega)]at ho;exact aU rfl rfl ⟨_,ho,hM,S⟩
theorem B6 {M:aC} {ks:List (List (List UInt8))} {v0:Value} (w0:World) (hM:Lt M w0) (hv:((RT.str.sl).sl).V M w0 ks v0) (hl:ks.flatten.length≤100000000):
  Spec Tryz.prog 113 #[v0] w0 (fun v w=>∃M',Own RT.str 9 M' w w0.heap.size v (ju ks)∧Lt M' w∧Step M w0 M' w aD):=by
 refine bc (args:=[_]) (fn:=Tryz.f113) Tryz.func113 rfl (n:=10) Tryz.ntmps113 (aj (ae (ah rfl rfl (ab (aj (ae (ad rfl rfl ?_)))))));refine aX rfl rfl agU (B5 w0 hM hv hl) (fun r1 w1 hc=>?_);obtain⟨M1,T9,nH,s1⟩:=hc;refine ah rfl rfl (ab (aj (ae (ad rfl rfl ?_))));refine aX rfl rfl agT (Ji w1 (T9.PV nk (M':=allM) fun _ _=>trivial) hl) (fun r2 w2 hc=>?_);obtain⟨rfl,tg,s2⟩:=hc;refine ab (aj (ae (ad rfl rfl ?_)));refine aX rfl rfl agV (Jj w2 tg (by rw[(jg _ _).length_eq];exact hl)) (fun r3 w3 hc=>?_);obtain⟨yN,s3⟩:=hc;have Zy:∀b,r1.ownBlock=some b→w0.heap.size≤b:=fun b hb=>(T9.base b hb).1
 have Cp:Step allM w0 allM w3 aD:=(s1.all.trans s2 (fun b hb h=>by have:=Zy b h;omega)).trans s3 (fun b hb h=>by have:=Zy b h;omega);obtain⟨qd,s4⟩:=yN.MW nk Cp (aR _) M;refine ah rfl rfl (ab (aN ?_));exact aU rfl rfl ⟨_,qd,s4.lt hM,s4⟩
theorem Jl {M:aC} {ks:List (List (List UInt8))} {v0:Value} (w0:World) (hM:Lt M w0) (hv:((RT.str.sl).sl).V M w0 ks v0) (hl:ks.flatten.length≤100000000):
  Spec Tryz.prog 62 #[v0] w0 (fun v w=>∃M',Own RT.str 9 M' w w0.heap.size v (ju ks)∧Lt M' w∧Step M w0 M' w aD):=by
 refine bc (args:=[_]) (fn:=Tryz.f62) Tryz.func62 rfl (n:=5) Tryz.ntmps62 (aj (ae (ah rfl rfl (ab (aj (ae (ad rfl rfl ?_)))))));refine aX rfl rfl agS (B6 w0 hM hv hl) (fun r1 w1 hc=>?_);refine ah rfl rfl (ab (aN ?_));exact aU rfl rfl hc
end Go.K
namespace Go.K
open Go.Proofs
namespace TKHeads
theorem ZL:TI Tryz.prog 180 (.slice none 0 0) 1 24:=by unfold TI;kernel_rfl
theorem lV:TI Tryz.prog 183 (.agg #[(.int .i64 0),(.int .i64 0),(.int .i64 0)]) 3 24:=by unfold TI;kernel_rfl
end TKHeads
open TKHeads
set_option maxRecDepth 10000
theorem ZM:qp Tryz.prog 178 "Len" 110 false:=by unfold qp;kernel_rfl
theorem Ew:qp Tryz.prog 178 "Less" 328 false:=by unfold qp;kernel_rfl
theorem Ex:qp Tryz.prog 178 "Swap" 331 false:=by unfold qp;kernel_rfl
theorem ZN:qp Tryz.prog 178 "Push" 330 true:=by unfold qp;kernel_rfl
theorem agY:qp Tryz.prog 178 "Pop" 329 true:=by unfold qp;kernel_rfl
theorem vN {M:aC} {w0:World} {base:Nat} {v:Value} {hs:List Hd} (ho:Own RT.hd 183 M w0 base v hs):
  Spec Tryz.prog 110 #[v] w0 (fun v' w'=>v'= .int .i64 hs.length∧w0=w'):=by
 refine bc (args:=[_]) (fn:=Tryz.f110) Tryz.func110 rfl (n:=5) Tryz.ntmps110 (aj (ae (ah rfl rfl (ab (aj (ae (ad rfl rfl (fS bR rfl ho rfl (ah rfl rfl (ab (aN ?_)))))))))));exact aU rfl rfl ⟨rfl,rfl⟩
theorem oz {M:aC} {w0:World} {v:Value} {hs:List Hd} {i j:Nat} (hv:((RT.hd).sl).V M w0 hs v) (hi:i<hs.length) (hj:j<hs.length):
  Spec Tryz.prog 328 #[v,.int .i64 i,.int .i64 j] w0 (fun v' w'=>v'= .bool (decide (hn hs i<hn hs j))∧Step M w0 M w' aD):=by
 have hlen:=ep hv;obtain⟨⟨a1,a2,a3⟩,hx⟩:∃x,hs[i]? =some x:=⟨_,au hi⟩;obtain⟨⟨b1,b2,b3⟩,hy⟩:∃x,hs[j]? =some x:=⟨_,au hj⟩;refine bc (args:=[_,_,_]) (fn:=Tryz.f328) Tryz.func328 rfl (n:=18) Tryz.ntmps328 (aj (ae (ah rfl rfl (ab (aj ?_)))));apply uO mixed rfl rfl;intro KG KH;have mQ:=KH M;refine ad rfl rfl ?_;refine ab ⟨rfl,rfl,rfl,?_⟩;refine ad rfl rfl ?_;refine ab ⟨rfl,rfl,rfl,?_⟩;refine cF (M:=M) bR lV rfl rfl rfl (hv.le mQ.le) (aq _ _) (by first|omega|decide) (fun F0 agZ ZO oh=>?_);obtain rfl:(a1,a2,a3)=agZ:=dC (aJ (ZO.symm.trans (by rw[ay];exact hx)));refine ab ⟨rfl,rfl,rfl,?_⟩;refine aS (M:=M) (A:=RT.hd) (B:=RT.int .i64) dG rfl rfl I3 (by decide) (Rz) rfl rfl (by decide) (by assumption) (by repeat (first|exact aq _ _|refine aY (bu (by assumption)) ?_)) (fun OV kI=>?_);refine ab ⟨rfl,rfl,rfl,?_⟩;refine cd (M:=M) aw rfl rfl (by assumption) (by repeat (first|exact aq _ _|refine aY (bu (by assumption)) ?_)) (fun RI=>?_);refine aV (v':= .int .i64 (a1)) rfl ?_;replace RI: -9223372036854775808≤(a1:Int)∧a1≤9223372036854775807:=RI;refine ab ⟨rfl,rfl,rfl,?_⟩;refine ad rfl rfl ?_;refine ab ⟨rfl,rfl,rfl,?_⟩;refine ad rfl rfl ?_;refine ab ⟨rfl,rfl,rfl,?_⟩;refine cF (M:=M) bR lV rfl rfl rfl (hv.le mQ.le) (aq _ _) (by first|omega|decide) (fun aqf ag0 ZQ akQ=>?_);obtain rfl:(b1,b2,b3)=ag0:=dC (aJ (ZQ.symm.trans (by rw[ay];exact hy)));refine ab ⟨rfl,rfl,rfl,?_⟩;refine aS (M:=M) (A:=RT.hd) (B:=RT.int .i64) dG rfl rfl I3 (by decide) (Rz) rfl rfl (by decide) (by assumption) (by repeat (first|exact aq _ _|refine aY (bu (by assumption)) ?_)) (fun aqg akR=>?_);refine ab ⟨rfl,rfl,rfl,?_⟩
 refine cd (M:=M) aw rfl rfl (by assumption) (by repeat (first|exact aq _ _|refine aY (bu (by assumption)) ?_)) (fun RJ=>?_);refine aV (v':= .int .i64 (b1)) rfl ?_;replace RJ: -9223372036854775808≤(b1:Int)∧b1≤9223372036854775807:=RJ;refine ab ⟨rfl,rfl,rfl,?_⟩;refine cf rfl rfl rfl ?_;refine ab ⟨rfl,rfl,rfl,?_⟩;refine ah rfl rfl ?_;refine ab ⟨rfl,rfl,rfl,?_⟩;refine ff (aN ?_);exact aU rfl rfl ⟨by rw[RA hx,RA hy],mQ⟩
set_option maxHeartbeats 4000000 in
theorem oA {M:aC} {w0:World} {base:Nat} {v:Value} {hs:List Hd} {i j:Nat} (h:Own RT.hd 183 M w0 base v hs) (hv:v≠ .slice none 0 0) (hi:i<hs.length) (hj:j<hs.length):
  Spec Tryz.prog 331 #[v,.int .i64 i,.int .i64 j] w0 (fun v' w'=>Own RT.hd 183 M w' base v (swp hs i j)∧Step M w0 M w' (fP v)):=by
 obtain⟨g,cap,cur,rfl,Sb,PQ,Eg⟩:=h.ve hv;obtain⟨⟨x1,x2,x3⟩,hx⟩:∃x,hs[i]? =some x:=⟨_,au hi⟩;obtain⟨⟨y1,y2,y3⟩,hy⟩:∃x,hs[j]? =some x:=⟨_,au hj⟩;obtain⟨vx,rB⟩:∃vx,RT.hd.V M w0 (x1,x2,x3) vx:=h.val hx;obtain⟨vy,QO⟩:∃vy,RT.hd.V M w0 (y1,y2,y3) vy:=h.val hy;obtain⟨rfl,rx1,rx2,rx3⟩:=tf rB;obtain⟨rfl,ry1,ry2,ry3⟩:=tf QO;refine bc (args:=[_,_,_]) (fn:=Tryz.f331) Tryz.func331 rfl (n:=20) Tryz.ntmps331 ?_;apply T.Qy (M:=M) mixed [(13,fun k=>k=g),(15,fun k=>k=g)] [cT.eq _,cT.eq _,cT.eq _,cT.eq _,cT.eq _,cT.eq _,cT.eq (.pointer (some ⟨g,j*3,none⟩)),cT.eq (.agg #[.int .i64 y1,.int .i64 y2,.int .i64 y3]),cT.eq _,cT.eq _,cT.eq (.pointer (some ⟨g,i*3,none⟩)),cT.eq (.agg #[.int .i64 x1,.int .i64 x2,.int .i64 x3]),cT.eq (.pointer (some ⟨g,i*3,none⟩)),(cT.mk' (fun _ w=>Own RT.hd 183 M w base (.slice (some ⟨g,0,none⟩) hs.length cap) (hs.set i (y1,y2,y3))∨Own RT.hd 183 M w base (.slice (some ⟨g,0,none⟩) hs.length cap) (swp hs i j)) (fun h s=>h.imp (fun h=>h.aM s) (fun h=>h.aM s))),cT.eq (.pointer (some ⟨g,j*3,none⟩)),(cT.mk' (fun _ w=>Own RT.hd 183 M w base (.slice (some ⟨g,0,none⟩) hs.length cap) (swp hs i j)) (fun h s=>h.aM s))]
 ·rfl
 ·intro p hp b hb;simp only[bX,dJ,or_false]at hp;rcases hp with rfl|rfl<;>(have hb:b=g:=hb;subst hb;exact PQ)
 ·refine xN.of [(13,15)] ?_ ?_
  ·exact⟨fun _ _ _ _=>trivial,⟨fun _ _ _ _=>trivial,⟨fun _ _ _ _=>trivial,⟨fun _ _ _ _=>trivial,⟨fun _ _ _ _=>trivial,⟨fun _ _ _ _=>trivial,⟨fun _ _ _ _=>trivial,⟨fun _ _ _ _=>trivial,⟨fun _ _ _ _=>trivial,⟨fun _ _ _ _=>trivial,⟨fun _ _ _ _=>trivial,⟨fun _ _ _ _=>trivial,⟨fun _ _ _ _=>trivial,⟨fun p hp=>(dJ (show p∈([]:List (Nat×aC))from hp)).elim,⟨fun _ _ _ _=>trivial,⟨fun p hp=>(dJ (show p∈([]:List (Nat×aC))from hp)).elim,trivial⟩⟩⟩⟩⟩⟩⟩⟩⟩⟩⟩⟩⟩⟩⟩⟩
  ·intro x hx s sj h1 h2 v vj w w' hp st hq;obtain rfl:=bE.1 hx;obtain rfl:=aJ h1;obtain rfl:=aJ h2;exact Or.inr hq
 ·refine cC ?_ ?_
  ·intro wD E sD;replace sD:Step M _ M wD aD:=sD;refine ad rfl rfl ?_;exact ab ⟨rfl,rfl,_,rfl,rfl,ax _ _⟩
  refine cC ?_ ?_
  ·intro wD E sD;replace sD:Step M _ M wD aD:=sD;refine ad rfl rfl ?_;exact ab ⟨rfl,rfl,_,rfl,rfl,ax _ _⟩
  refine cC ?_ ?_
  ·intro wD E sD;replace sD:Step M _ M wD (fun k=>k=g):=sD;refine ad rfl rfl ?_;exact ab ⟨rfl,rfl,_,rfl,rfl,ax _ _⟩
  refine cC ?_ ?_
  ·intro wD E sD;replace sD:Step M _ M wD (fun k=>k=g):=sD;refine ad rfl rfl ?_;exact ab ⟨rfl,rfl,_,rfl,rfl,ax _ _⟩
  refine cC ?_ ?_
  ·intro wD E sD;replace sD:Step M _ M wD aD:=sD;refine ad rfl rfl ?_;exact ab ⟨rfl,rfl,_,rfl,rfl,ax _ _⟩
  refine cC ?_ ?_
  ·intro wD E sD;replace sD:Step M _ M wD aD:=sD;refine ad rfl rfl ?_;exact ab ⟨rfl,rfl,_,rfl,rfl,ax _ _⟩
  refine cC ?_ ?_
  ·intro wD E sD;replace sD:Step M _ M wD aD:=sD;refine aP (aP (vW (size:=3) bR lV rfl rfl rfl (by omega) (q:=j*3) (by rw[ay,fR]) ?_));exact ab ⟨rfl,rfl,_,rfl,rfl,ax _ _⟩
  refine cC ?_ ?_
  ·intro wD E sD;replace sD:Step M _ M wD aD:=sD;refine aP ?_;refine de (M:=fun k=>M k∧k≠g) (A:=RT.hd) dG rfl lV (by decide) rfl rfl rfl ((h.aM sD).ptr hy) (aq _ _) (fun va pW=>?_);obtain⟨rfl,_,_,_⟩:=tf pW;exact ab ⟨rfl,rfl,_,rfl,rfl,ax _ _⟩
  refine cC ?_ ?_
  ·intro wD E sD;replace sD:Step M _ M wD (fun k=>k=g):=sD;refine ad rfl rfl ?_;exact ab ⟨rfl,rfl,_,rfl,rfl,ax _ _⟩
  refine cC ?_ ?_
  ·intro wD E sD;replace sD:Step M _ M wD (fun k=>k=g):=sD;refine ad rfl rfl ?_;exact ab ⟨rfl,rfl,_,rfl,rfl,ax _ _⟩
  refine cC ?_ ?_
  ·intro wD E sD;replace sD:Step M _ M wD (fun k=>k=g):=sD;refine aP (aP (vW (size:=3) bR lV rfl rfl rfl (by omega) (q:=i*3) (by rw[ay,fR]) ?_));exact ab ⟨rfl,rfl,_,rfl,rfl,ax _ _⟩
  refine cC ?_ ?_
  ·intro wD E sD;replace sD:Step M _ M wD aD:=sD;refine aP ?_;refine de (M:=fun k=>M k∧k≠g) (A:=RT.hd) dG rfl lV (by decide) rfl rfl rfl ((h.aM sD).ptr hx) (aq _ _) (fun va pW=>?_);obtain⟨rfl,_,_,_⟩:=tf pW;exact ab ⟨rfl,rfl,_,rfl,rfl,ax _ _⟩
  refine cC ?_ ?_
  ·intro wD E sD;replace sD:Step M _ M wD aD:=sD;refine aP (aP (aP (aP (aP (aP (aP (aP (aP (vW (size:=3) bR lV rfl rfl rfl (by omega) (q:=i*3) (by rw[ay,fR]) ?_)))))))));exact ab ⟨rfl,rfl,_,rfl,rfl,ax _ _⟩
  refine cC ?_ ?_
  ·intro wD E sD;replace sD:Step M _ M wD aD:=sD;refine aP (aP (aP (aP (aP (aP (aP (aP (aP ?_))))))));refine Rg.Fi (A:=RT.hd) (M:=M) lV rfl rfl rfl (h.aM sD) hi (MY ry1 ry2 ry3) (fun w' gB s'=>?_);exact ab ⟨rfl,rfl,undef,rfl,.inl gB,s'⟩
  refine cC ?_ ?_
  ·intro wD E sD;replace sD:Step M _ M wD (fun k=>k=g):=sD;refine aP (aP (aP (aP (aP (aP (aP (aP (aP (aP (aP (aP ?_)))))))))));refine aP (aP (aP ?_));intro V9 Va;refine vW (size:=3) bR lV rfl rfl rfl (by omega) (q:=j*3) (by rw[ay,fR]) ?_;exact ab ⟨rfl,rfl,_,rfl,rfl,ax _ _⟩
  refine cC ?_ ?_
  ·intro wD E sD;replace sD:Step M _ M wD (fun k=>k=g):=sD;refine aP (aP ?_);intro V9 Va;refine aP (aP (aP (aP (aP (aP (aP (aP (aP (aP (aP (aP ?_)))))))))));refine aP ?_;intro V9 Va;rcases Va with ho|ho
   ·refine Rg.Fi (A:=RT.hd) (M:=M) lV rfl rfl rfl ho (by rw[fA];exact hj) (MY rx1 rx2 rx3) (fun w' gB s'=>?_);exact ab ⟨rfl,rfl,undef,rfl,by rw[HF hx hy];exact gB,s'⟩
   ·refine Rg.Fi (A:=RT.hd) (M:=M) lV rfl rfl rfl ho (by rw[lT];exact hj) (MY rx1 rx2 rx3) (fun w' gB s'=>?_);exact ab ⟨rfl,rfl,undef,rfl,by rw[I4 hx hy]at gB;exact gB,s'⟩
  exact ef.nil
 ·intro wD0 Vb;replace Vb:Step M _ M wD0 (fun b=>(fun k=>k=g) b∨(fun k=>k=g) b):=Vb;refine aP (aP (aP (aP (aP (aP (aP (aP (aP (aP (aP (aP ?_)))))))))));refine aP ?_;intro akV ag2;refine aP ?_;intro akW Vc
  first|refine rj ?_|simp+decide only[rq,jy,if_true,if_false]|skip
  exact fY rfl ⟨Vc,Vb.cG (fun b hb=>by rcases hb with hb|hb<;>(have hb:b=g:=hb;subst hb;rfl)) (fun b hb=>by have hb:b=g:=(aJ hb).symm;subst hb;exact PQ)⟩
theorem GL {M:aC} {w0:World} {bh base:Nat} {v:Value} {hs:List Hd} {a b c:Int} (hM:Lt M w0) (h:rG 180 183 M w0 bh base v hs) (ra:lU a) (rb:lU b) (rc:lU c) (hl:hs.length≤1099511627776):
  Spec Tryz.prog 330 #[.pointer (some ⟨bh,0,none⟩),.iface 183 (.agg #[.int .i64 a,.int .i64 b,.int .i64 c])] w0 (fun v' w'=>∃M' v2,rG 180 183 M' w' bh base v2 (hs++[(a,b,c)])∧Lt M' w'∧Step M w0 M' w' (NB 183 M w0 bh base)):=by
 have hbh:=h.h;obtain⟨g,cap,cur,hvg,Sb,PQ,Eg⟩:=h.o.ve h.nn;have hgl:=ak Eg;refine bc (args:=[_,_]) (fn:=Tryz.f330) Tryz.func330 rfl (n:=13) Tryz.ntmps330 ?_;apply T.CD (M:=M) mixed [(7,fP v)] [cT.eq _,cT.eq _,cT.eq _,cT.eq _,cT.eq _,cT.eq _,cT.V ((RT.hd).sl) [(a,b,c)],(cT.mk' (fun v w=>∃M2,(∀b,b<w0.heap.size→(M2 b↔M b))∧Lt M2 w∧Own RT.hd 183 M2 w base v (hs++[(a,b,c)])) (fun⟨M2,h1,h2,h3⟩ s=>⟨M2,h1,(s.any M2).lt h2,h3.aM (s.any M2)⟩))] 8
 ·rfl
 ·rfl
 ·rfl
 ·rfl
 ·rfl
 ·intro p hp b hb;obtain rfl:=bE.1 hp;exact h.o.mut_ b hb
 ·exact⟨fun _ _ _ _=>trivial,⟨fun _ _ _ _=>trivial,⟨fun _ _ _ _=>trivial,⟨fun _ _ _ _=>trivial,⟨fun _ _ _ _=>trivial,⟨fun _ _ _ _=>trivial,⟨fun _ _ _ _=>trivial,⟨fun p hp=>(dJ (show p∈([]:List (Nat×aC))from hp)).elim,trivial⟩⟩⟩⟩⟩⟩⟩⟩
 ·refine aG ?_ ?_
  ·intro wD E sD;replace sD:Step M _ M wD (fP v):=sD;refine ad rfl rfl ?_;exact ab ⟨rfl,rfl,_,rfl,rfl,ax _ _⟩
  refine aG ?_ ?_
  ·intro wD E sD;replace sD:Step M _ M wD (fP v):=sD;refine ad rfl rfl ?_;exact ab ⟨rfl,rfl,_,rfl,rfl,ax _ _⟩
  refine aG ?_ ?_
  ·intro wD E sD;replace sD:Step M _ M wD (fP v):=sD;refine aP (bS rfl ⟨_,rfl⟩ rfl ?_);exact ab ⟨rfl,rfl,_,rfl,rfl,ax _ _⟩
  refine aG ?_ ?_
  ·intro wD E sD;replace sD:Step M _ M wD aD:=sD;refine aP (aL bR rfl rfl rfl (cR sD (by assumption)) rfl ?_);exact ab ⟨rfl,rfl,_,rfl,rfl,ax _ _⟩
  refine aG ?_ ?_
  ·intro wD E sD;replace sD:Step M _ M wD (fP v):=sD;refine ad rfl rfl ?_;exact ab ⟨rfl,rfl,_,rfl,rfl,ax _ _⟩
  refine aG ?_ ?_
  ·intro wD E sD;replace sD:Step M _ M wD (fP v):=sD;refine aP (Rg.G3 dG rfl rfl rfl ?_);exact ab ⟨rfl,rfl,_,rfl,rfl,ax _ _⟩
  refine aG ?_ ?_
  ·intro wD E sD;replace sD:Step M _ M wD aD:=sD;refine aP ?_;refine dQ (A:=RT.hd) (hn:=by decide) (M:=M) bR lV (by decide) rfl rfl (sD.lt hM) (MY ra rb rc) (.inl rfl) (fun u6 w6 Fz s6=>?_);exact ab ⟨rfl,rfl,_,rfl,Fz,s6⟩
  refine aG ?_ ?_
  ·intro wD E sD;replace sD:Step M _ M wD aD:=sD;refine aP ?_;intro v6 uM;refine cX (M:=M) (base:=base) bR lV rfl rfl rfl rfl (h.o.aM sD) uM (aq _ _) (by simp;omega) (by simp;omega) (by have:=sD.size;omega) (fun v7 M7 w7 oa s7=>?_);exact ab ⟨rfl,rfl,_,rfl,⟨M7,fun b hb=>(s7.mem b (iu hb sD.size)),s7.lt (sD.lt hM),oa⟩,s7.back⟩
  exact xo
 ·intro wD0 Vb;replace Vb:Step M _ M wD0 (fP v):=Vb;refine aP (aP (aP (aP (aP (aP ?_)))));intro aqk akX;intro ag4 ZR;obtain⟨M7,hm7,hl7,oa⟩:=ZR;have s7:=Vb.Zq hm7 hl7;have hb7:=s7.keep h.h (fun hk=>h.apart bh hk rfl);have mb7:M7 bh:=(hm7 bh (ak h.h)).2 h.mh;refine bS rfl ⟨_,rfl⟩ rfl ?_;refine cu (M:=M7) (u:=v) ZL rfl rfl hb7 rfl (by obtain⟨_,_,he,_⟩:=oa.isSlice;rw[he];rfl) mb7 (fun w9 h9 s9=>?_);refine ab ?_
  first|refine rj ?_|simp+decide only[rq,jy,if_true,if_false]|skip
  refine fY rfl ⟨M7,ag4,⟨h9,mb7,oa.step s9 (fun k hk=>oa.apart hb7 h.ne k hk),oa.BW (by simp),h.ne⟩,s9.lt hl7,?_⟩;exact(s7.nbw h).trans s9 (fun b hb he=>⟨he▸h.mh,.inl he⟩)
theorem Jm {M:aC} {w0:World} {bh base:Nat} {v:Value} {hs:List Hd} {a b c:Int} (hM:Lt M w0) (h:rG 180 183 M w0 bh base v hs) (hx:hs[hs.length-1]? =some (a,b,c)):
  Spec Tryz.prog 329 #[.pointer (some ⟨bh,0,none⟩)] w0 (fun v' w'=>v'= .iface 183 (.agg #[.int .i64 a,.int .i64 b,.int .i64 c])∧∃M' v2,rG 180 183 M' w' bh base v2 (hs.take (hs.length-1))∧Lt M' w'∧Step M w0 M' w' (NB 183 M w0 bh base)):=by
 obtain⟨g,cap,cur,rfl,Sb,PQ,Eg⟩:=h.o.ve h.nn;have hbh:=h.h;have hlen:=h.o.ltM;have tz:=(an.1 hx).1;obtain⟨vx,rB⟩:=h.o.val hx;obtain⟨rfl,ra,rb,rc⟩:=tf rB;obtain⟨_,Wu,ZS,ak2⟩:=h.o.isSlice;simp only[fW]at ZS;have lF:hs.length≤cap:=by omega
 refine bc (args:=[_]) (fn:=Tryz.f329) Tryz.func329 rfl (n:=27) Tryz.ntmps329 (aj (ae (ah rfl rfl (ab (aj ?_)))));apply T.CD (M:=M) mixed [] [cT.eq _,cT.eq _,cT.eq _,cT.eq _,cT.eq _,cT.eq _,cT.eq _,cT.eq _,cT.eq (.pointer (some ⟨g,(hs.length-1)*3,none⟩)),cT.eq (.agg #[.int .i64 a,.int .i64 b,.int .i64 c]),(cT.mk' (fun v w=>∃b:Nat,v= .pointer (some ⟨b,0,none⟩)∧w0.heap.size≤b∧b<w.heap.size∧w.heap[b]? =some (.cells #[.int .i64 0,.int .i64 0,.int .i64 0] 183 (0,0))) (fun⟨b,h1,h2,h3,h4⟩ s=>⟨b,h1,h2,iu h3 s.size,s.aK h4⟩))] 11
 ·rfl
 ·rfl
 ·rfl
 ·rfl
 ·rfl
 ·exact fun p hp=>by cases hp
 ·exact vX.none
 ·refine aG ?_ ?_
  ·intro wD E sD;refine ad rfl rfl ?_;exact ab ⟨rfl,rfl,_,rfl,rfl,ax _ _⟩
  refine aG ?_ ?_
  ·intro wD E sD;refine aP (bS rfl ⟨_,rfl⟩ rfl ?_);exact ab ⟨rfl,rfl,_,rfl,rfl,ax _ _⟩
  refine aG ?_ ?_
  ·intro wD E sD;refine aP (aL bR rfl rfl rfl (cR sD (by assumption)) rfl ?_);exact ab ⟨rfl,rfl,_,rfl,rfl,ax _ _⟩
  refine aG ?_ ?_
  ·intro wD E sD;refine ad rfl rfl ?_;exact ab ⟨rfl,rfl,_,rfl,rfl,ax _ _⟩
  refine aG ?_ ?_
  ·intro wD E sD;refine aP (bS rfl ⟨_,rfl⟩ rfl ?_);exact ab ⟨rfl,rfl,_,rfl,rfl,ax _ _⟩
  refine aG ?_ ?_
  ·intro wD E sD;refine aP (aL bR rfl rfl rfl (cR sD (by assumption)) rfl ?_);exact ab ⟨rfl,rfl,_,rfl,rfl,ax _ _⟩
  refine aG ?_ ?_
  ·intro wD E sD;refine aP (Rg.mu bR rfl rfl ?_);exact ab ⟨rfl,rfl,_,rfl,rfl,ax _ _⟩
  refine aG ?_ ?_
  ·intro wD E sD;refine aP (fq rfl rfl rfl (by omega) ?_);exact ab ⟨rfl,rfl,_,rfl,rfl,ax _ _⟩
  refine aG ?_ ?_
  ·intro wD E sD;refine aP (aP (vW (size:=3) bR lV rfl rfl rfl (by omega) (q:=(hs.length-1)*3) (by rw[show((hs.length:Int)-1).toNat=hs.length-1 from by omega,fR]) ?_));exact ab ⟨rfl,rfl,_,rfl,rfl,ax _ _⟩
  refine aG ?_ ?_
  ·intro wD E sD;refine aP ?_;refine de (M:=fun k=>M k∧k≠g) (A:=RT.hd) dG rfl lV (by decide) rfl rfl rfl ((h.o.aM sD).ptr hx) (aq _ _) (fun va pW=>?_);obtain⟨rfl,_,_,_⟩:=tf pW;exact ab ⟨rfl,rfl,_,rfl,rfl,ax _ _⟩
  refine aG ?_ ?_
  ·intro wD E sD;refine ey M lV rfl (fun b7 w7 z7 z7' g7 s7=>?_);exact ab ⟨rfl,rfl,_,rfl,⟨b7,rfl,eJ sD.size z7,z7',g7⟩,s7.any M⟩
  exact xo
 ·intro KG mQ;refine aP (aP (aP (aP (aP (aP (aP (aP (aP (aP ?_)))))))));intro ak3 Vd;obtain⟨b7,rfl,z7,z7',g7⟩:=Vd;have s7:=mQ.own z7 z7';refine ez (M:=ins M b7) (vs:=[.int .i64 a,.int .i64 b,.int .i64 c]) lV rfl rfl (by intro u hu;simp only[bX,dJ,or_false]at hu;rcases hu with rfl|rfl|rfl<;>rfl) rfl rfl g7 (.inl rfl) (fun w8 g8 s8=>?_);have S8:=s7.cg s8 (fun b hb=>by have hb:b=b7:=hb;rw[hb];exact z7);have LB:=ak hbh;have ag6:=S8.aK hbh;clear hbh;refine ab (aj ?_);apply T.CD (M:=ins M b7) mixed [] [cT.eq _,cT.eq _,cT.eq _,cT.eq _,cT.eq _,cT.eq _,cT.eq _,cT.eq _,cT.eq _,cT.eq (.slice (some ⟨g,0,none⟩) (hs.length-1) cap)] 10
  ·rfl
  ·rfl
  ·rfl
  ·rfl
  ·rfl
  ·exact fun p hp=>by cases hp
  ·exact vX.none
  ·refine aG ?_ ?_
   ·intro wD E sD;refine ad rfl rfl ?_;exact ab ⟨rfl,rfl,_,rfl,rfl,ax _ _⟩
   refine aG ?_ ?_
   ·intro wD E sD;refine ad rfl rfl ?_;exact ab ⟨rfl,rfl,_,rfl,rfl,ax _ _⟩
   refine aG ?_ ?_
   ·intro wD E sD;refine aP (bS rfl ⟨_,rfl⟩ rfl ?_);exact ab ⟨rfl,rfl,_,rfl,rfl,ax _ _⟩
   refine aG ?_ ?_
   ·intro wD E sD;refine aP (aL bR rfl rfl rfl (cR sD (by assumption)) rfl ?_);exact ab ⟨rfl,rfl,_,rfl,rfl,ax _ _⟩
   refine aG ?_ ?_
   ·intro wD E sD;refine ad rfl rfl ?_;exact ab ⟨rfl,rfl,_,rfl,rfl,ax _ _⟩
   refine aG ?_ ?_
   ·intro wD E sD;refine aP (bS rfl ⟨_,rfl⟩ rfl ?_);exact ab ⟨rfl,rfl,_,rfl,rfl,ax _ _⟩
   refine aG ?_ ?_
   ·intro wD E sD;refine aP (aL bR rfl rfl rfl (cR sD (by assumption)) rfl ?_);exact ab ⟨rfl,rfl,_,rfl,rfl,ax _ _⟩
   refine aG ?_ ?_
   ·intro wD E sD;refine aP (Rg.mu bR rfl rfl ?_);exact ab ⟨rfl,rfl,_,rfl,rfl,ax _ _⟩
   refine aG ?_ ?_
   ·intro wD E sD;refine aP (fq rfl rfl rfl (by omega) ?_);exact ab ⟨rfl,rfl,_,rfl,rfl,ax _ _⟩
   refine aG ?_ ?_
   ·intro wD E sD;refine aP (aP (Rg.SC bR lV rfl rfl rfl (by omega) (aV (v':= .slice (some ⟨g,0,none⟩) (hs.length-1) cap) (by rw[show((hs.length:Int)-1).toNat=hs.length-1 from by omega]) ?_)));exact ab ⟨rfl,rfl,_,rfl,rfl,ax _ _⟩
   exact xo
  ·intro wD2 IX;refine aP (aP (aP (aP (aP (aP (aP (aP (aP (aP (bS rfl ⟨_,rfl⟩ rfl ?_))))))))));refine cu (M:=ins M b7) (u:= .slice (some ⟨g,0,none⟩) hs.length cap) ZL rfl rfl (IX.aK ag6) rfl rfl (.inr h.mh) (fun w9 h9 s9=>?_);have g9:=s9.keep (IX.aK g8) (fun e=>by have e:b7=bh:=e;omega);refine ab (aj (ae (iM (vs:=[.int .i64 a,.int .i64 b,.int .i64 c]) dG rfl lV rfl rfl rfl g9 (Rg.xu dG rfl rfl rfl (ah rfl rfl (ab (aN ?_)))))));have Pv:Own RT.hd 183 (ins M b7) w9 base (.slice (some ⟨g,0,none⟩) hs.length cap) hs:=((h.o.aM S8).aM IX).step s9 (fun k hk e=>h.apart k hk e);have S9:=(S8.aB IX).cG (N':=NB 183 M w0 bh base) (fun _ h=>h.elim) (fun _ h=>h.1);exact aU rfl rfl ⟨rfl,ins M b7,_,⟨h9,.inr h.mh,Pv.cut (by omega),by simp,h.ne⟩,s9.lt (IX.lt (S8.lt hM)),S9.trans s9 (fun b hb he=>⟨he▸h.mh,.inl he⟩)⟩
end Go.K
namespace Go.K
open Go.Proofs
namespace TKHeap11
theorem P5:Enters Tryz.prog 110:=enters Tryz.func110 rfl (by decide)
theorem ag7:Enters Tryz.prog 159:=enters Tryz.func159 rfl (by decide)
theorem ag8:Enters Tryz.prog 160:=enters Tryz.func160 rfl (by decide)
theorem Nn:Enters Tryz.prog 328:=enters Tryz.func328 rfl (by decide)
theorem ag9:Enters Tryz.prog 329:=enters Tryz.func329 rfl (by decide)
theorem aha:Enters Tryz.prog 330:=enters Tryz.func330 rfl (by decide)
theorem No:Enters Tryz.prog 331:=enters Tryz.func331 rfl (by decide)
end TKHeap11
open TKHeap11
set_option maxRecDepth 10000
theorem P7 {M:aC} {w0:World} {bh base:Nat} {v:Value} {hs:List Hd} {j:Nat} (h0:rG 180 183 M w0 bh base v hs) (dp:Ob hs j) (Wz:j<hs.length) (hl:hs.length≤140737488355328):
  Spec Tryz.prog 159 #[.iface 178 (.pointer (some ⟨bh,0,none⟩)),.int .i64 j] w0 (fun v' w'=>∃rf,rG 180 183 M w' bh base v rf∧p8 rf∧rf.Perm hs∧Step M w0 M w' (fP v)):=by
 refine bc (args:=[_,_]) (fn:=Tryz.f159) Tryz.func159 rfl (n:=23) Tryz.ntmps159 (aZ ?_);refine dn (σ:=Nat×List Hd) (fun s=>[(0,.iface 178 (.pointer (some ⟨bh,0,none⟩))),(1,.int .i64 s.1)]) (fun s w=>rG 180 183 M w bh base v s.2∧Ob s.2 s.1∧s.1<s.2.length∧s.2.length=hs.length∧s.2.Perm hs∧Step M w0 M w (fP v)) (fun s=>s.1) (j,hs) (.cons rfl (.cons rfl .nil)) ?_ ?_
 ·exact⟨h0,dp,Wz,rfl,List.Perm.refl _,(ax _ _).cG (fun _ h=>h.elim) (fun b hb=>h0.o.mut_ b hb)⟩
 ·rintro⟨k,xs⟩ w1 ⟨h,hu,hk,qU,hp,S⟩;dsimp only at h hu hk qU hp ⊢;refine aZ (aj (ae (ad rfl rfl (fq rfl rfl rfl (by omega) (Rg.par rfl rfl rfl (by omega) ?_)))));obtain⟨i,hi⟩:∃i:Nat,i=(k-1)/2:=⟨_,rfl⟩;rw[←hi];refine ah rfl rfl (ab (aj (aj (ae (ad rfl rfl (ad rfl rfl (k7 rfl rfl rfl (ad rfl rfl ?_))))))));refine aO (g:=11) rfl (fun lr=>?_) (fun lr=>?_)
  ·refine ar rfl rfl rfl rfl (ar rfl rfl rfl rfl (ar rfl rfl rfl rfl (ar rfl rfl rfl rfl (ar rfl rfl rfl rfl (aW rfl rfl rfl (ab (lD rfl (cL ?_))))))))
   first|refine rj ?_|simp+decide only[rq,jy,if_true,if_false]|skip
   first
   |exact fY rfl ⟨xs,h,hu.done (.inl (by omega)),hp,S⟩
   |exact fY rfl ⟨xs,h,hu.done (.inr (by rw[←hi];omega)),hp,S⟩
  ·refine al rfl rfl (ad rfl rfl (al rfl rfl (ad rfl rfl (al rfl rfl (ad rfl rfl (al rfl rfl ?_))))));refine mT rfl rfl rfl (Ew.load dh bR rfl h.h rfl) Nn (oz (i:=k) (j:=i) (h.view (by omega)) (by omega) (by omega)) (fun r w2 hq=>?_);obtain⟨rfl,sq⟩:=hq;have h:=h.aM (sq.any M);replace S:=S.aB (sq.any M);refine al rfl rfl (mS rfl rfl (aV (v':= .bool (decide (¬(hn xs k<hn xs i)))) (by rw[decide_not]) (aE rfl rfl rfl (ab ?_))));refine bP rfl (fun c1=>?_) (fun c1=>?_)
   ·refine cL ?_
    first|refine rj ?_|simp+decide only[rq,jy,if_true,if_false]|skip
    first
    |exact fY rfl ⟨xs,h,hu.done (.inl (by omega)),hp,S⟩
    |exact fY rfl ⟨xs,h,hu.done (.inr (by rw[←hi];omega)),hp,S⟩
   ·have dO:=dI.1 c1;refine aT (aj (ae (ad rfl rfl (ad rfl rfl (ad rfl rfl ?_)))));refine mT rfl rfl rfl (Ex.load dh bR rfl h.h rfl) No (oA (i:=i) (j:=k) h.o h.nn (by omega) (by omega)) (fun r w3 hq=>?_);obtain⟨ho,sq⟩:=hq;have h2:=h.wrote sq ho;have S2:=S.trans sq (fun _ _ h=>h);refine ab (ae (ad rfl rfl (ah rfl rfl (ab ?_))));refine⟨rfl,(i,swp xs i k),(.cons rfl (.cons rfl .nil)),?_,?_⟩
    ·refine⟨h2,?_,by rw[lT];simp only;omega,by rw[lT];exact qU,(qK (by omega) hk).trans hp,S2⟩;simp only;rw[hi];exact hu.swap hk (by omega) (by rw[←hi];exact dO)
    ·simp only;omega
theorem Jn {M:aC} {w0:World} {bh base:Nat} {v:Value} {hs:List Hd} {n:Nat} (h0:rG 180 183 M w0 bh base v hs) (Rz:JH hs n 0) (hn0:n≤hs.length) (hl:hs.length≤140737488355328):
  Spec Tryz.prog 160 #[.iface 178 (.pointer (some ⟨bh,0,none⟩)),.int .i64 0,.int .i64 n] w0 (fun v' w'=>∃rf,rG 180 183 M w' bh base v rf∧(∀k,0<k→k<n→hn rf ((k-1)/2)≤hn rf k)∧rf.Perm hs∧(∀k,n≤k→rf.getD k (0,0,0)=hs.getD k (0,0,0))∧Step M w0 M w' (fP v)):=by
 refine bc (args:=[_,_,_]) (fn:=Tryz.f160) Tryz.func160 rfl (n:=48) Tryz.ntmps160 (aj (ae (ah rfl rfl (ab (aj (ae (ad rfl rfl (ah rfl rfl (ab (aj (aZ ?_)))))))))));refine dn (σ:=Nat×List Hd) (fun s=>[(0,.iface 178 (.pointer (some ⟨bh,0,none⟩))),(1,.int .i64 0),(2,.int .i64 n),(7,.int .i64 s.1)]) (fun s w=>rG 180 183 M w bh base v s.2∧JH s.2 n s.1∧s.1≤n∧s.2.length=hs.length∧s.2.Perm hs∧(∀k,n≤k→s.2.getD k (0,0,0)=hs.getD k (0,0,0))∧Step M w0 M w (fP v)) (fun s=>n-s.1) (0,hs) (.cons rfl (.cons rfl (.cons rfl (.cons rfl .nil)))) ?_ ?_
 ·exact⟨h0,Rz,bG _,rfl,List.Perm.refl _,fun _ _=>rfl,(ax _ _).cG (fun _ h=>h.elim) (fun b hb=>h0.o.mut_ b hb)⟩
 ·rintro⟨i,xs⟩ w1 ⟨h,hd,kq,qU,hp,hk,S⟩;dsimp only at h hd kq qU hp hk ⊢;refine aZ (aj (ae (ad rfl rfl (Rg.Ol rfl rfl rfl (by omega) (bD rfl rfl rfl (by omega) (aV (v':= .int .i64 ((2*i+1:Nat):Int)) (congrArg _ (by omega)) (ah rfl rfl (ab (aj (aj (ae ?_)))))))))));refine ad rfl rfl (ad rfl rfl (dT rfl rfl rfl (ad rfl rfl ?_)));refine aO (g:=18) rfl (fun ahb=>?_) (fun ahb=>?_)
  ·refine ar rfl rfl rfl rfl (ar rfl rfl rfl rfl (aW rfl rfl rfl (ab (lD rfl (cL (aj (ae (ad rfl rfl (ad rfl rfl (jc rfl rfl rfl (ah rfl rfl ?_)))))))))));refine ab (aN ?_)
   first
   |exact aU rfl rfl ⟨xs,h,hd.leaf (by omega),hp,hk,S⟩
   |exact aU rfl rfl ⟨xs,h,hd.stay B7 Kg (by omega),hp,hk,S⟩
  ·refine al rfl rfl (ad rfl rfl (al rfl rfl (cf rfl rfl rfl (aE rfl rfl rfl (ab (T.tx rfl ((by omega)) (aT (aj (ae (ad rfl rfl (ah rfl rfl ?_)))))))))));refine ab (aj (aj (ae (ad rfl rfl (bD rfl rfl rfl (by omega) (aV (v':= .int .i64 ((2*i+2:Nat):Int)) (congrArg _ (by omega)) (ah rfl rfl (ab (aj (ae (ad rfl rfl ?_)))))))))));refine ad rfl rfl (cf rfl rfl rfl (ad rfl rfl ?_));refine aO (g:=28) rfl (fun oc=>?_) (fun oc=>?_)
   ·refine al rfl rfl (ad rfl rfl (al rfl rfl (ad rfl rfl (al rfl rfl (ad rfl rfl (al rfl rfl ?_))))));refine mT rfl rfl rfl (Ew.load dh bR rfl h.h rfl) Nn (oz (i:=2*i+2) (j:=2*i+1) (h.view (by omega)) (by omega) (by omega)) (fun r w2 hq=>?_);obtain⟨rfl,sq⟩:=hq;have h:=h.aM (sq.any M);replace S:=S.aB (sq.any M);refine aW rfl rfl rfl (ab ?_);refine bP rfl (fun c6=>?_) (fun c6=>?_)
    ·obtain⟨j,hj⟩:∃j:Nat,j=2*i+2:=⟨_,rfl⟩;have B7:j=2*i+1∨j=2*i+2:=by omega
     have Jw:j<n:=by omega
     have Kg:∀k,(k=2*i+1∨k=2*i+2)→k<n→hn xs j≤hn xs k:=fun k hk F7=>by
      rcases hk with e|e
      ·rw[e,hj];omega
      ·rw[e,hj];exact Int.le_refl _
     refine ae (ad rfl rfl (ah rfl rfl (ab (aj (aj (ae (ad rfl rfl (ad rfl rfl (aV (v':= .int .i64 (j:Int)) (congrArg _ (by omega)) (ad rfl rfl ?_))))))))));refine mT rfl rfl rfl (Ew.load dh bR rfl h.h rfl) Nn (oz (i:=j) (j:=i) (h.view (by omega)) (by omega) (by omega)) (fun r w3 hq=>?_);obtain⟨rfl,sq⟩:=hq;have h:=h.aM (sq.any M);replace S:=S.aB (sq.any M);refine mS rfl rfl (aV (v':= .bool (decide (¬(hn xs j<hn xs i)))) (by rw[decide_not]) (ab ?_));refine bP rfl (fun c8=>?_) (fun c8=>?_)
     ·refine cL (aj (ae (ad rfl rfl (ad rfl rfl (jc rfl rfl rfl (ah rfl rfl (ab (aN ?_))))))))
      first
      |exact aU rfl rfl ⟨xs,h,hd.leaf (by omega),hp,hk,S⟩
      |exact aU rfl rfl ⟨xs,h,hd.stay B7 Kg (by omega),hp,hk,S⟩
     ·have dO:=dI.1 c8;refine aT (aj (ae (ad rfl rfl (ad rfl rfl (ad rfl rfl (aV (v':= .int .i64 (j:Int)) (congrArg _ (by omega)) ?_))))));refine mT rfl rfl rfl (Ex.load dh bR rfl h.h rfl) No (oA (i:=i) (j:=j) h.o h.nn (by omega) (by omega)) (fun r w4 hq=>?_);obtain⟨ho,sq⟩:=hq;have h2:=h.wrote sq ho;have S2:=S.trans sq (fun _ _ h=>h);refine ab (ae (ad rfl rfl (aV (v':= .int .i64 (j:Int)) (congrArg _ (by omega)) (ah rfl rfl (ab ?_)))));refine⟨rfl,(j,swp xs i j),(.cons rfl (.cons rfl (.cons rfl (.cons rfl .nil)))),?_,?_⟩
      ·refine⟨h2,hd.swap (by omega) Jw B7 Kg dO,by simp only;omega,by simp only;rw[lT];exact qU,(qK (by omega) (by omega)).trans hp,fun k F7=>?_,S2⟩;simp only;rw[qJ (by omega) (by omega),if_neg (by omega),if_neg (by omega)];exact hk k F7
      ·simp only;omega
    ·obtain⟨j,hj⟩:∃j:Nat,j=2*i+1:=⟨_,rfl⟩;have B7:j=2*i+1∨j=2*i+2:=by omega
     have Jw:j<n:=by omega
     have Kg:∀k,(k=2*i+1∨k=2*i+2)→k<n→hn xs j≤hn xs k:=fun k hk F7=>by
      rcases hk with e|e
      ·rw[e,hj];exact Int.le_refl _
      ·rw[e,hj];exact Int.not_lt.1 c6
     refine aT (aj (aj (ae (ad rfl rfl (ad rfl rfl (aV (v':= .int .i64 (j:Int)) (congrArg _ (by omega)) (ad rfl rfl ?_)))))));refine mT rfl rfl rfl (Ew.load dh bR rfl h.h rfl) Nn (oz (i:=j) (j:=i) (h.view (by omega)) (by omega) (by omega)) (fun r w3 hq=>?_);obtain⟨rfl,sq⟩:=hq;have h:=h.aM (sq.any M);replace S:=S.aB (sq.any M);refine mS rfl rfl (aV (v':= .bool (decide (¬(hn xs j<hn xs i)))) (by rw[decide_not]) (ab ?_));refine bP rfl (fun c8=>?_) (fun c8=>?_)
     ·refine cL (aj (ae (ad rfl rfl (ad rfl rfl (jc rfl rfl rfl (ah rfl rfl (ab (aN ?_))))))))
      first
      |exact aU rfl rfl ⟨xs,h,hd.leaf (by omega),hp,hk,S⟩
      |exact aU rfl rfl ⟨xs,h,hd.stay B7 Kg (by omega),hp,hk,S⟩
     ·have dO:=dI.1 c8;refine aT (aj (ae (ad rfl rfl (ad rfl rfl (ad rfl rfl (aV (v':= .int .i64 (j:Int)) (congrArg _ (by omega)) ?_))))));refine mT rfl rfl rfl (Ex.load dh bR rfl h.h rfl) No (oA (i:=i) (j:=j) h.o h.nn (by omega) (by omega)) (fun r w4 hq=>?_);obtain⟨ho,sq⟩:=hq;have h2:=h.wrote sq ho;have S2:=S.trans sq (fun _ _ h=>h);refine ab (ae (ad rfl rfl (aV (v':= .int .i64 (j:Int)) (congrArg _ (by omega)) (ah rfl rfl (ab ?_)))));refine⟨rfl,(j,swp xs i j),(.cons rfl (.cons rfl (.cons rfl (.cons rfl .nil)))),?_,?_⟩
      ·refine⟨h2,hd.swap (by omega) Jw B7 Kg dO,by simp only;omega,by simp only;rw[lT];exact qU,(qK (by omega) (by omega)).trans hp,fun k F7=>?_,S2⟩;simp only;rw[qJ (by omega) (by omega),if_neg (by omega),if_neg (by omega)];exact hk k F7
      ·simp only;omega
   ·obtain⟨j,hj⟩:∃j:Nat,j=2*i+1:=⟨_,rfl⟩;have B7:j=2*i+1∨j=2*i+2:=by omega
    have Jw:j<n:=by omega
    have Kg:∀k,(k=2*i+1∨k=2*i+2)→k<n→hn xs j≤hn xs k:=fun k hk F7=>by
     rcases hk with e|e
     ·rw[e,hj];exact Int.le_refl _
     ·omega
    refine ar rfl rfl rfl rfl (ar rfl rfl rfl rfl (ar rfl rfl rfl rfl (ar rfl rfl rfl rfl (aE rfl rfl rfl (ab (jD rfl (aT (aj (aj (ae (ad rfl rfl ?_)))))))))));refine ad rfl rfl (aV (v':= .int .i64 (j:Int)) (congrArg _ (by omega)) (ad rfl rfl ?_));refine mT rfl rfl rfl (Ew.load dh bR rfl h.h rfl) Nn (oz (i:=j) (j:=i) (h.view (by omega)) (by omega) (by omega)) (fun r w3 hq=>?_);obtain⟨rfl,sq⟩:=hq;have h:=h.aM (sq.any M);replace S:=S.aB (sq.any M);refine mS rfl rfl (aV (v':= .bool (decide (¬(hn xs j<hn xs i)))) (by rw[decide_not]) (ab ?_));refine bP rfl (fun c8=>?_) (fun c8=>?_)
    ·refine cL (aj (ae (ad rfl rfl (ad rfl rfl (jc rfl rfl rfl (ah rfl rfl (ab (aN ?_))))))))
     first
     |exact aU rfl rfl ⟨xs,h,hd.leaf (by omega),hp,hk,S⟩
     |exact aU rfl rfl ⟨xs,h,hd.stay B7 Kg (by omega),hp,hk,S⟩
    ·have dO:=dI.1 c8;refine aT (aj (ae (ad rfl rfl (ad rfl rfl (ad rfl rfl (aV (v':= .int .i64 (j:Int)) (congrArg _ (by omega)) ?_))))));refine mT rfl rfl rfl (Ex.load dh bR rfl h.h rfl) No (oA (i:=i) (j:=j) h.o h.nn (by omega) (by omega)) (fun r w4 hq=>?_);obtain⟨ho,sq⟩:=hq;have h2:=h.wrote sq ho;have S2:=S.trans sq (fun _ _ h=>h);refine ab (ae (ad rfl rfl (aV (v':= .int .i64 (j:Int)) (congrArg _ (by omega)) (ah rfl rfl (ab ?_)))));refine⟨rfl,(j,swp xs i j),(.cons rfl (.cons rfl (.cons rfl (.cons rfl .nil)))),?_,?_⟩
     ·refine⟨h2,hd.swap (by omega) Jw B7 Kg dO,by simp only;omega,by simp only;rw[lT];exact qU,(qK (by omega) (by omega)).trans hp,fun k F7=>?_,S2⟩;simp only;rw[qJ (by omega) (by omega),if_neg (by omega),if_neg (by omega)];exact hk k F7
     ·simp only;omega
theorem Jo {M:aC} {w0:World} {bh base:Nat} {v:Value} {hs:List Hd} {a b c:Int} (hM:Lt M w0) (h:rG 180 183 M w0 bh base v hs) (hh:p8 hs) (ra:lU a) (rb:lU b) (rc:lU c) (hl:hs.length≤1099511627776):
  Spec Tryz.prog 109 #[.iface 178 (.pointer (some ⟨bh,0,none⟩)),.iface 183 (.agg #[.int .i64 a,.int .i64 b,.int .i64 c])] w0 (fun v' w'=>∃M' v2 rf,rG 180 183 M' w' bh base v2 rf∧p8 rf∧rf.Perm (hs++[(a,b,c)])∧Lt M' w'∧Step M w0 M' w' (NB 183 M w0 bh base)):=by
 refine bc (args:=[_,_]) (fn:=Tryz.f109) Tryz.func109 rfl (n:=12) Tryz.ntmps109 (aj (ae (ad rfl rfl (ad rfl rfl ?_))));refine mT rfl rfl rfl (ZN.ptr dh _) aha (GL hM h ra rb rc hl) (fun r w1 hq=>?_);obtain⟨M1,v1,h1,nH,s1⟩:=hq;refine ab (ae (ad rfl rfl (ad rfl rfl ?_)));refine mT rfl rfl rfl (ZM.load dh bR rfl h1.h rfl) P5 (vN h1.o) (fun r w2 hq=>?_);obtain⟨rfl,rfl⟩:=hq;have HU:(hs++[(a,b,c)]).length=hs.length+1:=by simp
 refine fq rfl rfl rfl (by omega) (aV (v':= .int .i64 (hs.length:Int)) (congrArg _ (by omega)) ?_);refine aX rfl rfl ag7 (P7 h1 (Ob.push hh _) (by omega) (by omega)) (fun r2 w3 h=>?_);obtain⟨rf,h2,ZT,G2,s2⟩:=h;refine ab ?_
 first|refine rj ?_|simp+decide only[rq,jy,if_true,if_false]|skip
 exact fY rfl ⟨M1,v1,rf,h2,ZT,G2,s2.lt nH,s1.nb (s2.nbw h1)⟩
theorem Np {M:aC} {w0:World} {bh base:Nat} {v:Value} {hs:List Hd} (hM:Lt M w0) (h:rG 180 183 M w0 bh base v hs) (hh:p8 hs) (tz:0<hs.length) (hl:hs.length≤1099511627776):
  Spec Tryz.prog 111 #[.iface 178 (.pointer (some ⟨bh,0,none⟩))] w0 (fun v' w'=>∃a b c M' v2 rf,v'= .iface 183 (.agg #[.int .i64 a,.int .i64 b,.int .i64 c])∧(lU a∧lU b∧lU c)∧rG 180 183 M' w' bh base v2 rf∧p8 rf∧((a,b,c)::rf).Perm hs∧(∀x∈hs,a≤x.1)∧Lt M' w'∧Step M w0 M' w' (NB 183 M w0 bh base)):=by
 refine bc (args:=[_]) (fn:=Tryz.f111) Tryz.func111 rfl (n:=15) Tryz.ntmps111 (aj (ae (ah rfl rfl (ab (aj (ae (ad rfl rfl ?_)))))));refine mT rfl rfl rfl (ZM.load dh bR rfl h.h rfl) P5 (vN h.o) (fun r w1 hq=>?_);obtain⟨rfl,rfl⟩:=hq;refine fq rfl rfl rfl (by omega) (aV (v':= .int .i64 ((hs.length-1:Nat):Int)) (congrArg _ (by omega)) (ah rfl rfl (ab (aj (ae (ad rfl rfl (ad rfl rfl ?_)))))));refine mT rfl rfl rfl (Ex.load dh bR rfl h.h rfl) No (oA (i:=0) (j:=hs.length-1) h.o h.nn (by omega) (by omega)) (fun r w2 hq=>?_);obtain⟨tg,s2⟩:=hq;have h2:=h.wrote s2 tg;have nw:=lT hs 0 (hs.length-1);refine ab (aj (ae (ad rfl rfl (ad rfl rfl ?_))));refine aX rfl rfl ag8 (Jn h2 (JH.pop hh tz) (by omega) (by omega)) (fun r3 w3 h=>?_);obtain⟨ys,h3,JN,hp3,hk3,s3⟩:=h;have hpp:=hp3.trans (qK (xs:=hs) (i:=0) (j:=hs.length-1) (by omega) (by omega));have Ff:=hpp.length_eq;have jl:ys.getD (hs.length-1) (0,0,0)=hs.getD 0 (0,0,0):=by rw[hk3 _ (aR _),qJ (by omega) (by omega),if_pos rfl]
 obtain⟨⟨a,b,c⟩,IQ⟩:∃x,ys[ys.length-1]? =some x:=⟨_,au (by omega)⟩;obtain⟨x,hxe,hpx⟩:=PM tz hpp jl;have ahc:x=(a,b,c):=by rw[←hxe,az,←Ff,IQ];rfl
 subst ahc;obtain⟨vx,rB⟩:=h3.o.val IQ;obtain⟨_,ra,rb,rc⟩:=tf rB;refine ab (aj (ae (ad rfl rfl ?_)));refine mT rfl rfl rfl (agY.ptr dh _) ag9 (Jm (s3.lt (s2.lt hM)) h3 IQ) (fun r w4 hq=>?_);obtain⟨rfl,M4,v4,h4,hM4,s4⟩:=hq;refine ah rfl rfl (ab (aN ?_));rw[Ff]at h4
 have MX:∀x∈hs,a≤x.1:=fun x hx=>by
  obtain⟨k,hk,_,Bc⟩:=U0 hx;have:=hh.min k hk;have e0:hn hs 0=a:=by unfold hn;rw[←jl,hxe]
  omega
 have sS:=((s2.trans s3 (fun _ _ h=>h)).nbw h).nb s4;exact aU rfl rfl ⟨a,b,c,M4,v4,_,rfl,⟨ra,rb,rc⟩,h4,p8.take (by omega) JN,hpx,MX,hM4,sS⟩
end Go.K
namespace Go.K
open Go.Proofs
namespace TKPut11
theorem lV:TI Tryz.prog 183 (.agg #[(.int .i64 0),(.int .i64 0),(.int .i64 0)]) 3 24:=by unfold TI;kernel_rfl
theorem ahd:placesOf Tryz.prog 183=[(0,1),(1,1),(2,1)].map some:=by kernel_rfl
theorem ahe:Enters Tryz.prog 109:=enters Tryz.func109 rfl (by decide)
end TKPut11
open TKPut11
set_option maxRecDepth 10000
theorem Ey {M:aC} {w0:World} {bl b4 bh base:Nat} {vl v:Value} {ls:List (List Int)} {hs:List Hd} {i k:Nat} (hM:Lt M w0) (k5:w0.heap[bl]? =some (.cells #[vl] 119 (0,0))) (rD:w0.heap[b4]? =some (.cells #[.pointer (some ⟨bh,0,none⟩)] 178 (0,0))) (hv:(((RT.int .i64).sl).sl).V M w0 ls vl) (h:rG 180 183 M w0 bh base v hs) (hh:p8 hs) (hi:i<ls.length) (hk:k≤1099511627776) (hl:hs.length≤1099511627776):
  Spec Tryz.prog 108 #[.int .i64 i,.int .i64 k,.pointer (some ⟨bl,0,none⟩),.pointer (some ⟨b4,0,none⟩)] w0 (fun v' w'=>∃M' v2 rf,rG 180 183 M' w' bh base v2 rf∧p8 rf∧rf.Perm (hs++I2 ls i k)∧Lt M' w'∧Step M w0 M' w' (NB 183 M w0 bh base)):=by
 have hlen:=ep hv;obtain⟨li,hli⟩:∃x,ls[i]? =some x:=⟨_,au hi⟩;have pU:ls.getD i []=li:=by rw[az,hli];rfl
 refine bc (args:=[_,_,_,_]) (fn:=Tryz.f108) Tryz.func108 rfl (n:=27) Tryz.ntmps108 (aj (ae (ad rfl rfl (aL cK rfl rfl rfl k5 rfl (ad rfl rfl ?_)))));refine cF (M:=M) cK kG rfl rfl rfl (hv) (aq _ _) (by first|omega|decide) (fun aql ahg ZU ak5=>?_);obtain rfl:li=ahg:=dC (aJ (ZU.symm.trans (by rw[ay];exact hli)));refine bV (M:=M) ao rfl rfl rfl rfl rfl (by assumption) (by repeat (first|exact aq _ _|refine aY (bu (by assumption)) ?_)) (fun ahh Nq=>?_);replace Nq:(((RT.int .i64).sl)).V M _ li ahh:=Nq
 first|refine bJ ao rfl (by assumption) rfl ?_|refine fS ao rfl (by assumption) rfl ?_
 refine cf rfl rfl rfl (ab ?_);refine bP rfl (fun c0=>?_) (fun c0=>?_)
 ·obtain⟨n,hn⟩:∃x,li[k]? =some x:=⟨_,au (by omega)⟩;have rn:lU n:=A8 Nq hn;have To:I2 ls i k=[(n,(i:Int),(k:Int))]:=by unfold I2;rw[pU,hn]
  apply T.CD (M:=M) mixed [] [cT.eq _,cT.eq (.iface 178 (.pointer (some ⟨bh,0,none⟩))),cT.eq _,cT.eq _,cT.ptr (((RT.int .i64).sl)) li,cT.V (((RT.int .i64).sl)) li,cT.eq _,cT.ptr (RT.int .i64) n,cT.eq (.int .i64 n),cT.eq _,cT.eq _,cT.eq (.agg #[.int .i64 n,.int .i64 i,.int .i64 k]),cT.eq (.iface 183 (.agg #[.int .i64 n,.int .i64 i,.int .i64 k]))] 13
  ·rfl
  ·rfl
  ·rfl
  ·rfl
  ·rfl
  ·exact fun p hp=>by cases hp
  ·exact vX.none
  ·refine aG ?_ ?_
   ·intro wD E sD;refine aL dh rfl rfl rfl (sD.aK rD) rfl ?_;exact ab ⟨rfl,rfl,_,rfl,rfl,ax _ _⟩
   refine aG ?_ ?_
   ·intro wD E sD;refine aP (Rg.xu dh rfl rfl rfl ?_);exact ab ⟨rfl,rfl,_,rfl,rfl,ax _ _⟩
   refine aG ?_ ?_
   ·intro wD E sD;refine aL cK rfl rfl rfl (sD.aK k5) rfl ?_;exact ab ⟨rfl,rfl,_,rfl,rfl,ax _ _⟩
   refine aG ?_ ?_
   ·intro wD E sD;refine ad rfl rfl ?_;exact ab ⟨rfl,rfl,_,rfl,rfl,ax _ _⟩
   refine aG ?_ ?_
   ·intro wD E sD;refine aP (aP ?_);refine cF (M:=M) cK kG rfl rfl rfl (hv.le sD.le) (aq _ _) (by omega) (fun ui ai nj hui=>?_);obtain rfl:li=ai:=dC (aJ (nj.symm.trans (by rw[ay];exact hli)));exact ab ⟨rfl,rfl,_,rfl,hui,ax _ _⟩
   refine aG ?_ ?_
   ·intro wD E sD;intro v4 rU;refine bV (M:=M) ao rfl rfl rfl rfl rfl (show dg (((RT.int .i64).sl)) M wD v4 li from rU) (aq _ _) (fun va pW=>?_);exact ab ⟨rfl,rfl,_,rfl,pW,ax _ _⟩
   refine aG ?_ ?_
   ·intro wD E sD;refine ad rfl rfl ?_;exact ab ⟨rfl,rfl,_,rfl,rfl,ax _ _⟩
   refine aG ?_ ?_
   ·intro wD E sD;intro v5 oF;refine aP ?_;refine cF (M:=M) ao I3 rfl rfl rfl ((show((RT.int .i64).sl).V M wD li v5 from oF)) (aq _ _) (by omega) (fun ui ai nj hui=>?_);obtain rfl:n=ai:=dC (aJ (nj.symm.trans (by rw[ay];exact hn)));exact ab ⟨rfl,rfl,_,rfl,hui,ax _ _⟩
   refine aG ?_ ?_
   ·intro wD E sD;intro v7 Iy;refine cd (M:=M) aw rfl rfl (show dg (RT.int .i64) M wD v7 n from Iy) (aq _ _) (fun kq=>?_);exact ab ⟨rfl,rfl,_,rfl,rfl,ax _ _⟩
   refine aG ?_ ?_
   ·intro wD E sD;refine ad rfl rfl ?_;exact ab ⟨rfl,rfl,_,rfl,rfl,ax _ _⟩
   refine aG ?_ ?_
   ·intro wD E sD;refine ad rfl rfl ?_;exact ab ⟨rfl,rfl,_,rfl,rfl,ax _ _⟩
   refine aG ?_ ?_
   ·intro wD E sD;refine aP (aP (aP (iW (places:=[(0,1),(1,1),(2,1)]) dG lV ahd rfl ⟨_,_,rfl,rfl,_,_,rfl,rfl,_,_,rfl,rfl,rfl⟩ (out:=[_,_,_]) ⟨0,[_],rfl,rfl,by simp[Value.cells],1,[_],rfl,rfl,by simp[Value.cells],2,[_],rfl,rfl,by simp[Value.cells],rfl⟩ ?_)));exact ab ⟨rfl,rfl,_,rfl,rfl,ax _ _⟩
   refine aG ?_ ?_
   ·intro wD E sD;refine aP (Rg.xu dG rfl rfl rfl ?_);exact ab ⟨rfl,rfl,_,rfl,rfl,ax _ _⟩
   exact xo
  ·intro KG mQ;refine aP (aP (aP (aP ?_)));intro aqm ak6;intro aqn ak7;refine aP ?_;intro aeR YC;refine aP (aP (aP (aP (aP ?_))));refine aX rfl rfl ahe (Jo (mQ.lt hM) (h.aM mQ) hh rn (by unfold lU;omega) (by unfold lU;omega) hl) (fun r w1 hq=>?_);obtain⟨M1,v1,rf,h1,hh1,N8,nH,s1⟩:=hq;refine ab ?_
   first|refine rj ?_|simp+decide only[rq,jy,if_true,if_false]|skip
   exact fY rfl ⟨M1,v1,rf,h1,hh1,by rw[To];exact N8,nH,mQ.nb0.nb s1⟩
 ·have To:I2 ls i k=[]:=by unfold I2;rw[pU,dS (by omega)]
  refine aT ?_
  first|refine rj ?_|simp+decide only[rq,jy,if_true,if_false]|skip
  exact fY rfl ⟨M,v,hs,h,hh,by rw[To,iX],hM,(ax _ _).nb0⟩
end Go.K
namespace Go.K
open Go.Proofs
namespace TKRises11
theorem Un:Enters Tryz.prog 51:=enters Tryz.func51 rfl (by decide)
theorem ahj:Enters Tryz.prog 106:=enters Tryz.func106 rfl (by decide)
theorem ahk:Enters Tryz.prog 107:=enters Tryz.func107 rfl (by decide)
theorem ahl:Enters Tryz.prog 156:=enters Tryz.func156 rfl (by decide)
theorem ahm:Enters Tryz.prog 157:=enters Tryz.func157 rfl (by decide)
theorem ahn:Enters Tryz.prog 158:=enters Tryz.func158 rfl (by decide)
end TKRises11
open TKRises11
set_option maxRecDepth 10000
theorem Ez {M:aC} {w0:World} {v:Value} {l:List Int} (hM:Lt M w0) (hv:((RT.int .i64).sl).V M w0 l v) (hl:l.length≤1099511627776):
  Spec Tryz.prog 107 #[v] w0 (fun v' w'=>v'= .bool (ek (-1) l)∧Step M w0 M w' aD):=by
 refine bc (args:=[_]) (fn:=Tryz.f107) Tryz.func107 rfl (n:=25) Tryz.ntmps107 (aj (ae (ah rfl rfl (ab (aj (ae (ad rfl rfl (bJ ao rfl hv rfl (k7 rfl rfl rfl (ad rfl rfl ?_))))))))));refine aO (g:=6) rfl (fun lr=>?_) (fun lr=>?_)
 ·refine ar rfl rfl rfl rfl (ar rfl rfl rfl rfl (ar rfl rfl rfl rfl (ar rfl rfl rfl rfl (ar rfl rfl rfl rfl (cn rfl rfl rfl (cn rfl rfl rfl (ar rfl rfl rfl rfl (ar rfl rfl rfl rfl (cn rfl rfl rfl (cn rfl rfl rfl (cn rfl rfl rfl ?_)))))))))));refine cn rfl rfl rfl (cn rfl rfl rfl (cn rfl rfl rfl (cn rfl rfl rfl (ar rfl rfl rfl rfl (aW rfl rfl rfl (ah rfl rfl (ab (aN ?_))))))))
  first
  |(obtain rfl:l=[]:=cP.1 (by omega)
    exact aU rfl rfl ⟨rfl,ax _ _⟩)
  |exact aU rfl rfl ⟨congrArg Value.bool (by
    rw[lM,ia (by omega),decide_eq_true_iff,ir hx];exact⟨fun h=>⟨B8,uz,RL.1 (by omega)⟩,fun h=>by have:=RL.2 h.2.2;omega⟩),(s1.aB S3.back)⟩
  |exact aU rfl rfl ⟨congrArg Value.bool (dC (by
    rw[dd];intro h;exact uz ((ia (by omega)).1 h).2.1)),s1⟩
  |exact aU rfl rfl ⟨congrArg Value.bool (dC (by
    rw[dd];intro h;have:=((ia (by omega)).1 h).1;rw[ir hx]at this;exact B8 this)),ax _ _⟩
 ·refine al rfl rfl (ad rfl rfl (al rfl rfl ?_));obtain⟨x,hx⟩:∃x,(l)[0]? =some x:=⟨_,au (by omega)⟩;refine cF (M:=M) ao I3 rfl rfl rfl (hv) (aq _ _) (by first|omega|decide) (fun aqo aho ZV ak8=>?_);obtain rfl:x=aho:=dC (aJ (ZV.symm.trans hx));refine al rfl rfl ?_;refine cd (M:=M) aw rfl rfl (by assumption) (by repeat (first|exact aq _ _|refine aY (bu (by assumption)) ?_)) (fun RM=>?_);refine aV (v':= .int .i64 (x)) rfl ?_;replace RM: -9223372036854775808≤(x:Int)∧x≤9223372036854775807:=RM;refine al rfl rfl (dT rfl rfl rfl (al rfl rfl (ad rfl rfl ?_)));refine aO (g:=11) rfl (fun B8=>?_) (fun B8=>?_)
  ·refine al rfl rfl (ad rfl rfl (al rfl rfl ?_));refine aX rfl rfl ahm (Aa hv (by omega)) (fun r1 w1 h=>?_);obtain⟨rfl,s1⟩:=h;refine al rfl rfl (aW rfl rfl rfl (al rfl rfl (ad rfl rfl ?_)));refine aO (g:=15) rfl (fun uz=>?_) (fun uz=>?_)
   ·refine al rfl rfl (ad rfl rfl (al rfl rfl ?_));refine aX rfl rfl Un (Er (s1.lt hM) (hv.le s1.le) hl) (fun r2 w2 h=>?_);obtain⟨M2,tg,EU,s2⟩:=h;refine al rfl rfl ?_;refine aX rfl rfl ahn (B2 tg hl) (fun r3 w3 h=>?_);obtain⟨ac,kc,cc,rfl,RL,s3⟩:=h;have S3:=s2.cg s3 (fun b hb=>(tg.base b hb).1);refine al rfl rfl (Rg.mu ao rfl rfl (al rfl rfl (ad rfl rfl (al rfl rfl (bJ ao rfl hv rfl (al rfl rfl (k7 rfl rfl rfl (al rfl rfl (aW rfl rfl rfl (aE rfl rfl rfl (ah rfl rfl ?_)))))))))));refine ab (aN ?_)
    first
    |(obtain rfl:l=[]:=cP.1 (by omega)
      exact aU rfl rfl ⟨rfl,ax _ _⟩)
    |exact aU rfl rfl ⟨congrArg Value.bool (by
      rw[lM,ia (by omega),decide_eq_true_iff,ir hx];exact⟨fun h=>⟨B8,uz,RL.1 (by omega)⟩,fun h=>by have:=RL.2 h.2.2;omega⟩),(s1.aB S3.back)⟩
    |exact aU rfl rfl ⟨congrArg Value.bool (dC (by
      rw[dd];intro h;exact uz ((ia (by omega)).1 h).2.1)),s1⟩
    |exact aU rfl rfl ⟨congrArg Value.bool (dC (by
      rw[dd];intro h;have:=((ia (by omega)).1 h).1;rw[ir hx]at this;exact B8 this)),ax _ _⟩
   ·refine ar rfl rfl rfl rfl (ar rfl rfl rfl rfl (ar rfl rfl rfl rfl (ar rfl rfl rfl rfl (ar rfl rfl rfl rfl (ar rfl rfl rfl rfl (ar rfl rfl rfl rfl (al rfl rfl (aE rfl rfl rfl (aE rfl rfl rfl (ah rfl rfl (ab ?_)))))))))));refine aN ?_
    first
    |(obtain rfl:l=[]:=cP.1 (by omega)
      exact aU rfl rfl ⟨rfl,ax _ _⟩)
    |exact aU rfl rfl ⟨congrArg Value.bool (by
      rw[lM,ia (by omega),decide_eq_true_iff,ir hx];exact⟨fun h=>⟨B8,uz,RL.1 (by omega)⟩,fun h=>by have:=RL.2 h.2.2;omega⟩),(s1.aB S3.back)⟩
    |exact aU rfl rfl ⟨congrArg Value.bool (dC (by
      rw[dd];intro h;exact uz ((ia (by omega)).1 h).2.1)),s1⟩
    |exact aU rfl rfl ⟨congrArg Value.bool (dC (by
      rw[dd];intro h;have:=((ia (by omega)).1 h).1;rw[ir hx]at this;exact B8 this)),ax _ _⟩
  ·refine ar rfl rfl rfl rfl (ar rfl rfl rfl rfl (al rfl rfl (aE rfl rfl rfl (al rfl rfl (ad rfl rfl (ar rfl rfl rfl rfl (ar rfl rfl rfl rfl (ar rfl rfl rfl rfl (ar rfl rfl rfl rfl (ar rfl rfl rfl rfl (ar rfl rfl rfl rfl ?_)))))))))));refine ar rfl rfl rfl rfl (al rfl rfl (aE rfl rfl rfl (aE rfl rfl rfl (ah rfl rfl (ab (aN ?_))))))
   first
   |(obtain rfl:l=[]:=cP.1 (by omega)
     exact aU rfl rfl ⟨rfl,ax _ _⟩)
   |exact aU rfl rfl ⟨congrArg Value.bool (by
     rw[lM,ia (by omega),decide_eq_true_iff,ir hx];exact⟨fun h=>⟨B8,uz,RL.1 (by omega)⟩,fun h=>by have:=RL.2 h.2.2;omega⟩),(s1.aB S3.back)⟩
   |exact aU rfl rfl ⟨congrArg Value.bool (dC (by
     rw[dd];intro h;exact uz ((ia (by omega)).1 h).2.1)),s1⟩
   |exact aU rfl rfl ⟨congrArg Value.bool (dC (by
     rw[dd];intro h;have:=((ia (by omega)).1 h).1;rw[ir hx]at this;exact B8 this)),ax _ _⟩
theorem EA {M:aC} {w0:World} {v:Value} {l:List Int} (hM:Lt M w0) (hv:((RT.int .i64).sl).V M w0 l v) (hl:l.length≤1099511627776):
  Spec Tryz.prog 106 #[v] w0 (fun v' w'=>v'= .bool (decide (ek (-1) l=false))∧Step M w0 M w' aD):=by
 refine bc (args:=[_]) (fn:=Tryz.f106) Tryz.func106 rfl (n:=6) Tryz.ntmps106 (aj (ae (ah rfl rfl (ab (aj (ae (ad rfl rfl ?_)))))));refine aX rfl rfl ahk (Ez hM hv hl) (fun r1 w1 h=>?_);obtain⟨rfl,s1⟩:=h;refine mS rfl rfl (aV (v':= .bool (decide (ek (-1) l=false))) (congrArg Value.bool (by cases ek (-1) l<;>rfl)) (ah rfl rfl (ab (aN ?_))));exact aU rfl rfl ⟨rfl,s1⟩
theorem EB {M:aC} {w0:World} {v:Value} {ls:List (List Int)} (hM:Lt M w0) (hv:(((RT.int .i64).sl).sl).V M w0 ls v) (hl:∀l∈ls,l.length≤1099511627776):
  Spec Tryz.prog 156 #[v,.func (.func 106) #[] #[]] w0 (fun v' w'=>(∃r:Int,v'= .int .i64 r∧(r≥0↔∃l∈ls,ek (-1) l=false))∧Step M w0 M w' aD):=by
 have hlen:=ep hv;refine bc (args:=[_,_]) (fn:=Tryz.f156) Tryz.func156 rfl (n:=19) Tryz.ntmps156 (aj (ae (ah rfl rfl (ab (aj (aj (ae (ad rfl rfl (bJ cK rfl hv rfl (ad rfl rfl (ab ?_)))))))))));refine aZ ?_;refine dn (σ:=Nat) (fun s=>[(0,v),(1,.func (.func 106) #[] #[]),(7,.int .i64 ls.length),(8,.int .i64 s)]) (fun s w=>s≤ls.length∧(∀t,t<s→∀l,ls[t]? =some l→ek (-1) l=true)∧Step M w0 M w aD) (fun s=>ls.length-s) 0 (.cons rfl (.cons rfl (.cons rfl (.cons rfl .nil)))) ?_ ?_
 ·exact⟨bG _,fun t h=>by omega,ax _ _⟩
 ·rintro k w2 ⟨hk,j9,S⟩;refine aj (ae (cf rfl rfl rfl (ab (aj ?_))));refine bP rfl (fun c2=>?_) (fun c2=>?_)
  ·refine aT (aj (aZ (aj (ae (ad rfl rfl (ah rfl rfl (ab (aj (ae (ad rfl rfl (ad rfl rfl ?_)))))))))));refine ad rfl rfl ?_;obtain⟨l,hx⟩:∃x,(ls)[k]? =some x:=⟨_,au (by omega)⟩;refine cF (M:=M) cK kG rfl rfl rfl (hv.le S.le) (aq _ _) (by first|omega|decide) (fun SK U6 Nj ZG=>?_);obtain rfl:l=U6:=dC (aJ (Nj.symm.trans (by rw[ay];exact hx)));refine bV (M:=M) ao rfl rfl rfl rfl rfl (by assumption) (by repeat (first|exact aq _ _|refine aY (bu (by assumption)) ?_)) (fun ahp Nr=>?_);replace Nr:(((RT.int .i64).sl)).V M _ l ahp:=Nr;refine zC (first:=[]) (captured:=[]) rfl rfl rfl ahj (EA (S.lt hM) Nr (hl _ (aA hx))) (fun r w1 h=>?_);obtain⟨rfl,s1⟩:=h;refine ab ?_;refine bP rfl (fun c4=>?_) (fun c4=>?_)
   ·refine aj (ae (ad rfl rfl (ah rfl rfl (ab (aN ?_)))));exact aU rfl rfl ⟨⟨k,rfl,⟨fun _=>⟨l,aA hx,c4⟩,fun _=>by omega⟩⟩,S.aB s1⟩
   ·refine aT (ae (bD rfl rfl rfl (by omega) (ad rfl rfl (ab ?_))));refine⟨rfl,k+1,(.cons rfl (.cons rfl (.cons rfl (.cons rfl .nil)))),?_,?_⟩
    ·refine⟨by omega,fun t ht l' hl'=>?_,S.aB s1⟩;rcases cJ t k with h|h
     ·exact j9 t h l' hl'
     ·rw[show t=k from by omega,hx]at hl';cases hl';simpa using c4
    ·show _-(k+1)<_-k;omega
  ·refine cL (aj (ae (ah rfl rfl (ab (aN ?_)))));refine aU rfl rfl ⟨⟨-1,rfl,⟨fun h=>by omega,fun⟨l,hm,hf⟩=>?_⟩⟩,S⟩;obtain⟨t,ht⟩:=bm.1 hm;have:=j9 t (by have:=(an.1 ht).1;omega) l ht;rw[this]at hf;cases hf
theorem zk {M:aC} {w0:World} {v:Value} {ls:List (List Int)} (hM:Lt M w0) (hv:(((RT.int .i64).sl).sl).V M w0 ls v) (hl:∀l∈ls,l.length≤1099511627776):
  Spec Tryz.prog 105 #[v,.func (.func 106) #[] #[]] w0 (fun v' w'=>v'= .bool (decide (¬Up ls))∧Step M w0 M w' aD):=by
 refine bc (args:=[_,_]) (fn:=Tryz.f105) Tryz.func105 rfl (n:=9) Tryz.ntmps105 (aj (ae (ah rfl rfl (ab (aj (ae (ad rfl rfl (ad rfl rfl ?_))))))));refine aX rfl rfl ahl (EB hM hv hl) (fun r1 w1 h=>?_);obtain⟨⟨r0,rfl,hr⟩,s1⟩:=h;refine dT rfl rfl rfl (ah rfl rfl (ab (aN ?_)));refine aU rfl rfl ⟨congrArg Value.bool (decide_eq_decide.2 (hr.trans ?_)),s1⟩;unfold Up;constructor
 ·rintro⟨l,hm,hf⟩ h;rw[h l hm]at hf;cases hf
 ·intro h;refine Classical.byContradiction fun hn=>h fun l hm=> ?_
  cases NY:ek (-1) l with
  |true=>rfl
  |false=>exact absurd ⟨l,hm,NY⟩ hn
end Go.K
namespace Go.K
open Go.Proofs
namespace TKOrder11
theorem ku:TI Tryz.prog 124 (.agg #[(.int .i64 0),(.int .i64 0)]) 2 16:=by unfold TI;kernel_rfl
theorem ZW:TI Tryz.prog 178 (.pointer none) 1 8:=by unfold TI;kernel_rfl
theorem lV:TI Tryz.prog 183 (.agg #[(.int .i64 0),(.int .i64 0),(.int .i64 0)]) 3 24:=by unfold TI;kernel_rfl
theorem ahr:Enters Tryz.prog 105:=enters Tryz.func105 rfl (by decide)
theorem ZX:Enters Tryz.prog 108:=enters Tryz.func108 rfl (by decide)
theorem P5:Enters Tryz.prog 110:=enters Tryz.func110 rfl (by decide)
theorem ahs:Enters Tryz.prog 111:=enters Tryz.func111 rfl (by decide)
end TKOrder11
open TKOrder11
set_option maxRecDepth 10000
theorem zm {M:aC} {w0:World} {v:Value} {ls:List (List Int)} (hM:Lt M w0) (hv:(((RT.int .i64).sl).sl).V M w0 ls v) (HU:ls.length≤1099511627776) (hl:∀l∈ls,l.length≤1099511627776) (UE:rR ls≤1099511627776):
  Spec Tryz.prog 59 #[v] w0 (fun v' w'=>∃M',Lt M' w'∧Step M w0 M' w' aD∧∃vo:Value,∃e:Int,v'= .tuple #[vo,.int .i64 e]∧((¬Up ls∧e=1∧vo= .slice none 0 0)∨(Up ls∧∃r,rF ls r∧((r=none∧e=5∧vo= .slice none 0 0)∨∃out,r=some out∧e=0∧(dR out).length≤1099511627776∧Own RT.fo 124 M' w' w0.heap.size vo (dR out))))):=by
 have hlen:=ep hv;refine bc (args:=[_]) (fn:=Tryz.f59) Tryz.func59 rfl (n:=55) Tryz.ntmps59 (aj (ae ?_));refine wX M rfl rfl (fun bl wb zb zb' gb sb=>?_);have gb:wb.heap[bl]? =some (.cells #[v] 119 (0,0)):=by rw[gb];obtain⟨a,cap,rfl,_⟩:=iP.1 hv;rfl
 refine ah rfl rfl (ah rfl rfl (ab (aj (aj (ae (aL cK rfl rfl rfl gb rfl ?_))))));refine aX rfl rfl ahr (zk (M:=ins M bl) (sb.lt hM) (hv.le sb.le) hl) (fun rc wc h=>?_);obtain⟨rfl,sc⟩:=h;have k5:=sc.aK gb;have Sc:=sb.aB sc;clear gb;refine ab ?_;refine bP rfl (fun c1=>?_) (fun c1=>?_)
 ·refine aj (ae (ah rfl rfl (ah rfl rfl (ab (aN ?_)))));exact eU rfl rfl rfl ⟨_,Sc.lt hM,Sc,_,1,rfl,.inl ⟨c1,rfl,rfl⟩⟩
 ·refine aT (aj (ae ?_));have Cq:Up ls:=Classical.byContradiction c1;refine Rg.WV bR lV (ins M bl) rfl (fun g wg zg zg' gg sg=>?_);have Sg:=Sc.aB sg;have ZY:=sg.aK k5;clear k5;refine wX (ins (ins M bl) g) rfl rfl (fun bh wh zh zh' gh sh=>?_);have gh:wh.heap[bh]? =some (.cells #[.slice (some ⟨g,0,none⟩) 0 0] 180 (0,0)):=gh;have Sh:=Sg.aB sh;have ZZ:=sh.aK ZY;have ggh:=sh.aK gg;clear ZY gg;refine ey (ins (ins (ins M bl) g) bh) ZW rfl (fun b4 w4 z4 z4' g4 s4=>?_);have S4:=Sh.aB s4;have Jp:=s4.aK ZZ;have gg4:=s4.aK ggh;have gh4:=s4.aK gh;clear ZZ ggh gh;refine cu (M:=ins (ins (ins (ins M bl) g) bh) b4) (u:= .pointer none) ZW rfl rfl g4 rfl rfl (.inl rfl) (fun w5 g5 s5=>?_);have rD:w5.heap[b4]? =some (.cells #[.pointer (some ⟨bh,0,none⟩)] 178 (0,0)):=g5;have hz:=Sc.size;have z2:=sg.size;have z3:=sh.size;have hz5:=ak Jp;have k5:=s5.keep Jp (fun e=>by have e:bl=b4:=e;have:=ak Jp;have:=Sh.size;rw[e]at Jp;rw[g4]at Jp;simp at Jp);have gg5:=s5.keep gg4 (fun e=>by have e:g=b4:=e;omega);have gh5:=s5.keep gh4 (fun e=>by have e:bh=b4:=e;omega);have S5:=S4.cg s5 (fun b hb=>by have hb:b=b4:=hb;omega);have hM5:=S5.lt hM;have U3:rG 180 183 (ins (ins (ins (ins M bl) g) bh) b4) w5 bh w0.heap.size (.slice (some ⟨g,0,none⟩) 0 0) []:=⟨gh5,.inr (.inl rfl),Own.empty gg5 (by omega) (.inr (.inr (.inl rfl))),by simp,by decide⟩;refine ab (aj (ae (ka (xs:=[]) (ys:=[.tmp 1,.tmp 4]) rfl rfl rfl (ah rfl rfl (ab (aj (aj (ae (aL cK rfl rfl rfl k5 rfl (bJ cK rfl (hv.le S5.le) rfl (ad rfl rfl ?_)))))))))));refine ab (aZ ?_);refine dn (σ:=Nat×List Hd) (fun s=>[(1,.pointer (some ⟨bl,0,none⟩)),(2,.slice none 0 0),(3,.int .i64 0),(4,.pointer (some ⟨b4,0,none⟩)),(5,.func (.func 108) #[] #[.pointer (some ⟨bl,0,none⟩),.pointer (some ⟨b4,0,none⟩)]),(16,.int .i64 ls.length),(17,.int .i64 s.1)]) (fun s w=>s.1≤ls.length∧oy ls (fun _=>0) s.1 s.2∧p8 s.2∧(∃M1 v1,Lt M1 w∧rG 180 183 M1 w bh w0.heap.size v1 s.2∧Step M w0 M1 w aD∧w.heap[bl]? =some (.cells #[v] 119 (0,0))∧w.heap[b4]? =some (.cells #[.pointer (some ⟨bh,0,none⟩)] 178 (0,0)))) (fun s=>ls.length-s.1) (0,[]) (.cons rfl (.cons rfl (.cons rfl (.cons rfl (.cons rfl (.cons rfl (.cons rfl .nil))))))) ?_ ?_
  ·exact⟨bG _,oy.zero ls,fun k h0 hk=>by simp at hk,_,_,hM5,U3,S5,k5,rD⟩
  ·rintro⟨i,hs⟩ w1 ⟨hi,JL,hh,M1,v1,nH,h,S,k5,rD⟩;dsimp only at hi JL hh h ⊢;clear U3;refine aj (ae (cf rfl rfl rfl (ab (aj ?_))));refine bP rfl (fun c6=>?_) (fun c6=>?_)
   ·refine aT (aj (aZ (aj (ae (ad rfl rfl (ah rfl rfl (ab (ae (ad rfl rfl (ad rfl rfl ?_))))))))));refine zC (first:=[]) (captured:=[.pointer (some ⟨bl,0,none⟩),.pointer (some ⟨b4,0,none⟩)]) rfl rfl rfl ZX (Ey (i:=i) (k:=0) nH k5 rD (hv.le S.le) h hh (by omega) (by omega) (by have:=JL.len;omega)) (fun rp w2 hq=>?_);obtain⟨M2,v2,jG,h2,ZT,G2,EU,s2⟩:=hq;have k5:=s2.keep k5 (NB.not ⟨_,_,k5⟩ (by decide) (fun e=>by subst e;have:=k5.symm.trans h.h;simp at this));have rD:=s2.keep rD (NB.not ⟨_,_,rD⟩ (by decide) (fun e=>by subst e;have:=rD.symm.trans h.h;simp at this));refine ab (ae (bD rfl rfl rfl (by omega) (ad rfl rfl (ab ?_))));refine⟨rfl,(i+1,jG),(.cons rfl (.cons rfl (.cons rfl (.cons rfl (.cons rfl (.cons rfl (.cons rfl .nil))))))),?_,?_⟩
    ·exact⟨by simp only;omega,JL.fill (by omega) G2,ZT,M2,v2,EU,h2,S.cg s2 (fun b hb=>hb.2.elim (fun e=>by have e:b=bh:=e;omega) (fun h=>h.1)),k5,rD⟩
    ·show ls.length-(i+1)<ls.length-i;omega
   ·refine cL (aj (ae (ah rfl rfl (ab (aj (aj (ae (ah rfl rfl (ab (aZ ?_))))))))));obtain rfl:i=ls.length:=by omega
    refine dn (σ:=(Nat→Nat)×List Hd×Int×Value×List Hd) (fun s=>[(1,.pointer (some ⟨bl,0,none⟩)),(4,.pointer (some ⟨b4,0,none⟩)),(5,.func (.func 108) #[] #[.pointer (some ⟨bl,0,none⟩),.pointer (some ⟨b4,0,none⟩)]),(7,s.2.2.2.1),(8,.int .i64 s.2.2.1)]) (fun s w=>yY ls s.1 s.2.1 s.2.2.1∧oy ls s.1 ls.length s.2.2.2.2∧p8 s.2.2.2.2∧lU s.2.2.1∧(∃M1 v1,Lt M1 w∧rG 180 183 M1 w bh w0.heap.size v1 s.2.2.2.2∧Step M w0 M1 w aD∧w.heap[bl]? =some (.cells #[v] 119 (0,0))∧w.heap[b4]? =some (.cells #[.pointer (some ⟨bh,0,none⟩)] 178 (0,0))∧Own RT.fo 124 M1 w w0.heap.size s.2.2.2.1 (dR s.2.1))) (fun s=>rem ls s.1) (fun _=>0,[],-1,_,hs) (.cons rfl (.cons rfl (.cons rfl (.cons rfl (.cons rfl .nil))))) ?_ ?_
    ·exact⟨yY.zero ls Cq,JL,hh,⟨by simp only;decide,by simp only;decide⟩,M1,v1,nH,h,S,k5,rD,dE _ _ _ _ _⟩
    ·clear h k5 rD S nH;rintro⟨at_,out,last,vo,hs⟩ w1 ⟨RN,JL,hh,hlr,M1,v1,nH,h,S,k5,rD,ho⟩;dsimp only at RN JL hh hlr h ho ⊢;refine aj (aj (ae (aL dh rfl rfl rfl rD rfl (bS rfl ⟨_,rfl⟩ rfl (aL bR rfl rfl rfl h.h rfl ?_)))));refine aX rfl rfl P5 (vN h.o) (fun rl wl h=>?_);obtain⟨rfl,rfl⟩:=h;refine jc rfl rfl rfl (ab ?_);refine bP rfl (fun SQ=>?_) (fun SQ=>?_)
     ·refine aT (aZ (aj (ae (aL dh rfl rfl rfl rD rfl (Rg.xu dh rfl rfl rfl ?_)))));refine aX rfl rfl ahs (Np nH h hh (by omega) (by have:=JL.len;omega)) (fun rp w2 h=>?_);obtain⟨a,b,c,M2,v2,jG,rfl,⟨ra,rb,rc⟩,h2,ZT,G2,MX,EU,s2⟩:=h;have k5:=s2.keep k5 (NB.not ⟨_,_,k5⟩ (by decide) (fun e=>by subst e;have:=k5.symm.trans h.h;simp at this));have rD:=s2.keep rD (NB.not ⟨_,_,rD⟩ (by decide) (fun e=>by subst e;have:=rD.symm.trans h.h;simp at this));have S2:=S.cg s2 (fun b hb=>hb.2.elim (fun e=>by have e:b=bh:=e;omega) (fun h=>h.1));have tg:=ho.step s2 (fun k hk=>NB.not (ho.bt k hk) (by decide) (ho.apart h.h (by decide) k hk));obtain⟨i,n,hi,kq,we⟩:=(JL.2 _).1 (G2.mem_iff.1 (bH ..));simp only[dq]at kq;obtain⟨rfl,rfl,rfl⟩:=kq;have Me:=we.lt.2
      have dO:qL ls i≤1099511627776:=by
       obtain⟨l,Sw,_⟩:=we;unfold qL;rw[az,Sw];exact hl _ (aA Sw)
      have RO:∀j m,Tr ls j (at_ j) m→a≤m:=fun j m hj=>MX _ ((JL.2 (m,(j:Int),((at_ j:Nat):Int))).2 ⟨j,m,hj.lt.1,rfl,hj⟩)
      have IQ:RT.hd.V M2 w2 (a,(i:Int),((at_ i:Nat):Int)) _:=MY ra rb rc;clear h s2;refine Rg.G3 dG rfl rfl rfl ?_;refine xn (A:=RT.hd) (M:=M2) lV rfl rfl rfl rfl rfl IQ (aq _ _) EU (fun u3 w3 Q5 s3 z3=>?_);have k5:=s3.aK k5;have rD:=s3.aK rD;have h3:=h2.aM s3;have yN:=tg.aM s3;have S3:=S2.aB s3;have YI:=s3.lt EU;have hz3:=S3.size;refine ab (aj (aj (ae ?_)));refine aS (M:=M2) (A:=RT.hd) (B:=RT.int .i64) dG rfl rfl I3 (by decide) (Rz) rfl rfl (by decide) (by assumption) (by repeat (first|exact aq _ _|refine aY (bu (by assumption)) ?_)) (fun YX Mp=>?_);refine cd (M:=M2) aw rfl rfl (by assumption) (by repeat (first|exact aq _ _|refine aY (bu (by assumption)) ?_)) (fun Nt=>?_);refine aV (v':= .int .i64 (a)) rfl ?_;replace Nt: -9223372036854775808≤(a:Int)∧a≤9223372036854775807:=Nt;refine ad rfl rfl (k7 rfl rfl rfl (ab ?_));refine bP rfl (fun JB=>?_) (fun JB=>?_)
      ·refine aj (ae (ah rfl rfl (ah rfl rfl (ab (aN ?_)))));exact eU rfl rfl rfl ⟨_,YI,S3,_,5,rfl,.inr ⟨Cq,none,RN.Zp Cq we JB,.inl ⟨rfl,rfl,rfl⟩⟩⟩
      ·refine aT (aj (ae (ad rfl rfl ?_)));refine aS (M:=M2) (A:=RT.hd) (B:=RT.int .i64) dG rfl rfl I3 (by decide) (hd1) rfl rfl (by decide) (by assumption) (by repeat (first|exact aq _ _|refine aY (bu (by assumption)) ?_)) (fun ala aht=>?_);refine cd (M:=M2) aw rfl rfl (by assumption) (by repeat (first|exact aq _ _|refine aY (bu (by assumption)) ?_)) (fun Nu=>?_);refine aV (v':= .int .i64 ((i:Int))) rfl ?_;replace Nu: -9223372036854775808≤((i:Int):Int)∧(i:Int)≤9223372036854775807:=Nu;refine aS (M:=M2) (A:=RT.hd) (B:=RT.int .i64) dG rfl rfl I3 (by decide) (hd2) rfl rfl (by decide) (by assumption) (by repeat (first|exact aq _ _|refine aY (bu (by assumption)) ?_)) (fun alb ahu=>?_);refine cd (M:=M2) aw rfl rfl (by assumption) (by repeat (first|exact aq _ _|refine aY (bu (by assumption)) ?_)) (fun Nv=>?_);refine aV (v':= .int .i64 (((at_ i:Nat):Int))) rfl ?_;replace Nv: -9223372036854775808≤(((at_ i:Nat):Int):Int)∧((at_ i:Nat):Int)≤9223372036854775807:=Nv;refine Rg.OH cw ku I3 rfl rfl rfl ?_;refine dQ (A:=RT.fo) (hn:=by decide) (M:=M2) eQ ku (by decide) rfl rfl YI (ab1 rb rc) (.inl rfl) (fun u6 w6 Fz s6=>?_);have k5:=s6.aK k5;have rD:=s6.aK rD;have h6:=h3.aM s6;have S6:=S3.aB s6;have IP:=s6.lt YI;have hz6:=S6.size;have hal:=RN.f;have hlo:(dR out).length=out.length:=by unfold dR;simp
       refine cX (M:=M2) (base:=w0.heap.size) eQ ku rfl rfl rfl rfl (yN.aM s6) Fz (aq _ _) (by rw[hlo];simp;omega) (by rw[hlo];simp;omega) (by omega) (fun vo7 M7 w7 oa s7=>?_);have xw:∀k,vo.ownBlock=some k→k≠bl∧k≠b4∧k≠bh:=fun k hk=>⟨fun e=>(yN.aM s6).apart k5 (by decide) k hk e,fun e=>(yN.aM s6).apart rD (by decide) k hk e,fun e=>(yN.aM s6).apart h6.h (by decide) k hk e⟩
       have k5:=s7.keep k5 (fun hk=>(xw _ hk).1 rfl);have rD:=s7.keep rD (fun hk=>(xw _ hk).2.1 rfl);have h7:=h6.keep s7 (fun hk=>(xw _ hk).2.2 rfl) (fun k hk Bc=>(BT.ne ((yN.aM s6).bt k Bc) (h6.o.bt k hk) (by decide)) rfl);have S7:=S6.cg s7 (fun b hb=>(yN.base b hb).1);have hM7:=s7.lt IP;have hu7:=Q5.le (by decide) (s6.le.trans s7.le);clear h2 h3 h6 tg yN;refine ah rfl rfl (ab (aj (ae ?_)));refine aS (M:=M7) (A:=RT.hd) (B:=RT.int .i64) dG rfl rfl I3 (by decide) (Rz) rfl rfl (by decide) (by assumption) (by repeat (first|exact aq _ _|refine aY (bu (by assumption)) ?_)) (fun alc ahv=>?_);refine cd (M:=M7) aw rfl rfl (by assumption) (by repeat (first|exact aq _ _|refine aY (bu (by assumption)) ?_)) (fun Nw=>?_);refine aV (v':= .int .i64 (a)) rfl ?_;replace Nw: -9223372036854775808≤(a:Int)∧a≤9223372036854775807:=Nw;refine ah rfl rfl (ab (ae (ad rfl rfl ?_)));refine aS (M:=M7) (A:=RT.hd) (B:=RT.int .i64) dG rfl rfl I3 (by decide) (hd1) rfl rfl (by decide) (by assumption) (by repeat (first|exact aq _ _|refine aY (bu (by assumption)) ?_)) (fun ald ahw=>?_);refine cd (M:=M7) aw rfl rfl (by assumption) (by repeat (first|exact aq _ _|refine aY (bu (by assumption)) ?_)) (fun Nx=>?_);refine aV (v':= .int .i64 ((i:Int))) rfl ?_;replace Nx: -9223372036854775808≤((i:Int):Int)∧(i:Int)≤9223372036854775807:=Nx;refine aS (M:=M7) (A:=RT.hd) (B:=RT.int .i64) dG rfl rfl I3 (by decide) (hd2) rfl rfl (by decide) (by assumption) (by repeat (first|exact aq _ _|refine aY (bu (by assumption)) ?_)) (fun ale ahx=>?_);refine cd (M:=M7) aw rfl rfl (by assumption) (by repeat (first|exact aq _ _|refine aY (bu (by assumption)) ?_)) (fun Ny=>?_);refine aV (v':= .int .i64 (((at_ i:Nat):Int))) rfl ?_
       replace Ny: -9223372036854775808≤(((at_ i:Nat):Int):Int)∧((at_ i:Nat):Int)≤9223372036854775807:=Ny;refine bD rfl rfl rfl (by omega) (aV (v':= .int .i64 ((at_ i+1:Nat):Int)) (congrArg _ (by omega)) ?_);refine zC (first:=[]) (captured:=[.pointer (some ⟨bl,0,none⟩),.pointer (some ⟨b4,0,none⟩)]) rfl rfl rfl ZX (Ey (i:=i) (k:=at_ i+1) hM7 k5 rD (hv.le S7.le) h7 ZT hi (by omega) (by have h1:=G2.length_eq;have h2:=JL.len;rw[cD]at h1;omega)) (fun rp w8 hq=>?_);obtain⟨M8,v8,hs8,h8,hh8,hp8,hM8,s8⟩:=hq;have aqz:=k5;have k5:=s8.keep k5 (NB.not ⟨_,_,k5⟩ (by decide) (fun e=>by subst e;have:=k5.symm.trans h7.h;simp at this));have rD:=s8.keep rD (NB.not ⟨_,_,rD⟩ (by decide) (fun e=>by subst e;have:=rD.symm.trans h7.h;simp at this));have ho8:=oa.step s8 (fun k hk=>NB.not (oa.bt k hk) (by decide) (oa.apart h7.h (by decide) k hk));have S8:=S7.cg s8 (fun b hb=>hb.2.elim (fun e=>by have e:b=bh:=e;omega) (fun h=>h.1));refine ab ?_;refine⟨rfl,(Eb at_ i,out++[(a,(i:Int),((at_ i:Nat):Int))],a,vo7,hs8),(.cons rfl (.cons rfl (.cons rfl (.cons rfl (.cons rfl .nil))))),?_,?_⟩
       ·refine⟨RN.step Cq we RO JB,JL.next G2 hi hp8,hh8,ra,M8,v8,hM8,h8,S8,k5,rD,?_⟩;unfold dR at ho8 ⊢;rw[eA];exact ho8
       ·show rem ls (Eb at_ i)<rem ls at_;have h1:=(RN.step Cq we RO JB).f;have h2:=RN.f;rw[bg,ew]at h1;omega
     ·refine cL (aj (ae (ad rfl rfl (ah rfl rfl (ah rfl rfl (ab (aN ?_)))))));have rz:hs=[]:=cP.1 (by omega);subst rz;exact eU rfl rfl rfl ⟨_,nH,S,_,0,rfl,.inr ⟨Cq,some out,RN.fin (JL.agh),.inr ⟨out,rfl,rfl,(by have:=RN.f;unfold dR;rw[aI];omega),ho⟩⟩⟩
theorem EC {M:aC} {w0:World} {v:Value} {ls:List (List Int)} (hM:Lt M w0) (hv:((RT.int .i64).sl.sl).V M w0 ls v) (HU:ls.length≤1099511627776) (hl:∀l∈ls,l.length≤1099511627776) (UE:rR ls≤1099511627776):
  Spec Tryz.prog 59 #[v] w0 (fun v' w'=>(∃vo:Value,∃e:Int,v'= .tuple #[vo,.int .i64 e]∧((¬Up ls∧e=1∧vo= .slice none 0 0)∨(Up ls∧∃r,rF ls r∧((r=none∧e=5∧vo= .slice none 0 0)∨∃out,r=some out∧e=0∧((RT.fo).sl).V M w' (dR out) vo))))∧Step M w0 M w' aD):=
 (zm hM hv HU hl UE).mono fun _ w' ⟨M',hM',S,vo,e,h0,h⟩=>⟨⟨vo,e,h0,h.imp id fun⟨hu,r,hr,h⟩=>⟨hu,r,hr,h.imp id fun⟨out,h1,h2,h3,ho⟩=>⟨out,h1,h2,Own.close hM S ho (by omega)⟩⟩⟩,S.back⟩
end Go.K
namespace Go.K
open Go.Proofs
namespace TKSegG
theorem Zd:Enters Tryz.prog 180:=enters Tryz.func180 rfl (by decide)
end TKSegG
open TKSegG
set_option maxRecDepth 10000
theorem GM {M:aC} {w0:World} {v:Value} (hM:Lt M w0):
  Spec Tryz.prog 124 #[v] w0 (fun v' w'=>∃bp,v'= .func (.func 179) [].toArray [.pointer (some ⟨bp,0,none⟩)].toArray∧w'.heap[bp]? =some (.cells v.cells 142 (0,0))∧w0.heap.size≤bp∧Step M w0 M w' aD):=by
 refine bc (args:=[_]) (fn:=Tryz.f124) Tryz.func124 rfl (n:=4) Tryz.ntmps124 (aj (ae ?_));refine wX M rfl rfl (fun bp w1 h1 VX hS s1=>?_);refine ah rfl rfl (ab (aj (ae (ka (xs:=[]) (ys:=[.tmp 1]) rfl rfl rfl (ah rfl rfl (ab (aN ?_)))))));exact aU rfl rfl ⟨bp,rfl,hS,h1,s1.back⟩
theorem ED {w0:World} {bp yl:Nat} {v:Value} {l:List Po} {J:Nat→aC→World→Prop} {M:aC} {Jx:World→Prop} (Hx:∀i M w,J i M w→w.heap[bp]? =some (.cells #[v] 142 (0,0))∧Lt M w∧dg RT.li M w v (oU l)∧∀w',Step M w M w' aD→J i M w') (mW:fU (-1) l=true) (kf:∀p∈l,p.2.length≤1099511627776) (k5:(dY (-1) l).length≤1099511627776) (HU:l.length≤1099511627776) (hy:∀(i:Nat) (M:aC) (w:World) (u:Value),J i M w→i<(l.length+7)/8→((RT.po).sl).V M w ((l.drop (8*i)).take 8) u→wk Tryz.prog yl [u].toArray w (fun r w'=>∃b,r= .bool b∧(b=true→∃M',J (i+1) M' w')∧(b=false→Jx w'))) (h0:J 0 M w0):
  Spec Tryz.prog 179 #[.func (.yield yl) #[] #[],.pointer (some ⟨bp,0,none⟩)] w0 (fun _ w'=>(∃M',J ((l.length+7)/8) M' w')∨Jx w'):=by
 obtain⟨hb0,hM,hp,kC⟩:=Hx _ _ _ h0;have hnb:(oU l).2.1.length=(l.length+7)/8:=by simp[oU,rA]
 refine bc (args:=[_,_]) (fn:=Tryz.f179) Tryz.func179 rfl (n:=19) Tryz.ntmps179 (aj (ae (aL eP rfl rfl rfl hb0 rfl (bS rfl (dg.iC hp) rfl ?_))));refine aS (M:=M) (A:=RT.li) (B:=(RT.bl).sl) eo rfl rfl Ig (by decide) (li1) rfl rfl (by decide) (by assumption) (by repeat (first|exact aq _ _|refine aY (bu (by assumption)) ?_)) (fun aqA alg=>?_);refine bV (M:=M) iG rfl rfl rfl rfl rfl (by assumption) (by repeat (first|exact aq _ _|refine aY (bu (by assumption)) ?_)) (fun aqB alh=>?_);refine bJ iG rfl (by assumption) rfl (aV (v':= .int .i64 (((l.length+7)/8:Nat):Int)) (by rw[hnb]) (ad rfl rfl (ab (aZ ?_))));refine dn (σ:=Nat) (fun s=>[(0,.func (.yield yl) #[] #[]),(1,.pointer (some ⟨bp,0,none⟩)),(8,.int .i64 (((l.length+7)/8:Nat):Int)),(9,.int .i64 s)]) (fun s w=>(∃M1,J s M1 w)∧s≤(l.length+7)/8) (fun s=>(l.length+7)/8-s) 0 (.cons rfl (.cons rfl (.cons rfl (.cons rfl .nil)))) ?_ ?_
 ·exact⟨⟨_,h0⟩,bG _⟩
 ·rintro k w1 ⟨⟨M1,hJ⟩,hk⟩;refine aj (ae (cf rfl rfl rfl (ab (aj ?_))));refine bP rfl (fun c1=>?_) (fun c1=>?_)
  ·refine aT (aj (aZ (aj (ae (ad rfl rfl (ah rfl rfl (ab (aj (ae (ad rfl rfl ?_))))))))));obtain⟨wz,nH,N8,ahy⟩:=Hx _ _ _ hJ;refine aL eP rfl rfl rfl wz rfl (ad rfl rfl ?_);refine aX rfl rfl Zd (Gd (M:=M1) (k:=k) nH N8 mW kf k5) (fun u w4 h4=>?_);obtain⟨s4,h4⟩:=h4;rw[if_pos (by unfold VY;simp;omega),ay]at h4;refine Rg.yield rfl (vs:=[u]) rfl rfl (hy k M1 _ u (ahy _ s4) (by omega) h4) (fun r4 w5 h5=>?_);obtain⟨b,rfl,QI,qG⟩:=h5;refine mS rfl rfl (aV (v':= .bool (decide (¬b=true))) (by simp) (ab ?_));refine bP rfl (fun c3=>?_) (fun c3=>?_)
   ·refine aN ?_;exact Cu rfl (.inr (qG (by simpa using c3)))
   ·refine aT (ae (bD rfl rfl rfl (by omega) (ad rfl rfl (ab ?_))));refine⟨rfl,k+1,(.cons rfl (.cons rfl (.cons rfl (.cons rfl .nil)))),?_,?_⟩
    ·exact⟨QI (dI.1 c3),by omega⟩
    ·show _-(k+1)<_-k;omega
  ·refine cL ?_;rw[show k=(l.length+7)/8 from by omega]at hJ;change wZ Tryz.prog Tryz.f179 (fun _ w'=>(∃M',J ((l.length+7)/8) M' w')∨Jx w') .normal _ [] _;exact fY rfl (.inl ⟨_,hJ⟩)
end Go.K
namespace Go.K
open Go.Proofs
namespace TKSegH
theorem zV:TI Tryz.prog 80 (.slice none 0 0) 1 24:=by unfold TI;kernel_rfl
theorem ahz:Enters Tryz.prog 124:=enters Tryz.func124 rfl (by decide)
theorem ahA:Enters Tryz.prog 179:=enters Tryz.func179 rfl (by decide)
end TKSegH
open TKSegH
set_option maxRecDepth 10000
structure sd (M:aC) (w0:World) (v:Value) (bo D bp:Nat) (st:Obj) (vo:Value) (xs:List Po) (M1:aC) (w:World):Prop where
 lt:Lt M1 w
 S:Step M w0 M1 w aD
 mo:M1 bo
 md:M1 D
 mr:M1 (D+1)
 o:w.heap[bo]? =some (.cells #[vo] 80 (0,0))
 d:w.heap[D]? =some (.deferred (some []))
 r:w.heap[D+1]? =some st
 p:w.heap[bp]? =some (.cells #[v] 142 (0,0))
 ne:bo<D∧bp<D∧bo≠bp∧w0.heap.size≤bo∧w0.heap.size≤D
 hk:Own RT.po 83 M1 w (D+2) vo xs
section
variable {M M1 M2:aC} {w0 w w':World} {v vo:Value} {bo D bp:Nat} {st:Obj} {xs:List Po}
theorem sd.step (h:sd M w0 v bo D bp st vo xs M1 w) (s:Step M1 w M2 w' aD):sd M w0 v bo D bp st vo xs M2 w':=
 ⟨s.lt h.lt,h.S.aB s,(s.mem _ (h.lt _ h.mo)).2 h.mo,(s.mem _ (h.lt _ h.md)).2 h.md,(s.mem _ (h.lt _ h.mr)).2 h.mr,s.aK h.o,s.aK h.d,s.aK h.r,s.aK h.p,h.ne,h.hk.aM s⟩
theorem sd.pb {st':Obj} (h:sd M w0 v bo D bp st vo xs M1 w):sd M w0 v bo D bp st' vo xs M1 (w.putObj (D+1) st'):=by
 have s:Step M1 w M1 (w.putObj (D+1) st') (fun k=>k=D+1):=eu h.mr;obtain⟨e1,e2,e3,e4,e5⟩:=h.ne;exact⟨s.lt h.lt,h.S.cg s (fun k hk=>by subst hk;omega),h.mo,h.md,h.mr,s.keep h.o (by omega),s.keep h.d (by omega),World.putObj_heap_same (ak h.r),s.keep h.p (by omega),h.ne,h.hk.step s (fun k ry hh=>by have:=(h.hk.base k ry).1;omega)⟩
theorem sd.grow {MP:Value} {Rw:List Po} (h:sd M w0 v bo D bp st vo xs M1 w) (s:Step M1 w M2 w' (fun k=>vo.ownBlock=some k)) (hk:Own RT.po 83 M2 w' (D+2) MP Rw):
  (w'.heap[bo]? =some (.cells #[vo] 80 (0,0))∧M2 bo)∧∀{w2:World},Step M2 w' M2 w2 (fun k=>k=bo)→w2.heap[bo]? =some (.cells #[MP] 80 (0,0))→sd M w0 v bo D bp st MP Rw M2 w2:=by
 obtain⟨e1,e2,e3,e4,e5⟩:=h.ne;have hn:∀k,vo.ownBlock=some k→D+2≤k:=fun k hk=>(h.hk.base k hk).1
 have eH:=fun {k:Nat} (hm:M1 k)=>(s.mem k (h.lt k hm)).2 hm
 refine⟨⟨s.keep h.o (fun hh=>by have:=hn _ hh;omega),eH h.mo⟩,fun {w2} s2 hx=>?_⟩;have S':=h.S.cg s (fun k hk=>by have:=hn k hk;omega)
 exact⟨s2.lt (s.lt h.lt),S'.cg s2 (fun k hk=>by subst hk;exact e4),eH h.mo,eH h.md,eH h.mr,hx,s2.keep (s.keep h.d (fun hh=>by have:=hn _ hh;omega)) (by omega),s2.keep (s.keep h.r (fun hh=>by have:=hn _ hh;omega)) (by omega),s2.keep (s.keep h.p (fun hh=>by have:=hn _ hh;omega)) (Ne.symm e3),h.ne,
  hk.step s2 (fun k ry hh=>by have:=(hk.base k ry).1;omega)⟩
end
def Ve (M:aC) (w0:World) (l:List Po) (v:Value) (bo D bp:Nat) (st:Obj) (i:Nat) (M1:aC) (w:World):Prop:=
 ∃(vo:Value),sd M w0 v bo D bp st vo (l.take (8*i)) M1 w
theorem Z0 {M:aC} {w0 w2 w3:World} {v:Value} {l:List Po} {bo bp:Nat} {st:Obj} (S2:Step M w0 (ins M bo) w2 aD) (s3:Step (ins M bo) w2 (ins M bo) w3 aD) (hM:Lt M w0) (e1:w0.heap.size≤bo) (e2:bo<w2.heap.size) (e3:w2.heap.size≤bp)
  (hO:w2.heap[bo]? =some (.cells #[.slice none 0 0] 80 (0,0))) (hP:w3.heap[bp]? =some (.cells #[v] 142 (0,0))):∃M1,Ve M w0 l v bo w3.heap.size bp st 0 M1 ((w3.alloc (.deferred (some []))).alloc st):=by
 have sA:Step (ins M bo) w3 (ins (ins M bo) w3.heap.size) (w3.alloc (.deferred (some []))) aD:=(cW _ w3 _).own (aR _) (by simp);have sB:Step (ins (ins M bo) w3.heap.size) (w3.alloc (.deferred (some []))) (ins (ins (ins M bo) w3.heap.size) (w3.heap.size+1)) ((w3.alloc (.deferred (some []))).alloc st) aD:=(cW _ _ _).own (by simp) (by simp);have z3:=s3.size;have hp3:=ak hP;have S:=((S2.aB s3).aB sA).aB sB;have hD:(w3.alloc (.deferred (some []))).heap[w3.heap.size]? =some (.deferred (some [])):=cp w3 _;have hR:((w3.alloc (.deferred (some []))).alloc st).heap[w3.heap.size+1]? =some st:=by have:=cp (w3.alloc (.deferred (some []))) st;rwa [World.size_alloc]at this
 have z0:=S2.size;exact⟨_,.slice none 0 0,⟨S.lt hM,S,.inr (.inr (.inl rfl)),.inr (.inl rfl),.inl rfl,sB.aK (sA.aK (s3.aK hO)),sB.aK hD,hR,sB.aK (sA.aK hP),by omega,by rw[Nat.mul_zero,List.take_zero];exact dE _ _ _ _ _⟩⟩
set_option maxHeartbeats 2000000 in
theorem Nz {M:aC} {w0:World} {v:Value} {l:List Po} (hM:Lt M w0) (hv:dg RT.li M w0 v (oU l)) (mW:fU (-1) l=true) (kf:∀p∈l,p.2.length≤1099511627776) (k5:(dY (-1) l).length≤1099511627776) (HU:l.length≤1099511627776):
  Spec Tryz.prog 78 #[v] w0 (fun v' w'=>((RT.po).sl).V M w' l v'∧Step M w0 M w' aD):=by
 refine qm (args:=[_]) (fn:=Tryz.f78) Tryz.func78 rfl (n:=12) Tryz.ntmps78 (aj (ae (ah rfl rfl (ab (aj (ae ?_))))));refine ey M zV rfl (fun bo w2 Wi YR hO s2=>?_);refine ab (aj (aj (ae (ad rfl rfl ?_))));refine aX rfl rfl ahz (GM (M:=ins M bo) (s2.lt hM)) (fun r w3 h3=>?_);obtain⟨bp,rfl,hP,hbp,s3⟩:=h3;rw[show v.cells= #[v]from by obtain⟨q,rfl⟩:=dg.iC hv;rfl]at hP;refine ab (aZ ?_);refine T.range (gf:=179) (lb:=[.pointer (some ⟨bp,0,none⟩)].toArray) rfl ahA (fun rec pS=>?_);obtain⟨D,hD⟩:∃D,D=w3.heap.size:=⟨_,rfl⟩;rw[←hD]at pS ⊢
 obtain⟨Ms,h0⟩:∃Ms,Ve M w0 l v bo D bp (.loop (rec .ready none)) 0 Ms ((w3.alloc (.deferred (some []))).alloc (.loop (rec .ready none))):=by
  rw[hD]at pS ⊢;exact Z0 s2 s3 hM Wi YR hbp hO hP
 refine Spec.mono (ED (J:=Ve M w0 l v bo D bp (.loop (rec .ready none))) (Jx:=fun _=>False) (fun i M1 w ⟨vo,h⟩=>⟨h.p,h.lt,hv.le (by decide) h.S.le,fun w' s=>⟨vo,h.step s⟩⟩) mW kf k5 HU (fun i M1 wr u hJ hi hu=>?_) h0) (fun _ w4 h4=>?_)
 ·obtain⟨vo,h⟩:=hJ;refine nV (ps:=[7]) (vs:=[u]) pS h.r rfl (by decide) (ae (ah rfl rfl (ab ?_)));refine⟨rfl,h.r,?_⟩;have sR:Step M1 wr M1 (wr.putObj (D+1) (.loop (rec .busy none))) (fun k=>k=D+1):=eu h.mr;have Qw:=hu.le sR.le;have h1:=h.pb (st':= .loop (rec .busy none));generalize wr.putObj (D+1) _=wB at h1 Qw ⊢;refine aZ (ae (aL bF rfl rfl rfl h1.o rfl (ad rfl rfl ?_)));refine cX (M:=M1) (base:=D+2) bF o0 rfl rfl rfl rfl h1.hk Qw (aq _ _) (by simp;omega) (by simp;omega) (by have:=ak h1.r;omega) (fun v3 M3 w4 yN s4=>?_);obtain⟨⟨IQ,hm3⟩,Jv⟩:=h1.grow s4 yN;refine cu (M:=M3) zV rfl rfl IQ rfl (by obtain⟨_,_,he,_⟩:=yN.isSlice;rw[he];rfl) hm3 (fun w5 hX5 s5=>?_);have h5:=(Jv s5 hX5).pb (st':= .loop (rec .ready none));have h6:=Jv s5 hX5;refine ab ?_;refine⟨h6.r,true,rfl,fun _=>⟨M3,v3,?_⟩,fun h=>by cases h⟩;rw[show 8*(i+1)=8*i+8 from by omega,List.take_add];exact h5
 ·obtain⟨Mz,vo,h⟩:=h4.resolve_right (fun h=>h);left;rw[br (by omega)]at h;have h5:=h.pb (st':= .loop (rec .exhausted none));refine⟨h.r,?_⟩;generalize w4.putObj (D+1) _=wE at h5 ⊢;refine aj (ae (aL bF rfl rfl rfl h5.o rfl (ah rfl rfl (ab (aN ?_)))));obtain⟨q1,q2,q3,q4,q5⟩:=h5.ne;have sZ:Step Mz wE Mz (wE.putObj D (.deferred none)) (fun k=>k=D):=eu h5.md;have SZ:=h5.S.cg sZ (fun k hk=>by subst hk;omega);exact Bh rfl rfl h5.d ⟨Own.close hM SZ ((h5.hk.step sZ (fun k hk hh=>by have:=(h5.hk.base k hk).1;omega)).oL (by omega)) (by omega),SZ.back⟩
end Go.K
namespace Go.K
open Go.Proofs
namespace TKSegJ
theorem zV:TI Tryz.prog 80 (.slice none 0 0) 1 24:=by unfold TI;kernel_rfl
end TKSegJ
open TKSegJ
set_option maxRecDepth 10000
end Go.K
namespace Go.K
open Go.Proofs
namespace TKSegL
theorem Gg:TI Tryz.prog 58 (.slice none 0 0) 1 24:=by unfold TI;kernel_rfl
theorem zV:TI Tryz.prog 80 (.slice none 0 0) 1 24:=by unfold TI;kernel_rfl
end TKSegL
open TKSegL
set_option maxRecDepth 10000
end Go.K
namespace Go.K
open Go.Proofs
namespace TKSegK
theorem Gg:TI Tryz.prog 58 (.slice none 0 0) 1 24:=by unfold TI;kernel_rfl
theorem PD:TI Tryz.prog 72 (.agg #[(.slice none 0 0),(.slice none 0 0),(.slice none 0 0),(.slice none 0 0)]) 4 96:=by unfold TI;kernel_rfl
theorem zV:TI Tryz.prog 80 (.slice none 0 0) 1 24:=by unfold TI;kernel_rfl
theorem IZ:TI Tryz.prog 139 (.pointer none) 1 8:=by unfold TI;kernel_rfl
theorem Un:Enters Tryz.prog 51:=enters Tryz.func51 rfl (by decide)
theorem E76:Enters Tryz.prog 76:=enters Tryz.func76 rfl (by decide)
theorem E77:Enters Tryz.prog 77:=enters Tryz.func77 rfl (by decide)
theorem E78:Enters Tryz.prog 78:=enters Tryz.func78 rfl (by decide)
theorem Zb:Enters Tryz.prog 123:=enters Tryz.func123 rfl (by decide)
end TKSegK
open TKSegK
set_option maxRecDepth 10000
end Go.K
namespace Go.K
open Go.Proofs
namespace TKSegM
theorem Gg:TI Tryz.prog 58 (.slice none 0 0) 1 24:=by unfold TI;kernel_rfl
theorem PD:TI Tryz.prog 72 (.agg #[(.slice none 0 0),(.slice none 0 0),(.slice none 0 0),(.slice none 0 0)]) 4 96:=by unfold TI;kernel_rfl
end TKSegM
open TKSegM
set_option maxRecDepth 10000
structure Z1 (s:Se) (ls:List (List Po)):Prop where
 hls:s.2.2.2=ls.map oU
 hdl:s.2.2.1.length=ls.length
 hn1:s.1.length≤1000000
 hn2:s.2.1.length≤1000000
 hd6:s.2.2.1.length≤1000000000
 hok:∀l∈ls,fU (-1) l=true∧(∀p∈l,p.2.length≤1099511627776)∧(dY (-1) l).length≤1099511627776∧l.length≤1099511627776
end Go.K
namespace Go.K
open Go.Proofs
namespace TKSegN
theorem Gg:TI Tryz.prog 58 (.slice none 0 0) 1 24:=by unfold TI;kernel_rfl
theorem zV:TI Tryz.prog 80 (.slice none 0 0) 1 24:=by unfold TI;kernel_rfl
end TKSegN
open TKSegN
set_option maxRecDepth 10000
end Go.K
namespace Go.K
open Go.Proofs
namespace TKSegQ
theorem Gg:TI Tryz.prog 58 (.slice none 0 0) 1 24:=by unfold TI;kernel_rfl
theorem zV:TI Tryz.prog 80 (.slice none 0 0) 1 24:=by unfold TI;kernel_rfl
theorem IZ:TI Tryz.prog 139 (.pointer none) 1 8:=by unfold TI;kernel_rfl
theorem E78:Enters Tryz.prog 78:=enters Tryz.func78 rfl (by decide)
theorem E79:Enters Tryz.prog 79:=enters Tryz.func79 rfl (by decide)
end TKSegQ
open TKSegQ
set_option maxRecDepth 10000
theorem GN {M:aC} {s:Se} {ls:List (List Po)} {k:List UInt8} {v0:Value} (w0:World) (hM:Lt M w0) (hs:dg RT.se M w0 v0 s) (Cq:Dz s.2.2.1) (ok:Z1 s ls):
  Spec Tryz.prog 36 #[v0,sv k] w0 (fun v w=>(RT.po.sl).V M w (UT s.2.2.1 ls k) v∧Step M w0 M w aD):=by
 refine bc (args:=[_,_]) (fn:=Tryz.f36) Tryz.func36 rfl (n:=20) Tryz.ntmps36 ?_;have S:Step M w0 M w0 aD:=(ax _ _).cG (fun _ h=>h.elim) (fun _ h=>h.elim);refine aj (ae (ah rfl rfl (ab (aj (ae (ad rfl rfl (bS rfl hs.iC rfl ?_)))))));refine aS (M:=M) (A:=RT.se) (B:=(RT.di).ptr) Tryz.underlying141 rfl rfl IZ (by decide) se2 rfl rfl (by decide) hs (aq _ _) (fun F0 oh=>?_);refine bV (M:=M) jR rfl rfl rfl rfl rfl oh (aq _ _) (fun vd hvd=>?_);refine ad rfl rfl ?_;refine aX rfl rfl E79 (find_spec (k:=k) _ hM (j0.1 hvd) Cq (by rw[ok.hls,aI];exact ok.hdl)) (fun r6 w6 hc=>?_);obtain⟨s6,hr⟩:=hc
 obtain⟨p,rfl,hF⟩:∃p,r6= .tuple #[p,.bool (decide (k∈s.2.2.1))]∧Zc s.2.2 k M p w6:=by
  rcases hr with⟨j,p,tl,rfl,h3,h4,h5⟩|⟨rfl,h3⟩
  ·exact⟨p,by rw[decide_eq_true (aA h3)],.inl ⟨j,tl,h3,h4,h5⟩⟩
  ·exact⟨_,by rw[decide_eq_false h3],.inr ⟨rfl,h3⟩⟩
 replace hM:=s6.lt hM;have:=S.size;replace S:=S.aB s6;refine ad rfl rfl (bK rfl rfl rfl (bK rfl rfl rfl (ah rfl rfl (ah rfl rfl (ab (aj (aj (ae (ad rfl rfl (mS rfl rfl (aV (v':= .bool (decide (k∉s.2.2.1))) (by simp) ?_)))))))))));refine ab ?_;refine bP rfl (fun c2=>?_) (fun c2=>?_)
 ·refine aj (ae (ah rfl rfl (ab (aN ?_))));exact aU rfl rfl ⟨by rw[D5 c2];exact nR,S⟩
 ·refine aT (aj (ae (ad rfl rfl ?_)));obtain⟨j,tl,Xv,tH,H3⟩:=hF.resolve_right (fun h=>h.2 (dI.1 c2));rw[ok.hls,bB]at tH;obtain⟨l,Sw,rfl⟩:=Option.map_eq_some_iff.1 tH;obtain⟨mW,hrp,hrb,hrl⟩:=ok.hok l (aA Sw);refine aX rfl rfl E78 (Nz hM H3 mW hrp hrb hrl) (fun r4 w4 hc=>?_);obtain⟨hr4,s4⟩:=hc;replace hM:=s4.lt hM;have:=S.size;replace S:=S.aB s4;refine ah rfl rfl (ab (aN ?_));exact aU rfl rfl ⟨by rw[MQ Cq.nodup Xv Sw];exact hr4,S⟩
end Go.K
namespace Go.K
open Go.Proofs
set_option maxRecDepth 10000
theorem Vf (L:List En):(pO (fg L)).2.2.1.length=((keysOf L).map (pk L)).length:=by rw[aI];rfl
end Go.K
namespace Go.K
section
variable {P:Program} {r:Option Nat} {n:Nat} {L:Sl} {ds:List Deferred} {w:World} {K:Kt}
def zn (o:Oper):Oper:=⟨o.dst,o.op,o.type,o.pos,#[],o.guard⟩
def loose:Nat→List Oper→List Oper
 |_,[]=>[]
 |0,o::l=>zn o::l
 |q+1,o::l=>o::loose q l
theorem l3:∀(q:Nat) (l:List Oper),(loose q l).length=l.length
 |_,[]=>by cases ‹Nat› <;>rfl
 |0,o::l=>rfl
 |q+1,o::l=>by show(loose q l).length+1=_;rw[l3 q l];rfl
def Alike (o o2:Oper):Prop:=(o2=o∨o2=zn o)
theorem oB:∀{q:Nat} {l:List Oper} {j:Nat} {o:Oper},l[j]? =some o→∃o2,(loose q l)[j]? =some o2∧Alike o o2
 |_,[],j,o,h=>by simp at h
 |0,x::l,0,o,h=>⟨zn x,rfl,by simp at h;subst h;exact .inr rfl⟩
 |0,x::l,j+1,o,h=>⟨o,by simpa[loose]using h,.inl rfl⟩
 |q+1,x::l,0,o,h=>⟨x,rfl,by simp at h;subst h;exact .inl rfl⟩
 |q+1,x::l,j+1,o,h=>by
  obtain⟨o2,h1,h2⟩:=oB (q:=q) (l:=l) (j:=j) (o:=o) (by simpa using h);exact⟨o2,by simpa[loose]using h1,h2⟩
theorem Jq {q:Nat} {l:List Oper} {j:Nat} {o2:Oper} (h:(loose q l)[j]? =some o2):∃o,l[j]? =some o∧Alike o o2:=by
 have hj:=(an.1 h).1;rw[l3]at hj;obtain⟨o3,h1,h2⟩:=oB (q:=q) (au hj);rw[h]at h1;cases h1;exact⟨_,au hj,h2⟩
theorem Alike.cr {o o2:Oper} (h:Alike o o2):∀k∈cr o2,k∈Go.K.cr o:=fun k hk=>by
 rcases h with rfl|rfl
 ·exact hk
 ·simp[Go.K.cr,zn]at hk
theorem Ab {q:Nat} {l:List Oper} (tmps:Array Value) (j:Nat):yielded (loose q l).toArray tmps j=yielded l.toArray tmps j:=by
 unfold yielded
 have:((loose q l).toArray[j]?).bind (·.dst)=(l.toArray[j]?).bind (·.dst):=by
  simp only[il]
  cases ho:l[j]? with
  |some o=>obtain⟨o2,h1,h2⟩:=oB (q:=q) ho;rw[h1];rcases h2 with rfl|rfl<;>rfl
  |none=>rw[dS (by rw[l3];exact List.getElem?_eq_none_iff.1 ho)]
 rw[this]
theorem B9 {q:Nat} {l:List Oper} (tmps:Array Value) {o o2:Oper} (h:Alike o o2):Region.wanted o2 (yielded (loose q l).toArray tmps)=Region.wanted o (yielded l.toArray tmps):=by
 have hg:o2.guard=o.guard:=by rcases h with rfl|rfl<;>rfl
 unfold Region.wanted;rw[hg]
 cases o.guard with
 |none=>rfl
 |some g=>simp only[Ab]
theorem Jr {q:Nat} {l:List Oper} {Q:Exit→Act→World→Prop} {j:Nat} {o:Oper} {rest:List Nat} {a:Act} (ho:l[j]? =some o)
  (h:wpOpsIn (FW r) 0 P (loose q l).toArray (fun e a w=>match e with| .normal=>wpOpsIn (FW r) 0 P l.toArray Q rest a w|e=>Q e a w) [j] a w):wpOpsIn (FW r) 0 P l.toArray Q (j::rest) a w:=by
 obtain⟨o2,tg,hA⟩:=oB (q:=q) ho;simp only[wpOpsIn,il,ho,tg,B9 _ hA]at h ⊢
 split at h
 ·rename_i hw
  rw[if_pos hw];have h':Oper.wpIn (FW r) 0 P o a w (fun x x_1=>wpOpsIn (FW r) 0 P l.toArray Q rest x x_1) (fun e a w=>match e with| .normal=>wpOpsIn (FW r) 0 P l.toArray Q rest a w|e=>Q e a w):=by rcases hA with rfl|rfl<;>exact h
  clear h tg hA;refine⟨h'.1,?_⟩;have h2:=h'.2;generalize (Oper.semAt (FW r).round a.eval o).run P w=res at h2 ⊢
  cases res with
  |ok nx w'=>
   cases nx with
   |enter f args=>exact⟨h2.1,h2.2.mono fun e xd he=>by cases e<;>exact he⟩
   |round l f tmps rN body=>exact⟨h2.1,h2.2.mono fun e xd he=>by cases e<;>exact he⟩
   |_=>exact h2
  |halt x w'=>cases x<;>exact h2
 ·rename_i hw
  rw[if_neg hw];rcases hA with rfl|rfl<;>exact⟨h.1,h.2⟩
theorem ib.loose (q:Nat) {l:List Oper} {wd:World} (h:ib P r n (Go.K.loose q l) L ds wd K):ib P r n l L ds wd K:=by
 intro a ha;obtain⟨J,h1,h2,h3,h4⟩:=h a ha;rw[l3]at h1 h3;refine⟨J,h1,fun Q D a w j o rest hj ho pC hp lF hJ hk=>?_,h3,h4⟩;obtain⟨o2,tg,hA⟩:=oB (q:=q) ho;refine Jr (q:=q) ho (h2 _ D a w j o2 [] (by rw[l3];exact hj) tg pC (fun k hk=>hp k (hA.cr k hk)) (fun i o' gB hD k hk=>?_) hJ fun a' w' R3=>hk _ _ R3);obtain⟨o3,h5,h6⟩:=Jq gB;exact lF i o3 h5 hD k (h6.cr k hk)
theorem T.Vg {id:Nat} {l l':List Oper} (q:Nat) (π:List Nat) (m:Nat) (fl:List Nat) (c:Nat) (N:aC) (hm:P.follows .mixedOrders=true) (Fc:xT π (loose q l)=l') (rO:eB l 0=true) (Z2:eB (loose q l) 0=true) (hπ:lG π l.length=true) (qh:Nat.blt m l'.length=true) (dj:eB l' 0=true) (nw:km l' m=true) (ER:lh l' m fl c=true)
  (h:∀wD,(∀M,Step M w M wD aD)→lB P r n l'.toArray (l'.take m) L ds wD (fun L'=>(∀j o,j∈fl→l'[j]? =some o→bZ P N wD L' o)∧tq P r n l'.toArray N wD K c (l'.drop m) L' ds wD)):T P r n (.region id l.toArray true) L ds w K:=by
 subst Fc;exact ib.t hm rO fun wD hD=> .loose q (.perm π (by rw[l3];exact hπ) Z2 (xS m fl c N qh dj nw ER (h wD hD)))
end
end Go.K

/- What the law 'MergeKeeps' needs of walks and plain Lean, part 5: nothing is assumed beyond the texts that it imports. -/
import Derived.Ground.Names8Prog
import Derived.Ground.SlgnProg
import Derived.Ground.SlsfProg
import Derived.KernelRfl
import Derived.Laws.StructEq
import Derived.Lib.RowBridge
import Derived.Lib.SlicesCompact
import Derived.Shelf.Lays8
import Derived.Shelf.SlGeneric
import Derived.Shelf.SlLaysN
import Derived.Shelf.SlSortCmp.NoneTotal
import Derived.Shelf.SlicesG.CompactS
import Derived.Shelf.SortM.Plain
import Derived.Shelf.SortM.SortNone
import Derived.Shelf.Spec.SlicesGrow
import Derived.Test.YtbobcaffmbaadaaGreatDoorProg
import Derived.Test.YtbobcaffmbaadaaGreatDoorZMergeKeeps1
import Derived.Test.YtbobcaffmbaadaaGreatDoorZMergeKeeps2
import Derived.Test.YtbobcaffmbaadaaGreatDoorZMergeKeeps3
import Derived.Test.YtbobcaffmbaadaaGreatDoorZMergeKeeps4
set_option linter.unusedVariables false
set_option linter.unusedSimpArgs false
namespace Go.K
variable {P:Program} {r:Option Nat} {n:Nat} {L:Sl} {ds:List Deferred} {w:World} {K:Kt} {ops:Array Oper} {rest:List Oper} {d:Nat} {x y:Operand} {ty:TypeId} {pos:String} {af:Array Edge} {α:Type} {A:RT α}
def zU {α:Type} (A:RT α):Prop:=∀(M M':aC) (w w':World) (x:α) (vs:List Value),A.R M w x vs→A.R M' w' x vs
theorem dZ.Ql {M M':aC} {w w':World} (hA:zU A):∀{xs:List α} {C:List Value},dZ A M w xs C→dZ A M' w' xs C
 |[],_,h=>h
 |_::_,_,⟨vs,rest,h1,h2,h3⟩=>⟨vs,rest,h1,hA _ _ _ _ _ _ h2,dZ.Ql hA h3⟩
theorem Own.NC {e:TypeId} {M M2:aC} {w':World} {base:Nat} {v:Value} {xs:List α} (hA:zU A) (h:Own A e M2 w' base v xs) (s:Step M w M2 w' aD) (hb:w.heap.size≤base) (M1:aC):Own A e (jh M1 v) w' base v xs∧Step M1 w (jh M1 v) w' aD:=by
 have Hc:=h.base;obtain⟨⟨C,hr,ha⟩,hm⟩:=h;refine⟨⟨⟨C,hr,ha.Ql hA⟩,fun b hb=> .inl hb⟩,fun hl b Hb=>?_,s.os,s.tape,s.output,s.size,fun b Hb=>⟨fun h=>h.resolve_left fun e=>by have:=(Hc b e).1;omega,.inr⟩,s.same,fun b h=>h.elim⟩;rcases Hb with h|h
 ·exact(Hc b h).2
 ·exact jy (hl b h) s.size
theorem Own.GA {hn:0<A.n} {e:TypeId} {M M1 M2:aC} {w':World} {base:Nat} {v:Value} {xs:List α} (hA:zU A) (h:Own A e M2 w' base v xs) (s:Step M w M2 w' aD) (hb:w.heap.size≤base) (hM:Lt M1 w) (hlen:xs.length≤140737488355328):(A.sl hn).V M1 w' xs v∧Step M1 w M1 w' aD:=by
 have Hc:=h.base;obtain⟨h1,h2⟩:=h.NC hA s hb M1;exact⟨h1.sl (fun b _ IZ=>⟨fun h=>IZ (.inr h),rfl⟩) (fun b Bk hM'=>by have h3:=(Hc b Bk).1;have h4:=hM b hM';omega) hlen,s.any M1⟩
end Go.K
namespace Go.K
open Go.Proofs
set_option maxRecDepth 10000
def gr (l:List Bool):List Int:=(l.zipIdx.filter fun p=>p.1).map fun p=>(p.2:Int)
theorem vv (l:List Bool):(gr l).length≤l.length:=by
 unfold gr;rw[aH];exact eD (jF _ _) (by simp)
end Go.K
namespace Go.K
abbrev Hd:=Int×Int×Int
def hn (xs:List Hd) (i:Nat):Int:=(xs.getD i (0,0,0)).1
def swp (xs:List Hd) (i j:Nat):List Hd:=(xs.set i (xs.getD j (0,0,0))).set j (xs.getD i (0,0,0))
def pO (xs:List Hd):Prop:=∀k,0<k→k<xs.length→hn xs ((k-1)/2)≤hn xs k
theorem lN (xs:List Hd) (i j:Nat):(swp xs i j).length=xs.length:=by unfold swp;simp
theorem qx {xs:List Hd} {i j:Nat} (hi:i<xs.length) (hj:j<xs.length) (k:Nat):(swp xs i j).getD k (0,0,0)=if k=j then xs.getD i (0,0,0)else if k=i then xs.getD j (0,0,0)else xs.getD k (0,0,0):=by
 unfold swp;simp only[aA,dr,fm];by_cases h1:j=k
 ·subst h1;rw[if_pos rfl,if_pos hj,if_pos rfl];rfl
 ·rw[if_neg h1,if_neg (show¬k=j from fun h=>h1 h.symm)];by_cases h2:i=k
  ·subst h2;rw[if_pos rfl,if_pos rfl,if_pos hi];rfl
  ·rw[if_neg h2,if_neg (show¬k=i from fun h=>h2 h.symm)]
theorem GB {xs:List Hd} {i j:Nat} (hi:i<xs.length) (hj:j<xs.length) (k:Nat):hn (swp xs i j) k=if k=j then hn xs i else if k=i then hn xs j else hn xs k:=by
 unfold hn;rw[qx hi hj];split
 ·rfl
 ·split<;>rfl
theorem qy {xs:List Hd} {i j:Nat} (hi:i<xs.length) (hj:j<xs.length):(swp xs i j).Perm xs:=by
 have:=List.set_set_perm hi hj;unfold swp;rw[aA,aA,au hi,au hj];exact this
structure OI (xs:List Hd) (j:Nat):Prop where
 a:∀k,0<k→k<xs.length→k≠j→hn xs ((k-1)/2)≤hn xs k
 b:0<j→∀k,0<k→k<xs.length→(k-1)/2=j→hn xs ((j-1)/2)≤hn xs k
theorem OI.done {xs:List Hd} {j:Nat} (h:OI xs j) (hd:j=0∨hn xs ((j-1)/2)≤hn xs j):pO xs:=fun k h0 hk=>by
 by_cases e:k=j
 ·subst e;rcases hd with hd|hd
  ·omega
  ·exact hd
 ·exact h.a k h0 hk e
theorem OI.push {xs:List Hd} (h:pO xs) (x:Hd):OI (xs++[x]) xs.length:=by
 have key:∀k,k<xs.length→hn (xs++[x]) k=hn xs k:=fun k hk=>by
  unfold hn;rw[aA,aA,iv hk]
 refine⟨fun k h0 hk eN=>?_,fun h0 k E2 hk he=>?_⟩
 ·rw[bj,dm]at hk;rw[key k (by omega),key _ (by omega)];exact h k h0 (by omega)
 ·rw[bj,dm]at hk;omega
theorem OI.swap {xs:List Hd} {j:Nat} (h:OI xs j) (hj:j<xs.length) (h0:0<j) (hl:hn xs j<hn xs ((j-1)/2)):OI (swp xs ((j-1)/2) j) ((j-1)/2):=by
 obtain⟨i,hi⟩:∃i,i=(j-1)/2:=⟨_,rfl⟩;rw[←hi]at hl ⊢;have jf:i<j:=by omega
 have hs:=fun k=>GB (xs:=xs) (i:=i) (j:=j) (by omega) hj k
 refine⟨fun k E2 hk eN=>?_,fun hi0 k E2 hk he=>?_⟩
 ·rw[lN]at hk;rw[hs,hs];by_cases e1:k=j
  ·subst e1;rw[if_pos rfl,←hi,if_neg (by omega),if_pos rfl];omega
  ·rw[if_neg e1,if_neg eN];by_cases e2:(k-1)/2=j
   ·rw[if_pos e2];have:=h.b h0 k E2 hk e2;rw[←hi]at this;exact this
   ·rw[if_neg e2];have h1:=h.a k E2 hk e1;by_cases e3:(k-1)/2=i
    ·rw[if_pos e3];rw[e3]at h1;omega
    ·rw[if_neg e3];exact h1
 ·rw[lN]at hk;rw[hs,hs,if_neg (by omega),if_neg (by omega)];have h2:=h.a i hi0 (by omega) (by omega);by_cases e1:k=j
  ·rw[if_pos e1];exact h2
  ·rw[if_neg e1,if_neg (by omega)];have h1:=h.a k E2 hk e1;rw[he]at h1;omega
structure J2 (xs:List Hd) (n i:Nat):Prop where
 a:∀k,0<k→k<n→(k-1)/2≠i→hn xs ((k-1)/2)≤hn xs k
 b:0<i→∀k,0<k→k<n→(k-1)/2=i→hn xs ((i-1)/2)≤hn xs k
theorem J2.leaf {xs:List Hd} {n i:Nat} (h:J2 xs n i) (hl:n≤2*i+1):∀k,0<k→k<n→hn xs ((k-1)/2)≤hn xs k:=fun k h0 hk=>h.a k h0 hk (by omega)
theorem J2.stay {xs:List Hd} {n i j:Nat} (h:J2 xs n i) (hj:j=2*i+1∨j=2*i+2) (hm:∀k,(k=2*i+1∨k=2*i+2)→k<n→hn xs j≤hn xs k) (hs:hn xs i≤hn xs j):∀k,0<k→k<n→hn xs ((k-1)/2)≤hn xs k:=fun k h0 hk=>by
 by_cases e:(k-1)/2=i
 ·rw[e];have:=hm k (by omega) hk;omega
 ·exact h.a k h0 hk e
theorem J2.swap {xs:List Hd} {n i j:Nat} (h:J2 xs n i) (IZ:n≤xs.length) (JT:j<n) (hj:j=2*i+1∨j=2*i+2) (hm:∀k,(k=2*i+1∨k=2*i+2)→k<n→hn xs j≤hn xs k) (hl:hn xs j<hn xs i):J2 (swp xs i j) n j:=by
 have hs:=fun k=>GB (xs:=xs) (i:=i) (j:=j) (by omega) (by omega) k
 refine⟨fun k E2 hk eN=>?_,fun _ k E2 hk he=>?_⟩
 ·rw[hs,hs,if_neg eN];by_cases e1:(k-1)/2=i
  ·rw[if_pos e1];by_cases e2:k=j
   ·rw[if_pos e2];omega
   ·rw[if_neg e2,if_neg (by omega)];exact hm k (by omega) hk
  ·rw[if_neg e1,if_neg (by omega)];by_cases e2:k=i
   ·rw[if_pos e2,e2];rw[e2]at E2;exact h.b E2 j (by omega) JT (by omega)
   ·rw[if_neg e2];exact h.a k E2 hk e1
 ·rw[hs,hs,if_neg (by omega),if_pos (by omega),if_neg (by omega),if_neg (by omega)];have h1:=h.a k E2 hk (by omega);rw[he]at h1;exact h1
theorem J2.pop {xs:List Hd} (h:pO xs) (hl:0<xs.length):J2 (swp xs 0 (xs.length-1)) (xs.length-1) 0:=by
 have hs:=fun k=>GB (xs:=xs) (i:=0) (j:=xs.length-1) hl (by omega) k
 refine⟨fun k E2 hk eN=>?_,fun h0=>by omega⟩;rw[hs,hs,if_neg (by omega),if_neg (by omega),if_neg (by omega),if_neg (by omega)];exact h k E2 (by omega)
theorem pO.min {xs:List Hd} (h:pO xs):∀k,k<xs.length→hn xs 0≤hn xs k
 |0,_=>Int.le_refl _
 |k+1,hk=>Int.le_trans (pO.min h (k/2) (by omega)) (by have:=h (k+1) (by omega) hk;rwa [Nat.add_sub_cancel]at this)
termination_by k _=>k
theorem pO.take {xs:List Hd} {n:Nat} (IZ:n≤xs.length) (h:∀k,0<k→k<n→hn xs ((k-1)/2)≤hn xs k):pO (xs.take n):=fun k h0 hk=>by
 rw[bC]at hk
 have key:∀t,t<n→hn (xs.take n) t=hn xs t:=fun t ht=>by
  unfold hn;rw[aA,aA,cp,if_pos ht]
 rw[key _ (by omega),key _ (by omega)];exact h k h0 (by omega)
theorem VD {xs:List Hd} {x:Hd} (hx:x∈xs):∃k,k<xs.length∧xs.getD k (0,0,0)=x∧hn xs k=x.1:=by
 obtain⟨k,hk⟩:=bE.1 hx;have h1:=(ao.1 hk).1;refine⟨k,h1,?_,?_⟩
 ·rw[aA,hk];rfl
 ·unfold hn;rw[aA,hk];rfl
theorem Qm {xs ys:List Hd} (hl:0<xs.length) (hp:ys.Perm xs) (jj:ys.getD (xs.length-1) (0,0,0)=xs.getD 0 (0,0,0)):∃x,ys.getD (xs.length-1) (0,0,0)=x∧(x::ys.take (xs.length-1)).Perm xs:=by
 refine⟨_,rfl,?_⟩;have Fk:=hp.length_eq
 have h1:ys=ys.take (xs.length-1)++[ys.getD (xs.length-1) (0,0,0)]:=by
  conv=>lhs;rw[←uu (xs.length-1) ys]
  congr 1;rw[dC (by omega),fw (by omega),aA,au (by omega)];rfl
 have h2:(ys.getD (xs.length-1) (0,0,0)::ys.take (xs.length-1)).Perm (ys.take (xs.length-1)++[ys.getD (xs.length-1) (0,0,0)]):=(List.perm_append_comm (l₁:=[_]));rw[←h1]at h2;exact h2.trans hp
end Go.K
namespace Go.K
theorem sK:∀(l:List Int) (last:Int),eA last l=true→l.Pairwise (· < ·)∧∀x∈l,last<x
 |[],_,_=>by simp
 |a::l,last,h=>by
  simp only[eA,bU,decide_eq_true_eq]at h;obtain⟨h1,h2⟩:=sK l a h.2;refine⟨ez.2 ⟨h2,h1⟩,fun x hx=>?_⟩;rcases cd.1 hx with rfl|hx
  ·exact h.1
  ·have:=h2 x hx;omega
end Go.K
namespace Go.K
def Tr (ls:List (List Int)) (i k:Nat) (n:Int):Prop:=∃l,ls[i]? =some l∧l[k]? =some n
def yS (f:Nat→Nat):Nat→Nat
 |0=>0
 |k+1=>yS f k+f k
theorem HV {f g:Nat→Nat}:∀{n:Nat},(∀j,j<n→f j=g j)→yS f n=yS g n
 |0,_=>rfl
 |n+1,h=>by unfold yS;rw[HV (fun j hj=>h j (by omega)),h n (by omega)]
theorem Ec {f g:Nat→Nat} {i:Nat} (hi:f i=g i+1) (hj:∀j,j≠i→f j=g j):∀{n:Nat},i<n→yS f n=yS g n+1
 |0,h=>by omega
 |n+1,h=>by
  unfold yS;by_cases e:i=n
  ·subst e;rw[hi,HV (fun j hj'=>hj j (by omega))];omega
  ·rw[Ec hi hj (n:=n) (by omega),hj n (fun h=>e h.symm)];omega
def qz (ls:List (List Int)) (i:Nat):Nat:=(ls.getD i []).length
def rz (ls:List (List Int)):Nat:=yS (qz ls) ls.length
def rem (ls:List (List Int)) (at_:Nat→Nat):Nat:=yS (fun i=>qz ls i-at_ i) ls.length
def Ed (at_:Nat→Nat) (i:Nat):Nat→Nat:=fun j=>if j=i then at_ j+1 else at_ j
theorem Tr.lt {ls:List (List Int)} {i k:Nat} {n:Int} (h:Tr ls i k n):i<ls.length∧k<qz ls i:=by
 obtain⟨l,h1,h2⟩:=h;have h3:=(ao.1 h1).1;refine⟨h3,?_⟩;unfold qz;rw[aA,h1];exact(ao.1 h2).1
theorem Tr.un {ls:List (List Int)} {i k:Nat} {n n':Int} (h:Tr ls i k n) (h':Tr ls i k n'):n=n':=by
 obtain⟨l,h1,h2⟩:=h;obtain⟨l',h3,h4⟩:=h';rw[h1]at h3;cases h3;rw[h2]at h4;cases h4;rfl
theorem Tr.ex {ls:List (List Int)} {i k:Nat} (h:k<qz ls i):∃n,Tr ls i k n:=by
 unfold qz at h;rw[aA]at h
 cases hi:ls[i]? with
 |none=>rw[hi]at h;simp at h
 |some l=>rw[hi]at h;exact⟨_,l,hi,au h⟩
def Up (ls:List (List Int)):Prop:=∀l∈ls,eA (-1) l=true
noncomputable instance (ls:List (List Int)):Decidable (Up ls):=Classical.propDecidable _
theorem Up.mono {ls:List (List Int)} (h:Up ls) {i k k':Nat} {n n':Int} (h1:Tr ls i k n) (h2:Tr ls i k' n') (hk:k<k'):n<n':=by
 obtain⟨l,a1,a2⟩:=h1;obtain⟨l',b1,b2⟩:=h2;rw[a1]at b1;cases b1;have hp:=(sK l (-1) (h l (az a1))).1;obtain⟨c1,c2⟩:=ao.1 a2;obtain⟨d1,d2⟩:=ao.1 b2;rw[←c2,←d2];exact(cD.1 hp) k k' c1 d1 hk
theorem Up.nn {ls:List (List Int)} (h:Up ls) {i k:Nat} {n:Int} (h1:Tr ls i k n):0≤n:=by
 obtain⟨l,a1,a2⟩:=h1;have:=(sK l (-1) (h l (az a1))).2 n (az a2);omega
structure yT (ls:List (List Int)) (at_:Nat→Nat) (out:List Hd) (last:Int):Prop where
 a:∀o∈out,∃i k:Nat,o=(o.1,(i:Int),(k:Int))∧Tr ls i k o.1∧k<at_ i
 b:∀i k n,Tr ls i k n→k<at_ i→(n,(i:Int),(k:Int))∈out
 c:out.Pairwise fun p q=>p.1<q.1
 d:∀o∈out,o.1≤last
 d2:last= -1∨∃o∈out,o.1=last
 e:∀i n,Tr ls i (at_ i) n→last≤n
 f:out.length+rem ls at_=rz ls
theorem yT.zero (ls:List (List Int)) (h:Up ls):yT ls (fun _=>0) [] (-1):=
 ⟨fun _ h=>by(cases h),fun i k n _ h=>by omega,List.Pairwise.nil,fun _ h=>by(cases h),.inl rfl,fun i n ht=>by have:=h.nn ht;omega,by simp[rem,rz]⟩
theorem yT.step {ls:List (List Int)} {at_:Nat→Nat} {out:List Hd} {last:Int} (hu:Up ls) (h:yT ls at_ out last) {i:Nat} {n:Int} (ht:Tr ls i (at_ i) n) (ND:∀j m,Tr ls j (at_ j) m→n≤m) (eN:n≠last):
  yT ls (Ed at_ i) (out++[(n,(i:Int),((at_ i:Nat):Int))]) n:=by
 have dQ:=h.e i n ht;refine⟨fun o ho=>?_,fun j k m hj hk=>?_,?_,fun o ho=>?_,.inr ⟨_,List.mem_append_right _ (bH.2 rfl),rfl⟩,fun j m hj=>?_,?_⟩
 ·rcases cq.1 ho with ho|ho
  ·obtain⟨j,k,h1,h2,h3⟩:=h.a o ho;exact⟨j,k,h1,h2,by unfold Ed;split<;>omega⟩
  ·rw[bH]at ho;subst ho;exact⟨i,at_ i,rfl,ht,by unfold Ed;rw[if_pos rfl];omega⟩
 ·unfold Ed at hk;by_cases e:j=i
  ·subst e;rw[if_pos rfl]at hk;rcases cy k (at_ j)with h1|h1
   ·exact gw _ (h.b j k m hj h1)
   ·obtain rfl:k=at_ j:=by omega
    rw[hj.un ht];exact List.mem_append_right _ (bH.2 rfl)
  ·rw[if_neg e]at hk;exact gw _ (h.b j k m hj hk)
 ·refine ng.2 ⟨h.c,List.pairwise_singleton _ _,fun p hp q hq=>?_⟩;rw[bH]at hq;subst hq;have:=h.d p hp;simp only;omega
 ·rcases cq.1 ho with ho|ho
  ·have:=h.d o ho;omega
  ·rw[bH]at ho;subst ho;exact Int.le_refl _
 ·unfold Ed at hj;by_cases e:j=i
  ·subst e;rw[if_pos rfl]at hj;have:=hu.mono ht hj (by omega);omega
  ·rw[if_neg e]at hj;exact ND j m hj
 ·obtain⟨h1,h2⟩:=ht.lt;have h3:=h.f;have h4:rem ls at_=rem ls (Ed at_ i)+1:=Ec (i:=i) (by simp only[Ed,if_true];omega) (fun j hj=>by simp only[Ed,if_neg hj]) h1;rw[bj,dm];omega
def re (ls:List (List Int)):Option (List Hd)→Prop
 |none=>∃i k i' k' n,¬(i=i'∧k=k')∧Tr ls i k n∧Tr ls i' k' n
 |some out=>(out.Pairwise fun p q=>p.1<q.1)∧(∀o∈out,∃i k:Nat,o=(o.1,(i:Int),(k:Int))∧Tr ls i k o.1)∧∀i k n,Tr ls i k n→(n,(i:Int),(k:Int))∈out
theorem yT.fin {ls:List (List Int)} {at_:Nat→Nat} {out:List Hd} {last:Int} (h:yT ls at_ out last) (hn:∀i n,¬Tr ls i (at_ i) n):re ls (some out):=by
 refine⟨h.c,fun o ho=>?_,fun i k n ht=>?_⟩
 ·obtain⟨i,k,h1,h2,_⟩:=h.a o ho;exact⟨i,k,h1,h2⟩
 ·refine h.b i k n ht ?_;rcases cy k (at_ i)with h1|h1
  ·exact h1
  ·obtain⟨m,hm⟩:=Tr.ex (ls:=ls) (i:=i) (k:=at_ i) (by have:=ht.lt.2;omega);exact absurd hm (hn i m)
theorem yT.ZX {ls:List (List Int)} {at_:Nat→Nat} {out:List Hd} {last:Int} (hu:Up ls) (h:yT ls at_ out last) {i:Nat} {n:Int} (ht:Tr ls i (at_ i) n) (he:n=last):re ls none:=by
 rcases h.d2 with h1|⟨o,ho,h1⟩
 ·have:=hu.nn ht;omega
 ·obtain⟨j,k,h2,h3,h4⟩:=h.a o ho;refine⟨i,at_ i,j,k,n,fun⟨e1,e2⟩=>by subst e1;omega,ht,?_⟩;rw[he,←h1];exact h3
theorem AV:∀{a b:List Hd},(a.Pairwise fun p q=>p.1<q.1)→(b.Pairwise fun p q=>p.1<q.1)→(∀x,x∈a↔x∈b)→a=b
 |[],[],_,_,_=>rfl
 |[],y::b,_,_,h=>by have:=(h y).2 (bK ..);cases this
 |x::a,[],_,_,h=>by have:=(h x).1 (bK ..);cases this
 |x::a,y::b,ha,hb,h=>by
  obtain⟨ha1,ha2⟩:=ez.1 ha;obtain⟨Bk,Hb⟩:=ez.1 hb
  have e:x=y:=by
   rcases cd.1 ((h x).1 (bK ..))with h1|h1
   ·exact h1
   ·rcases cd.1 ((h y).2 (bK ..))with h2|h2
    ·exact h2.symm
    ·have:=Bk x h1;have:=ha1 y h2;omega
  subst e;rw[AV ha2 Hb (fun z=>?_)];constructor
  ·intro hz;rcases cd.1 ((h z).1 (bZ _ hz))with h1|h1
   ·subst h1;have:=ha1 z hz;omega
   ·exact h1
  ·intro hz;rcases cd.1 ((h z).2 (bZ _ hz))with h1|h1
   ·subst h1;have:=Bk z hz;omega
   ·exact h1
theorem GC {out:List Hd} (h:out.Pairwise fun p q=>p.1<q.1) {x y:Hd} (hx:x∈out) (hy:y∈out) (he:x.1=y.1):x=y:=by
 obtain⟨i,hi⟩:=bE.1 hx;obtain⟨j,hj⟩:=bE.1 hy;obtain⟨i1,i2⟩:=ao.1 hi;obtain⟨j1,j2⟩:=ao.1 hj;have hp:=cD.1 h;rcases fa i j with h1|h1|h1
 ·have:=hp i j i1 j1 h1;rw[i2,j2]at this;omega
 ·subst h1;rw[←i2,←j2]
 ·have:=hp j i j1 i1 h1;rw[i2,j2]at this;omega
theorem re.un {ls:List (List Int)}:∀{r r':Option (List Hd)},re ls r→re ls r'→r=r':=by
 have key:∀{out:List Hd},re ls none→re ls (some out)→False:=by
  rintro out ⟨i,k,i',k',n,eN,h1,h2⟩ ⟨h3,h4,h5⟩;have:=GC h3 (h5 _ _ _ h1) (h5 _ _ _ h2) rfl;simp only[ef,true_and]at this;exact eN ⟨by omega,by omega⟩
 intro r r' h h'
 cases r with
 |none=>cases r' with
  |none=>rfl
  |some o=>exact(key h h').elim
 |some o=>cases r' with
  |none=>exact(key h' h).elim
  |some o'=>
   have half:∀{a b:List Hd},re ls (some a)→re ls (some b)→∀x∈a,x∈b:=fun ha hb x hx=>by
    obtain⟨i,k,e1,e2⟩:=ha.2.1 x hx;rw[e1];exact hb.2.2 i k _ e2
   rw[AV h.1 h'.1 (fun x=>⟨half h h' x,half h' h x⟩)]
def oc (ls:List (List Int)) (at_:Nat→Nat) (upto:Nat) (hs:List Hd):Prop:=hs.Nodup∧∀h:Hd,h∈hs↔∃(i:Nat) (n:Int),i<upto∧h=(n,(i:Int),((at_ i:Nat):Int))∧Tr ls i (at_ i) n
theorem oc.perm {ls:List (List Int)} {at_:Nat→Nat} {u:Nat} {hs pF:List Hd} (h:oc ls at_ u hs) (hp:pF.Perm hs):oc ls at_ u pF:=⟨hp.nodup_iff.2 h.1,fun x=>(hp.mem_iff).trans (h.2 x)⟩
def Js (ls:List (List Int)) (i k:Nat):List Hd:=match (ls.getD i [])[k]? with
 |some n=>[(n,(i:Int),(k:Int))]
 |none=>[]
theorem Tr.iff {ls:List (List Int)} {i k:Nat} {n:Int}:Tr ls i k n↔i<ls.length∧(ls.getD i [])[k]? =some n:=by
 constructor
 ·rintro⟨l,h1,h2⟩;have h3:=(ao.1 h1).1;rw[aA,h1];exact⟨h3,h2⟩
 ·rintro⟨h1,h2⟩;rw[aA,au h1]at h2;exact⟨_,au h1,h2⟩
theorem xo {ls:List (List Int)} {i k:Nat} (hi:i<ls.length) {h:Hd}:h∈Js ls i k↔∃n,h=(n,(i:Int),(k:Int))∧Tr ls i k n:=by
 unfold Js;constructor
 ·intro hh
  split at hh
  ·rename_i n hn
   rw[bH]at hh;exact⟨n,hh,Tr.iff.2 ⟨hi,hn⟩⟩
  ·cases hh
 ·rintro⟨n,rfl,ht⟩;rw[(Tr.iff.1 ht).2];exact bH.2 rfl
theorem AW (ls:List (List Int)) (i k:Nat):(Js ls i k).Nodup:=by unfold Js;split<;>simp
theorem oc.fill {ls:List (List Int)} {u:Nat} {hs pF:List Hd} (h:oc ls (fun _=>0) u hs) (hu:u<ls.length) (hp:pF.Perm (hs++Js ls u 0)):oc ls (fun _=>0) (u+1) pF:=by
 refine oc.perm (hs:=hs++Js ls u 0) ⟨?_,fun x=>?_⟩ hp
 ·refine List.nodup_append.2 ⟨h.1,AW _ _ _,fun a ha b hb e=>?_⟩;subst e;obtain⟨i,n,h1,h2,_⟩:=(h.2 a).1 ha;obtain⟨m,h3,_⟩:=(xo hu).1 hb;rw[h2]at h3;simp only[ef]at h3;omega
 ·rw[cq,h.2 x,xo hu];constructor
  ·rintro(⟨i,n,h1,h2,h3⟩|⟨n,h2,h3⟩)
   ·exact⟨i,n,by omega,h2,h3⟩
   ·exact⟨u,n,by omega,h2,h3⟩
  ·rintro⟨i,n,h1,h2,h3⟩;rcases cy i u with h4|h4
   ·exact .inl ⟨i,n,h4,h2,h3⟩
   ·obtain rfl:i=u:=by omega
    exact .inr ⟨n,h2,h3⟩
theorem oc.next {ls:List (List Int)} {at_:Nat→Nat} {hs ys zs:List Hd} {i:Nat} {n:Int} (h:oc ls at_ ls.length hs) (hp:((n,(i:Int),((at_ i:Nat):Int))::ys).Perm hs) (hi:i<ls.length) (hz:zs.Perm (ys++Js ls i (at_ i+1))):oc ls (Ed at_ i) ls.length zs:=by
 have om:=(hp.nodup_iff).2 h.1;obtain⟨hn1,hn2⟩:=List.nodup_cons.1 om
 have eL:∀x,x∈ys↔x∈hs∧x≠(n,(i:Int),((at_ i:Nat):Int)):=fun x=>by
  rw[←hp.mem_iff,cd];constructor
  ·intro hx;exact⟨.inr hx,fun e=>hn1 (e▸hx)⟩
  ·rintro⟨h1|h1,h2⟩
   ·exact absurd h1 h2
   ·exact h1
 have hx:(n,(i:Int),((at_ i:Nat):Int))∈hs:=(hp.mem_iff).1 (bK ..);obtain⟨i',n',h1,h2,h3⟩:=(h.2 _).1 hx;simp only[ef]at h2;obtain⟨e1,e2,e3⟩:=h2;obtain rfl:i=i':=by omega
 subst e1;refine oc.perm (hs:=ys++Js ls i (at_ i+1)) ⟨?_,fun x=>?_⟩ hz
 ·refine List.nodup_append.2 ⟨hn2,AW _ _ _,fun a ha b hb e=>?_⟩;subst e;obtain⟨j,m,g1,g2,g3⟩:=(h.2 a).1 ((eL a).1 ha).1;obtain⟨m',g4,_⟩:=(xo hi).1 hb;rw[g2]at g4;simp only[ef]at g4;obtain rfl:j=i:=by omega
  omega
 ·rw[cq,eL,h.2 x,xo hi];constructor
  ·rintro(⟨⟨j,m,g1,g2,g3⟩,g4⟩|⟨m,g2,g3⟩)
   ·have Rz:j≠i:=fun e=>by subst e;rw[g2]at g4;exact g4 (by rw[g3.un h3])
    exact⟨j,m,g1,by rw[g2];simp only[Ed,if_neg Rz],by simp only[Ed,if_neg Rz];exact g3⟩
   ·exact⟨i,m,hi,by rw[g2];simp only[Ed,if_true],by simp only[Ed,if_true];exact g3⟩
  ·rintro⟨j,m,g1,g2,g3⟩;by_cases e:j=i
   ·subst e;simp only[Ed,if_true]at g2 g3;exact .inr ⟨m,g2,g3⟩
   ·simp only[Ed,if_neg e]at g2 g3;exact .inl ⟨⟨j,m,g1,g2,g3⟩,fun e2=>by rw[g2]at e2;simp only[ef]at e2;omega⟩
theorem oc.zero (ls:List (List Int)):oc ls (fun _=>0) 0 []:=⟨List.nodup_nil,fun x=>⟨fun h=>by(cases h),fun⟨i,n,h,_⟩=>by omega⟩⟩
theorem oc.ag6 {ls:List (List Int)} {at_:Nat→Nat} (h:oc ls at_ ls.length []):∀i n,¬Tr ls i (at_ i) n:=fun i n ht=>by
 have:=(h.2 _).2 ⟨i,n,ht.lt.1,rfl,ht⟩;cases this
theorem oc.len {ls:List (List Int)} {at_:Nat→Nat} {u:Nat} {hs:List Hd} (h:oc ls at_ u hs):hs.length≤u:=by
 have OO:(hs.map fun h=>h.2.1.toNat).Nodup:=by
  refine cA.2 (h.1.imp_of_mem fun {a b} ha hb W3 e=>W3 ?_);obtain⟨i,n,_,h2,h3⟩:=(h.2 a).1 ha;obtain⟨j,m,_,g2,g3⟩:=(h.2 b).1 hb;rw[h2,g2]at e;simp only[ay]at e;subst e;rw[h2,g2,h3.un g3]
 have dQ:∀x∈(hs.map fun h=>h.2.1.toNat),x<u:=fun x hx=>by
  obtain⟨y,hy,rfl⟩:=ca.1 hx;obtain⟨i,n,h1,h2,_⟩:=(h.2 y).1 hy;rw[h2];simpa using h1
 have hss:∀x∈(hs.map fun h=>h.2.1.toNat),x∈List.range u:=fun x hx=>List.mem_range.2 (dQ x hx)
 have:=List.Nodup.length_le_of_subset OO hss;rw[aH,List.length_range]at this;exact this
theorem ie {l:List Int} (h0:0<l.length):eA (-1) l=true↔0≤l.getD 0 0∧(∀i,i+1<l.length→l.getD i 0≤l.getD (i+1) 0)∧(∀i,i+1<l.length→l.getD i 0≠l.getD (i+1) 0):=by
 have key:∀(l:List Int) (last:Int),eA last l=true↔(∀x,l[0]? =some x→last<x)∧∀i,i+1<l.length→l.getD i 0<l.getD (i+1) 0:=by
  intro l
  induction l with
  |nil=>intro last;simp[eA]
  |cons a l ih=>
   intro last;simp only[eA,bU,decide_eq_true_eq,ih a];constructor
   ·rintro⟨h1,h2,h3⟩;refine⟨fun x hx=>by simp at hx;omega,fun i hi=>?_⟩
    cases i with
    |zero=>
     cases l with
     |nil=>simp at hi
     |cons b l=>simpa using h2 b rfl
    |succ i=>simpa using h3 i (by simpa using hi)
   ·rintro⟨h1,h2⟩;refine⟨h1 a rfl,fun x hx=>?_,fun i hi=>?_⟩
    ·have:=h2 0 (by have:=(ao.1 hx).1;simp;omega);simp only[jb,fN,jc]at this;rw[aA,hx]at this;exact this
    ·have:=h2 (i+1) (by simp;omega);simpa using this
 rw[key];constructor
 ·rintro⟨h1,h2⟩;refine⟨?_,fun i hi=>Int.le_of_lt (h2 i hi),fun i hi=>by have:=h2 i hi;omega⟩;have:=h1 _ (au h0);rw[aA,au h0];simp only[Option.getD_some];omega
 ·rintro⟨h1,h2,h3⟩;refine⟨fun x hx=>?_,fun i hi=>by have:=h2 i hi;have:=h3 i hi;omega⟩;rw[aA,hx]at h1;simp only[Option.getD_some]at h1;omega
def dW (out:List Hd):List (Int×Int):=out.map Prod.snd
end Go.K
namespace Go.K
abbrev RT.hd:RT Hd:=RT.pair (RT.int .i64) (RT.pair (RT.int .i64) (RT.int .i64))
theorem R6:Part RT.hd (RT.int .i64) (fun h=>h.1) 0:=mI _ _
theorem hd1:Part RT.hd (RT.int .i64) (fun h=>h.2.1) 1:=(iG _ _).trans (mI _ _)
theorem hd2:Part RT.hd (RT.int .i64) (fun h=>h.2.2) 2:=(iG _ _).trans (iG _ _)
def lO (x:Int):Prop:= -9223372036854775808≤x∧x≤9223372036854775807
theorem NF {M:aC} {w:World} {a b c:Int} (ha:lO a) (hb:lO b) (hc:lO c):RT.hd.V M w (a,b,c) (.agg #[.int .i64 a,.int .i64 b,.int .i64 c]):=
 ⟨[.int .i64 a,.int .i64 b,.int .i64 c],⟨[.int .i64 a],[.int .i64 b,.int .i64 c],rfl,⟨rfl,ha⟩,⟨[.int .i64 b],[.int .i64 c],rfl,⟨rfl,hb⟩,⟨rfl,hc⟩⟩⟩,rfl⟩
theorem sL {M:aC} {w:World} {a b c:Int} {v:Value} (h:RT.hd.V M w (a,b,c) v):v= .agg #[.int .i64 a,.int .i64 b,.int .i64 c]∧lO a∧lO b∧lO c:=by
 obtain⟨vs,⟨va,vb,rfl,h1,⟨vc,vd,rfl,h2,h3⟩⟩,rfl⟩:=h;have e1:=h1.1;have e2:=h2.1;have e3:=h3.1;subst e1;subst e2;subst e3;exact⟨rfl,h1.2,h2.2,h3.2⟩
theorem Step.ZY {M M2 N:aC} {w w':World} (s:Step M w M w' N) (hm:∀b,b<w.heap.size→(M2 b↔M b)) (hl:Lt M2 w'):Step M w M2 w' N:=
 ⟨fun _=>hl,s.os,s.tape,s.output,s.size,hm,s.same,s.sub⟩
theorem Own.ltM {α:Type} {A:RT α} {e:TypeId} {M:aC} {w:World} {base:Nat} {v:Value} {xs:List α} (h:Own A e M w base v xs):xs.length≤9223372036854775807:=by
 obtain⟨⟨C,hr,_⟩,_⟩:=h;rcases hr.2 with⟨_,h2⟩|⟨g,cap,cur,h1,h2,h3,h4,h5,_⟩
 ·omega
 ·unfold maxLen at h5;omega
theorem Own.BS {α:Type} {A:RT α} {e:TypeId} {M:aC} {w:World} {base:Nat} {v:Value} {xs:List α} (h:Own A e M w base v xs) (hl:0<xs.length):v≠ .slice none 0 0:=fun e=>by
 obtain⟨a,cap,h1,_⟩:=h.isSlice;rw[e]at h1;simp only[fV]at h1;omega
theorem Own.apart {α:Type} {A:RT α} {e Th:TypeId} {M:aC} {w:World} {base bh:Nat} {v:Value} {xs:List α} {cs:Array Value} {fr:Nat×Nat} (h:Own A e M w base v xs) (hb:w.heap[bh]? =some (.cells cs Th fr)) (ne:Th≠e):∀k,v.ownBlock=some k→k≠bh:=fun k hk he=>by
 obtain⟨⟨C,hr,_⟩,_⟩:=h;rcases hr.2 with⟨h1,_⟩|⟨g,cap,cur,h1,h2,h3,_⟩
 ·rw[h1]at hk;cases hk
 ·rw[h1]at hk;cases hk;have he:g=bh:=he;rw[he]at h3;have:=hb.symm.trans h3;simp only[dK,Obj.cells.injEq]at this;exact ne this.2.1
structure rf (Th Te:TypeId) (M:aC) (w:World) (bh base:Nat) (v:Value) (hs:List Hd):Prop where
 h:w.heap[bh]? =some (.cells #[v] Th (0,0))
 mh:M bh
 o:Own RT.hd Te M w base v hs
 nn:v≠ .slice none 0 0
 ne:Th≠Te
section
variable {Th Te:TypeId} {M M' N:aC} {w w':World} {bh base:Nat} {v v':Value} {hs pF:List Hd}
theorem rf.apart (h:rf Th Te M w bh base v hs):∀k,v.ownBlock=some k→k≠bh:=h.o.apart h.h h.ne
theorem rf.aM (h:rf Th Te M w bh base v hs) (s:Step M w M' w' aD):rf Th Te M' w' bh base v hs:=⟨s.aK h.h,(s.mem bh (ak h.h)).2 h.mh,h.o.aM s,h.nn,h.ne⟩
theorem rf.wrote (h:rf Th Te M w bh base v hs) (s:Step M w M w' (fC v)) (ho:Own RT.hd Te M w' base v pF):rf Th Te M w' bh base v pF:=
 ⟨s.keep h.h (fun hk=>h.apart bh hk rfl),h.mh,ho,h.nn,h.ne⟩
theorem Own.val {α:Type} {A:RT α} {e:TypeId} {base:Nat} {xs:List α} (h:Own A e M w base v xs) {j:Nat} {x:α} (hx:xs[j]? =some x):∃u,A.V M w x u:=by
 obtain⟨⟨C,hr,ha⟩,_⟩:=h;obtain⟨vs,hv,_⟩:=ha.at_ j x hx;exact⟨_,vs,hv,rfl⟩
theorem rf.view {hn:0<RT.hd.n} (h:rf Th Te M w bh base v hs) (hl:hs.length≤140737488355328):(RT.hd.sl hn).V (fun k=>M k∧¬v.ownBlock=some k) w hs v:=
 h.o.sl (fun b _ hm=>⟨fun h=>hm h.1,rfl⟩) (fun b hb h=>h.2 hb) hl
end
def BT (w:World) (k:Nat) (T:TypeId):Prop:=∃cs fr,w.heap[k]? =some (.cells cs T fr)
theorem BT.ne {w:World} {a b:Nat} {Ta Tb:TypeId} (ha:BT w a Ta) (hb:BT w b Tb) (h:Ta≠Tb):a≠b:=fun e=>by
 subst e;obtain⟨cs,fr,h1⟩:=ha;obtain⟨EU,fr',h2⟩:=hb;have:=h1.symm.trans h2;simp only[dK,Obj.cells.injEq]at this;exact h this.2.1
theorem Own.bt {α:Type} {A:RT α} {e:TypeId} {M:aC} {w:World} {base:Nat} {v:Value} {xs:List α} (h:Own A e M w base v xs):∀k,v.ownBlock=some k→BT w k e:=fun k hk=>by
 obtain⟨⟨C,hr,_⟩,_⟩:=h;rcases hr.2 with⟨h1,_⟩|⟨g,cap,cur,h1,h2,h3,_⟩
 ·rw[h1]at hk;cases hk
 ·rw[h1]at hk;cases hk;exact⟨_,_,h3⟩
def NB (Te:TypeId) (M:aC) (w:World) (bh base:Nat):aC:=fun k=>M k∧(k=bh∨(base≤k∧BT w k Te))
theorem NB.not {Te T:TypeId} {M:aC} {w:World} {bh base k:Nat} (hk:BT w k T) (eN:T≠Te) (hb:k≠bh): ¬NB Te M w bh base k:=fun h=>h.2.elim hb fun h2=>hk.ne h2.2 eN rfl
section
variable {Th Te:TypeId} {M M1 M2 M' N:aC} {w w0 w1 w2 w':World} {bh base:Nat} {v:Value} {hs:List Hd}
theorem Step.nb (s1:Step M w0 M1 w1 (NB Te M w0 bh base)) (s2:Step M1 w1 M2 w2 (NB Te M1 w1 bh base)):Step M w0 M2 w2 (NB Te M w0 bh base):=
 s1.trans s2 fun b hb h=>by
  by_cases hn:NB Te M w0 bh base b
  ·exact hn
  ·refine⟨(s1.mem b hb).1 h.1,h.2.imp id fun⟨L0,cs,fr,hc⟩=>⟨L0,cs,fr,?_⟩⟩;rw[←s1.same b hb hn];exact hc
theorem Step.R7 (s:Step M w M' w' (fC v)) (h:rf Th Te M w bh base v hs):Step M w M' w' (NB Te M w bh base):=s.cF (fun b hb=>⟨h.o.mut_ b hb,.inr ⟨(h.o.base b hb).1,h.o.bt b hb⟩⟩) (fun _ h=>h.1)
theorem Step.nb0 (s:Step M w M' w' aD):Step M w M' w' (NB Te M w bh base):=s.cF (fun _ h=>h.elim) (fun _ h=>h.1)
theorem rf.keep (h:rf Th Te M w bh base v hs) (s:Step M w M' w' N) (hb: ¬N bh) (hv:∀k,v.ownBlock=some k→¬N k):rf Th Te M' w' bh base v hs:=
 ⟨s.keep h.h hb,(s.mem bh (ak h.h)).2 h.mh,h.o.step s hv,h.nn,h.ne⟩
end
section
variable {P:Program} {r:Option Nat} {n:Nat} {L:Sl} {ds:List Deferred} {w:World} {K:Kt} {ops:Array Oper} {rest:List Oper} {d:Nat} {ty:TypeId} {pos:String} {af:Array Edge} {x y:Operand}
theorem Rg.par {t t':TypeId} {j:Nat} (hx:ev L x=some (.int .i64 ((j:Int)-1))) (hy:ev L y=some (.int .i64 2)) (hd:Nat.blt d n=true) (hj:j≤9223372036854775807)
  (k:Rg P r n ops rest ((d,.int .i64 (((j-1)/2:Nat):Int))::L) ds w K):
  Rg P r n ops ({dst:=some d,op:= .binOp .quo t x y t',type:=ty,pos,after:=af,guard:=none}::rest) L ds w K:=by
 cases j with
 |zero=>exact .bin hx hy hd (by simp[binOp,Op.intDiv];try rfl) k
 |succ j=>
  refine Rg.wR hx hy hd (by omega) ?_;rw[show(((j+1:Nat):Int)-1)/2=(((j+1-1)/2:Nat):Int)from by omega];exact k
end
theorem R8 {xs:List Hd} {i:Nat} {a b c:Int} (h:xs[i]? =some (a,b,c)):hn xs i=a:=by unfold hn;rw[aA,h];rfl
theorem HW {xs:List Hd} {i j:Nat} {x y:Hd} (hx:xs[i]? =some x) (hy:xs[j]? =some y):swp xs i j=(xs.set i y).set j x:=by
 unfold swp;rw[aA,aA,hx,hy];rfl
theorem Jt {xs:List Hd} {i j:Nat} {x y:Hd} (hx:xs[i]? =some x) (hy:xs[j]? =some y):(swp xs i j).set j x=swp xs i j:=by
 rw[HW hx hy,List.set_set]
end Go.K
namespace Go.K
open Go.Proofs
namespace TKMul
theorem ag8:Enters Tryz.prog 215:=enters Tryz.func215 rfl (by decide)
end TKMul
open TKMul
set_option maxRecDepth 10000
theorem GD {n:Nat} (h:n≤1073741824):IntKind.u64.wrap ((BitVec.ofInt IntKind.u64.bits (n:Int)&&&BitVec.ofInt IntKind.u64.bits 4294967295).toNat:Int)=(n:Int):=by
 have e:(BitVec.ofInt IntKind.u64.bits (n:Int)&&&BitVec.ofInt IntKind.u64.bits 4294967295).toNat=n:=by
  rw[BitVec.toNat_and,pW,pW];have h1:((4294967295:Int)%((2^IntKind.u64.bits:Nat):Int)).toNat=2^32-1:=by decide
  have h2:((n:Int)%((2^IntKind.u64.bits:Nat):Int)).toNat=n:=by
   change((n:Int)%((18446744073709551616:Nat):Int)).toNat=n;omega
  rw[h1,h2,Nat.and_two_pow_sub_one_eq_mod];omega
 rw[e];exact gv _ (by omega)
theorem Ee {n:Nat} (h:n≤1073741824):(n:Int).fdiv (2^min (Int.toNat 32) IntKind.u64.bits)=0:=by
 show((n:Int)).fdiv 4294967296=0;rw[Int.fdiv_eq_ediv_of_nonneg _ (by decide)];omega
theorem Ju {w0:World} {n:Nat} (hn:n≤1073741824):
  Spec Tryz.prog 215 #[.int .u64 1,.int .u64 n] w0 (fun v' w'=>v'= .tuple #[.int .u64 0,.int .u64 n]∧w0=w'):=by
 refine bg (args:=[_,_]) (fn:=Tryz.f215) Tryz.func215 rfl (n:=51) Tryz.ntmps215 (aj (ae (ah rfl rfl (ah rfl rfl (ab (aj (ae (ad rfl rfl (Rg.and rfl rfl rfl (aU (v':= .int .u64 (1)) (congrArg _ (by first|decide|exact GD (by omega))) (ah rfl rfl ?_)))))))))));refine ab (aj (ae (ad rfl rfl (Rg.shr rfl rfl rfl (by omega) (aU (v':= .int .u64 (0:Int)) (congrArg _ (by first|decide|exact Ee (by omega))) (ah rfl rfl (ab (aj (ae (ad rfl rfl (Rg.and rfl rfl rfl ?_)))))))))));refine aU (v':= .int .u64 ((n:Int))) (congrArg _ (by first|decide|exact GD (by omega))) (ah rfl rfl (ab (aj (ae (ad rfl rfl (Rg.shr rfl rfl rfl (by omega) (aU (v':= .int .u64 (0:Int)) (congrArg _ (by first|decide|exact Ee (by omega))) (ah rfl rfl (ab (aj (ae ?_)))))))))));refine ad rfl rfl (ad rfl rfl (Rg.Ik rfl rfl rfl (aU (v':= .int .u64 ((n:Int))) (congrArg _ (by rw[gv _ (by omega)];omega)) (ah rfl rfl (ab (aj (ae (ad rfl rfl (ad rfl rfl (Rg.Ik rfl rfl rfl (aU (v':= .int .u64 (0)) (congrArg _ (by rw[gv _ (by omega)];omega)) ?_)))))))))));refine ad rfl rfl (Rg.shr rfl rfl rfl (by omega) (aU (v':= .int .u64 (0:Int)) (congrArg _ (by first|decide|exact Ee (by omega))) (Rg.wO rfl rfl rfl (aU (v':= .int .u64 (0)) (congrArg _ (by rw[gv _ (by omega)];omega)) (ah rfl rfl (ab (aj (ae (ad rfl rfl (Rg.and rfl rfl rfl (aU (v':= .int .u64 (0)) (congrArg _ (by first|decide|exact GD (by omega))) ?_)))))))))));refine ah rfl rfl (ab (aj (ae (ad rfl rfl (Rg.shr rfl rfl rfl (by omega) (aU (v':= .int .u64 (0:Int)) (congrArg _ (by first|decide|exact Ee (by omega))) (ah rfl rfl (ab (aj (ae (ad rfl rfl ?_)))))))))));refine ad rfl rfl (ad rfl rfl (Rg.Ik rfl rfl rfl (aU (v':= .int .u64 (0)) (congrArg _ (by rw[gv _ (by omega)];omega)) (Rg.wO rfl rfl rfl (aU (v':= .int .u64 (0)) (congrArg _ (by rw[gv _ (by omega)];omega)) (ah rfl rfl (ab (aj (ae (ad rfl rfl (ad rfl rfl ?_)))))))))))
 refine Rg.Ik rfl rfl rfl (aU (v':= .int .u64 (0)) (congrArg _ (by rw[gv _ (by omega)];omega)) (ad rfl rfl (Rg.wO rfl rfl rfl (aU (v':= .int .u64 (0)) (congrArg _ (by rw[gv _ (by omega)];omega)) (ad rfl rfl (Rg.shr rfl rfl rfl (by omega) (aU (v':= .int .u64 (0:Int)) (congrArg _ (by first|decide|exact Ee (by omega))) (Rg.wO rfl rfl rfl (aU (v':= .int .u64 (0)) (congrArg _ (by rw[gv _ (by omega)];omega)) (ah rfl rfl (ab ?_)))))))))));refine aj (ae (ad rfl rfl (ad rfl rfl (Rg.Ik rfl rfl rfl (aU (v':= .int .u64 ((n:Int))) (congrArg _ (by rw[gv _ (by omega)];omega)) (ah rfl rfl (ab (aQ ?_))))))));exact eS rfl rfl rfl ⟨rfl,rfl⟩
theorem Qn {w0:World} {n:Nat} (hn:n≤1073741824):
  Spec Tryz.prog 161 #[.int .u64 1,.int .u64 n] w0 (fun v' w'=>v'= .tuple #[.int .u64 0,.int .u64 n]∧w0=w'):=by
 refine bg (args:=[_,_]) (fn:=Tryz.f161) Tryz.func161 rfl (n:=30) Tryz.ntmps161 (aj (ae (ah rfl rfl (ah rfl rfl (ab (aj (iX rfl (aT (aj (ae (ad rfl rfl ?_)))))))))));refine ad rfl rfl ?_;refine aW rfl rfl ag8 (Ju hn) (fun r wc h=>?_);obtain⟨rfl,rfl⟩:=h;refine ad rfl rfl (bV rfl rfl rfl (bV rfl rfl rfl (ah rfl rfl (ah rfl rfl (ab (aj (ae (ad rfl rfl (ad rfl rfl (ah rfl rfl (ah rfl rfl ?_)))))))))));refine ab (aQ ?_);exact eS rfl rfl rfl ⟨rfl,rfl⟩
end Go.K
namespace Go.K
open Go.Proofs
namespace TKRep11
theorem ag9:Enters Tryz.prog 161:=enters Tryz.func161 rfl (by decide)
end TKRep11
open TKRep11
set_option maxRecDepth 10000
theorem Ef (b o i:Nat):(⟨b,o,none⟩:Addr).add i=⟨b,o+i,none⟩:=by simp[Addr.add]
def filled (n k:Nat) (x:Int):List Int:=List.replicate k x++List.replicate (n-k) 0
theorem yU {n k:Nat} {x:Int} (h:k≤n):(filled n k x).length=n:=by unfold filled;simp;omega
theorem GF (n:Nat) (x:Int):filled n n x=List.replicate n x:=by unfold filled;simp
theorem GG {n k j:Nat} {x:Int} (h:j<k):(filled n k x)[j]? =some x:=by unfold filled;rw[iv (by simpa using h)];simp[h]
theorem wz {n k m:Nat} {x:Int} (h:k+m≤n):(filled n k x).take k++List.replicate m x++(filled n k x).drop (k+m)=filled n (k+m) x:=by
 unfold filled;rw[List.take_append_of_le_length (by simp),bc (by simp),List.replicate_append_replicate,List.drop_append,gV (by simp),fM,List.drop_replicate,ck];congr 2;omega
theorem Own.ZZ {M:aC} {w:World} {e:TypeId} {base g n:Nat} (h:w.heap[g]? =some (.cells (List.replicate n (.int .i64 0)).toArray e (0,0))) (hb:base≤g) (hm:M g) (hn:n≤1099511627776):Own (RT.int .i64) e M w base (.slice (some ⟨g,0,none⟩) n n) (List.replicate n 0):=by
 refine⟨⟨List.replicate n (.int .i64 0),⟨by simp[RT.int],.inr ⟨g,n,_,by simp,hb,h,by simp,by unfold maxLen;simp;omega,by simp[RT.int],by simp[RT.int]⟩⟩,?_⟩,fun b hb=>by cases hb;exact hm⟩;have:=dZ.Bh (M:=M) (w:=w) (κ:= .i64) (xs:=List.replicate n 0) (fun x hx=>by rw[pI hx];decide);simpa using this
theorem Eg {M:aC} {w0:World} {v:Value} {x:Int} {n:Nat} (hM:Lt M w0) (hv:((RT.int .i64).sl).V M w0 [x] v) (hn:n≤1073741824):
  Spec Tryz.prog 112 #[v,.int .i64 n] w0 (fun v' w'=>∃M',Own (RT.int .i64) 3 M' w' w0.heap.size v' (List.replicate n x)∧Lt M' w'∧Step M w0 M' w' aD):=by
 have hxr:=A3 hv (i:=0) rfl;obtain⟨av,aqP,rfl,hcv,_,QZ⟩:=iz.1 hv;obtain⟨bv,ov,rfl,hbv,hav⟩:=QZ.resolve_left (by simp);obtain⟨vs0,⟨aha,_⟩,hrx⟩:=hav 0 x rfl;subst aha;have hcx:w0.cell? ⟨bv,ov,none⟩=some (.int .i64 x):=by simpa using hrx 0 _ rfl
 refine bg (args:=[_,_]) (fn:=Tryz.f112) Tryz.func112 rfl (n:=48) Tryz.ntmps112 (aj (ae (ah rfl rfl (ab (aj (aj (ae (ad rfl rfl (cn rfl rfl rfl (ab (T.wM rfl (by omega) ?_)))))))))));refine aT (aj (ae (ad rfl rfl (Rg.oM an rfl rfl (rO ax jL rfl rfl (aU (v':= .int .u64 1) (congrArg _ (by simp only[dm];decide)) (ad rfl rfl (rO ax jL rfl rfl (aU (v':= .int .u64 (n:Int)) (congrArg _ (gv _ (by omega))) ?_)))))))));refine aW rfl rfl ag9 (Qn hn) (fun r wc h=>?_);obtain⟨rfl,rfl⟩:=h;refine ad rfl rfl (bV rfl rfl rfl (bV rfl rfl rfl (ah rfl rfl (ah rfl rfl (ab (aj (aj (ae (ad rfl rfl (jv rfl rfl rfl (ad rfl rfl ?_)))))))))));refine Rg.E4 (g:=23) rfl (by omega) (al rfl rfl (ad rfl rfl (al rfl rfl (jv rfl rfl rfl (aE rfl rfl rfl (ab (T.wM rfl (by omega) (aT (aj (ae (ad rfl rfl ?_)))))))))));refine Rg.uE jL ax rfl rfl (by omega) ?_;refine Rg.mk0 (len:=n) M an I3 rfl rfl rfl rfl (by omega) (by omega) (fun g wg zg zg' gg sg=>?_);have ho:Own (RT.int .i64) 3 (ins M g) wg w0.heap.size (.slice (some ⟨g,0,none⟩) n n) (filled n 0 x):=by unfold filled;simpa using Own.ZZ gg zg (.inl rfl) (by omega)
 clear gg;refine ah rfl rfl (ab (aj (ae (ad rfl rfl ?_))));obtain⟨k0,E2⟩:∃k0:Nat,k0=min 1 n:=⟨_,rfl⟩;refine ad rfl rfl ?_;refine Rg.Rc (M:=ins M g) (xs:=filled n 0 x) (ys:=List.replicate k0 x) (o:=0) an I3 rfl rfl rfl ho (by simp;omega) (by rw[yU (by omega),ck];omega) (fun j a hj=>?_) (fun a ha=>by rw[pI ha];exact hxr) (fun w7 mU s7=>?_)
 ·have xI:=(ao.1 hj).1;rw[ck]at xI;have e:a=x:=by rw[List.getElem?_replicate]at hj;split at hj<;>simp_all
  subst e;obtain rfl:j=0:=by omega
  have hc:=sg.same bv (World.block_lt_of_cell? w0 _ hcx) (fun h=>h);have:wg.cell? ⟨bv,ov,none⟩=some (.int .i64 a):=by rw[World.cell?_of_block (w:=w0) hc];exact hcx
  rw[Ef,Nat.add_zero];exact this
 rw[ck,wz (by omega),fN]at mU;refine aU (v':= .int .i64 (k0:Int)) (by rw[ck]) ?_;have S7:=sg.cf s7 (fun b hb=>by have hb:b=g:=hb;omega);refine ah rfl rfl (ab (aj (aZ ?_)));refine dn (σ:=Nat) (fun s=>[(7,.slice (some ⟨g,0,none⟩) n n),(8,.int .i64 s)]) (fun s w=>s≤n∧(0<n→0<s)∧Own (RT.int .i64) 3 (ins M g) w w0.heap.size (.slice (some ⟨g,0,none⟩) n n) (filled n s x)∧Step M w0 (ins M g) w aD) (fun s=>n-s) k0 (.cons rfl (.cons rfl .nil)) ?_ ?_
 ·exact⟨by omega,by omega,mU,S7⟩
 ·rintro k w1 ⟨hk,aqU,ho,S⟩;refine aj (aj (ae (ad rfl rfl (ad rfl rfl (Rg.oM an rfl rfl (cn rfl rfl rfl (ab ?_)))))));refine bN rfl (fun c8=>?_) (fun c8=>?_)
  ·refine aT (aZ ?_);apply T.pq 7 [0] 1 (fun b=>b=g) mixed rfl rfl rfl rfl;intro U4 sA9;have MT:=sA9 (ins M g);refine ad rfl rfl ?_;refine ab ⟨rfl,rfl,rfl,?_⟩;refine ad rfl rfl ?_;refine ab ⟨rfl,rfl,rfl,?_⟩;refine ad rfl rfl ?_;refine ab ⟨rfl,rfl,rfl,?_⟩;refine Rg.KH an I3 rfl rfl rfl (by omega) (aU (v':= .slice (some ⟨g,k,none⟩) (n-k) (n-k)) (by rw[ay,eK]) ?_);refine ab ⟨rfl,rfl,rfl,?_⟩;refine ad rfl rfl ?_;refine ab ⟨rfl,rfl,rfl,?_⟩;refine ad rfl rfl ?_;refine ab ⟨rfl,rfl,rfl,?_⟩;refine Rg.Tk an I3 rfl rfl rfl (by omega) (aU (v':= .slice (some ⟨g,0,none⟩) k n) (by rw[ay]) ?_);refine ab ⟨rfl,rfl,rfl,?_⟩;refine eQ ?_;refine⟨iH ⟨gX,trivial⟩,?_⟩;have kp:=jC (fun b=>b=g) U4;refine Rg.Rc (M:=ins M g) (xs:=filled n k x) (ys:=List.replicate (min k (n-k)) x) (o:=k) an I3 rfl rfl rfl (ho.aM MT) (by simp) (by rw[yU hk,ck];omega) (fun j a hj=>?_) (fun a ha=>by rw[pI ha];exact hxr) (fun w7 mU s7=>?_)
   ·have xI:=(ao.1 hj).1;rw[ck]at xI;have e:a=x:=by rw[List.getElem?_replicate]at hj;split at hj<;>simp_all
    subst e;have:=(ho.aM MT).cell (GG (n:=n) (show j<k by omega));rw[Ef,fN];exact this
   rw[ck,wz (by omega)]at mU;refine aU (v':= .int .i64 ((min k (n-k):Nat):Int)) (by rw[ck]) ?_;refine(fun(kp:eJ _ _ _)=>ab ⟨rfl,rfl,fun _=>kp,?_⟩) (by first|exact kp|exact kp.qV (by assumption)|exact kp.goN (by assumption)|exact kp.go (by assumption) (fun _ _ h=>by first|exact h|exact h.elim));refine bD rfl rfl rfl (by omega) ?_;refine ab ⟨rfl,rfl,fun h=>absurd rfl h,?_⟩;refine ah rfl rfl ?_;refine ab ⟨rfl,rfl,fun h=>absurd rfl h,?_⟩;refine mH ?_;refine⟨rfl,k+min k (n-k),(.cons rfl (.cons (congrArg (fun z=>some (Value.int .i64 z)) (by omega)) .nil)),?_,?_⟩
   ·exact⟨by omega,by omega,mU,(S.aB (sA9 _)).cf s7 (fun b hb=>by have hb:b=g:=hb;omega)⟩
   ·show n-(k+min k (n-k))<n-k;omega
  ·refine cI (aj (ae (ad rfl rfl (ah rfl rfl (ab (aQ ?_))))));obtain rfl:k=n:=by omega
   rw[GF]at ho;exact aV rfl rfl ⟨_,ho,S.lt hM,S⟩
end Go.K
namespace Go.K
open Go.Proofs
namespace TKPlc11
theorem kj:TI Tryz.prog 124 (.agg #[(.int .i64 0),(.int .i64 0)]) 2 16:=by unfold TI;kernel_rfl
theorem ahb:Enters Tryz.prog 112:=enters Tryz.func112 rfl (by decide)
end TKPlc11
open TKPlc11
set_option maxRecDepth 10000
def o5 (o:List Fo) (p:Fo) (r:Int):Prop:=(r= -1∧p∉o)∨∃t:Nat,r=(t:Int)∧o[t]? =some p
theorem o5.hit {o:List Fo} {p:Fo} {k:Nat} (h:o[k]? =some p):o5 (o.take (k+1)) p (k:Int):= .inr ⟨k,rfl,by rw[cp,if_pos (by omega)];exact h⟩
theorem o5.Qo {o:List Fo} {p q:Fo} {k:Nat} {r:Int} (h:o[k]? =some q) (eN:q≠p) (hr:o5 (o.take k) p r):o5 (o.take (k+1)) p r:=by
 obtain⟨hk,hq⟩:=ao.1 h;rw[gU hk,hq];rcases hr with⟨h1,h2⟩|⟨t,h1,h2⟩
 ·exact .inl ⟨h1,fun hm=>by rcases cq.1 hm with hm|hm;exact h2 hm;rw[bH]at hm;exact eN hm.symm⟩
 ·exact .inr ⟨t,h1,by rw[iv (ao.1 h2).1];exact h2⟩
theorem o5.all {o:List Fo} {p:Fo} {r:Int} (h:o5 (o.take o.length) p r):o5 o p r:=by rwa [List.take_length]at h
theorem qO {M:aC} {w:World} {a b:Int} {v:Value} (h:RT.fo.V M w (a,b) v):v= .agg #[.int .i64 a,.int .i64 b]∧lO a∧lO b:=by
 obtain⟨vs,⟨va,vb,rfl,⟨rfl,h1⟩,⟨rfl,h2⟩⟩,rfl⟩:=h;exact⟨rfl,h1,h2⟩
def Plc (o:List Fo) (i:Int) (n:Nat) (xs:List Int):Prop:=xs.length=n∧∀j,j<n→o5 o (i,(j:Int)) (xs.getD j 0)
theorem Eh {M:aC} {w0:World} {v:Value} {o:List Fo} {i:Int} {n:Nat} (hM:Lt M w0) (hv:((RT.fo).sl).V M w0 o v) (hn:n≤1073741824):
  Spec Tryz.prog 61 #[v,.int .i64 i,.int .i64 n] w0 (fun v' w'=>∃M' xs,Plc o i n xs∧Own (RT.int .i64) 3 M' w' w0.heap.size v' xs∧Lt M' w'∧Step M w0 M' w' aD):=by
 have fz:=ei hv;refine bg (args:=[_,_,_]) (fn:=Tryz.f61) Tryz.func61 rfl (n:=44) Tryz.ntmps61 (aj (ae (ah rfl rfl (ab (aj (ae ?_))))));refine eg (A:=RT.int .i64) (hn:=by decide) (M:=M) an I3 (by decide) rfl rfl hM (fI (by decide)) (.inr ⟨rfl,rfl⟩) (fun u w1 hu s1=>?_);refine ad rfl rfl (Rg.max2 rfl rfl rfl (aU (v':= .int .i64 (n:Int)) (congrArg _ (by omega)) ?_));refine aW rfl rfl ahb (Eg (s1.lt hM) hu hn) (fun rv w2 h=>?_);obtain⟨M2,sM,EZ,s2⟩:=h;have S2:=s1.aB s2;replace sM:=sM.nj s1.size;refine ah rfl rfl (ab (aj (aj (ae (ad rfl rfl (bR eP rfl (hv.le S2.le) rfl (ad rfl rfl (ab (aZ ?_)))))))));refine dn (σ:=Nat×List Int) (fun s=>[(1,.int .i64 i),(7,rv),(14,v),(15,.int .i64 o.length),(16,.int .i64 s.1)]) (fun s w=>s.1≤o.length∧Plc (o.take s.1) i n s.2∧∃M1,Lt M1 w∧Own (RT.int .i64) 3 M1 w w0.heap.size rv s.2∧Step M w0 M1 w aD) (fun s=>o.length-s.1) (0,List.replicate n (-1)) (.cons rfl (.cons rfl (.cons rfl (.cons rfl (.cons rfl .nil))))) ?_ ?_
 ·refine⟨bG _,⟨by simp,fun j hj=> .inl ⟨?_,by simp⟩⟩,M2,EZ,sM,S2⟩;simp only[aA,List.getElem?_replicate];rw[if_pos hj];rfl
 ·clear sM S2 EZ;rintro⟨k,xs⟩ w1 ⟨hk,⟨qH,sV⟩,M1,nC,ho,S⟩;dsimp only at hk qH sV ho ⊢;refine aj (ae (cn rfl rfl rfl (ab (aj ?_))));refine bN rfl (fun c3=>?_) (fun c3=>?_)
  ·refine aT (aj (aZ (aj (ae (ad rfl rfl ?_)))));obtain⟨⟨a,b⟩,hx⟩:∃x,o[k]? =some x:=⟨_,au (by omega)⟩;refine cE (M:=M1) eP kj rfl rfl rfl (hv.le S.le) (aq _ _) (by omega) (fun u4 a4 vY EX=>?_);obtain rfl:(a,b)=a4:=du (aI (vY.symm.trans (by rw[ay];exact hx)));refine dg (M:=M1) (A:=RT.fo) cx rfl kj (by decide) rfl rfl rfl EX (aq _ _) (fun v4 pT=>?_);obtain⟨rfl,ra,rb⟩:=qO pT;refine ek M1 kj rfl (fun b4 wa za za' ga sa=>?_);refine ah rfl rfl ?_;refine dY (M:=ins M1 b4) (vs:=[.int .i64 a,.int .i64 b]) kj rfl rfl (by intro u hu;simp only[cd,eF,or_false]at hu;rcases hu with rfl|rfl<;>rfl) rfl rfl ga (.inl rfl) (fun ws gs ss=>?_);have sS:=(sa.cf ss (fun b hb=>by have hb:b=b4:=hb;rw[hb];exact za)).any M1;have ho:=ho.aM sS;have S:=S.aB sS;have nC:=sS.lt nC;refine ab (aj (ae (xh (len:=2) cx I3 rfl rfl rfl (by omega) (aP ax rfl rfl rfl gs rfl (ad rfl rfl (tc rfl rfl rfl (ad rfl rfl ?_)))))));refine aN (g:=25) rfl (fun U6=>?_) (fun U6=>?_)
   ·refine al rfl rfl (xh (len:=2) cx I3 rfl rfl rfl (by omega) (al rfl rfl (aP ax rfl rfl rfl gs rfl (al rfl rfl (dT rfl rfl rfl (aX rfl rfl rfl (ad rfl rfl ?_)))))));refine aN (g:=30) rfl (fun U7=>?_) (fun U7=>?_)
    ·refine al rfl rfl (xh (len:=2) cx I3 rfl rfl rfl (by omega) (al rfl rfl (aP ax rfl rfl rfl gs rfl (al rfl rfl (ad rfl rfl (al rfl rfl (fO an rfl ho rfl (al rfl rfl (cn rfl rfl rfl (aX rfl rfl rfl (ab ?_)))))))))));refine bN rfl (fun c5=>?_) (fun c5=>?_)
     ·obtain⟨g,cap,cur,rfl,SK,Qp,Ei⟩:=ho.uM (ho.BS (by omega));refine ae (ad rfl rfl (xh (len:=2) cx I3 rfl rfl rfl (by omega) (aP ax rfl rfl rfl gs rfl (ad rfl rfl (vM (size:=1) an I3 rfl rfl rfl (by omega) (q:=b.toNat) (by omega) ?_)))));refine Rg.KI (M:=M1) I3 rfl rfl ho (by omega) ⟨by show(-9223372036854775808:Int)≤_;omega,by show _≤(9223372036854775807:Int);omega⟩ (fun w6 tJ s6=>?_);refine ab (ae (bD rfl rfl rfl (by omega) (ad rfl rfl (ab ?_))));refine⟨rfl,(k+1,xs.set b.toNat (k:Int)),(.cons rfl (.cons rfl (.cons rfl (.cons rfl (.cons rfl .nil))))),?_,?_⟩
      ·refine⟨by simp only;omega,⟨by simp only[fm];exact qH,fun j hj=>?_⟩,M1,s6.lt nC,tJ,S.cf s6 (fun b hb=>by have hb:b=g:=hb;omega)⟩;simp only[aA,dr];by_cases e:b.toNat=j
       ·rw[if_pos e,if_pos (by omega)];exact .hit (by rw[hx];congr 2<;>omega)
       ·rw[if_neg e,←aA];exact .Qo hx (fun h=>by simp only[ef]at h;omega) (sV j hj)
      ·show o.length-(k+1)<o.length-k;omega
     ·refine aT (ae (bD rfl rfl rfl (by omega) (ad rfl rfl (ab ?_))));refine⟨rfl,(k+1,xs),(.cons rfl (.cons rfl (.cons rfl (.cons rfl (.cons rfl .nil))))),?_,?_⟩
      ·refine⟨by simp only;omega,⟨qH,fun j hj=> .Qo hx (fun h=>?_) (sV j hj)⟩,M1,nC,ho,S⟩;simp only[ef]at h
       first|omega|(simp_all;done)|(simp_all;omega)
      ·show o.length-(k+1)<o.length-k;omega
    ·refine ar rfl rfl rfl rfl (ar rfl rfl rfl rfl (ar rfl rfl rfl rfl (ar rfl rfl rfl rfl (ar rfl rfl rfl rfl (aE rfl rfl rfl (ab (iX rfl (aT (ae (bD rfl rfl rfl (by omega) (ad rfl rfl ?_)))))))))));refine ab ?_;refine⟨rfl,(k+1,xs),(.cons rfl (.cons rfl (.cons rfl (.cons rfl (.cons rfl .nil))))),?_,?_⟩
     ·refine⟨by simp only;omega,⟨qH,fun j hj=> .Qo hx (fun h=>?_) (sV j hj)⟩,M1,nC,ho,S⟩;simp only[ef]at h
      first|omega|(simp_all;done)|(simp_all;omega)
     ·show o.length-(k+1)<o.length-k;omega
   ·refine ar rfl rfl rfl rfl (ar rfl rfl rfl rfl (ar rfl rfl rfl rfl (aE rfl rfl rfl (ad rfl rfl (ar rfl rfl rfl rfl (ar rfl rfl rfl rfl (ar rfl rfl rfl rfl (ar rfl rfl rfl rfl (ar rfl rfl rfl rfl (aE rfl rfl rfl (ab ?_)))))))))));refine iX rfl (aT (ae (bD rfl rfl rfl (by omega) (ad rfl rfl (ab ?_)))));refine⟨rfl,(k+1,xs),(.cons rfl (.cons rfl (.cons rfl (.cons rfl (.cons rfl .nil))))),?_,?_⟩
    ·refine⟨by simp only;omega,⟨qH,fun j hj=> .Qo hx (fun h=>?_) (sV j hj)⟩,M1,nC,ho,S⟩;simp only[ef]at h
     first|omega|(simp_all;done)|(simp_all;omega)
    ·show o.length-(k+1)<o.length-k;omega
  ·refine cI (aj (ae (ad rfl rfl (ah rfl rfl (ab (aQ ?_))))));obtain rfl:k=o.length:=by omega
   exact aV rfl rfl ⟨M1,xs,⟨qH,fun j hj=>(sV j hj).all⟩,ho,nC,S⟩
end Go.K
namespace Go.K
open Go.Proofs
set_option maxRecDepth 10000
theorem NG:Up [[1,4],[2]]:=by intro l hl;simp only[cd,eF,or_false]at hl;rcases hl with rfl|rfl<;>decide
theorem Jv:re [[1,4],[2]] (some [((1:Int),(0:Int),(0:Int)),(2,1,0),(4,0,1)]):=by
 refine⟨by decide,fun o ho=>?_,fun i k n ⟨l,h1,h2⟩=>?_⟩
 ·simp only[cd,eF,or_false]at ho;rcases ho with rfl|rfl|rfl
  ·exact⟨0,0,rfl,_,rfl,rfl⟩
  ·exact⟨1,0,rfl,_,rfl,rfl⟩
  ·exact⟨0,1,rfl,_,rfl,rfl⟩
 ·rcases i with _|_|i
  ·simp only[qG,dK]at h1;subst h1;rcases k with _|_|k
   ·simp at h2;subst h2;decide
   ·simp at h2;subst h2;decide
   ·simp at h2
  ·simp only[fN,List.getElem?_cons_succ,qG,dK]at h1;subst h1;rcases k with _|k
   ·simp at h2;subst h2;decide
   ·simp at h2
  ·simp at h1
end Go.K
namespace Go.K
open Go.Proofs
set_option maxRecDepth 10000
abbrev Gs:Type:=List (List En×List Bool)
def lE (g:Gs) (i d:Nat) (e:En):Prop:=∃L a,g[i]? =some (L,a)∧L[d]? =some e∧a[d]? =some true
theorem lE.un {g:Gs} {i d:Nat} {e e':En} (h:lE g i d e) (h':lE g i d e'):e=e':=by
 obtain⟨L,a,h1,h2,_⟩:=h;obtain⟨L',a',h3,h4,_⟩:=h';rw[h1]at h3;cases h3;rw[h2]at h4;exact aI h4
def sN (L:List En) (d:Int):Int:=(L.map (·.2)).getD d.toNat 0
def iU (g:Gs):List (List Int):=g.map fun p=>gr p.2
def km (g:Gs):List (List Int):=g.map fun p=>(gr p.2).map (sN p.1)
def kn (g:Gs) (o:List Fo):List Fo:=o.map fun p=>(p.1,((iU g).getD p.1.toNat []).getD p.2.toNat 0)
def iQ (g:Gs) (p:Fo):En:=(g.getD p.1.toNat ([],[])).1.getD p.2.toNat (((0:Int),[]),0)
def HX (g:Gs):Prop:=∀p∈g,sJ (-1) p.1=true∧p.2.length=p.1.length
theorem kR {l:List Bool} {d:Int}:d∈gr l↔∃k:Nat,d=k∧l[k]? =some true:=by
 unfold gr;rw[ca];constructor
 ·rintro⟨⟨b,k⟩,h,rfl⟩;obtain⟨h1,h2⟩:=fQ.1 h;simp only at h2;subst h2;exact⟨k,rfl,List.mem_zipIdx_iff_getElem?.1 h1⟩
 ·rintro⟨k,rfl,h⟩;exact⟨(true,k),fQ.2 ⟨List.mem_zipIdx_iff_getElem?.2 h,rfl⟩,rfl⟩
theorem tU (l:List Bool):(gr l).Pairwise (· < ·):=by
 unfold gr;refine cA.2 (uv zq ?_);have h:=List.pairwise_lt_range' (s:=0) (n:=l.length);rw[←List.zipIdx_map_snd 0 l]at h;exact(cA.1 h).imp fun h=>by omega
structure Mg (g:Gs) (os:List Fo) (E:List En):Prop where
 at_:∀(k:Nat) (p:Fo),os[k]? =some p→∃(i d:Nat) (e:En),p=((i:Int),(d:Int))∧E[k]? =some e∧lE g i d e
 len:E.length=os.length
 all:∀(i d:Nat) (e:En),lE g i d e→((i:Int),(d:Int))∈os
 up:E.Pairwise fun a b=>a.2<b.2
 nd:os.Nodup
theorem xp {g:Gs} (hg:HX g) {i k:Nat} {n:Int} (h:Tr (km g) i k n):∃(d:Nat) (e:En),lE g i d e∧((iU g).getD i []).getD k 0=(d:Int)∧n=e.2∧iQ g ((i:Int),(d:Int))=e∧((iU g).getD i [])[k]? =some (d:Int):=by
 obtain⟨l,h1,h2⟩:=h;unfold km at h1;rw[bm]at h1
 cases hi:g[i]? with
 |none=>rw[hi]at h1;simp at h1
 |some p=>
  rw[hi]at h1;obtain rfl:List.map (sN p.1) (gr p.2)=l:=by simpa using h1
  rw[bm]at h2
  cases hk:(gr p.2)[k]? with
  |none=>rw[hk]at h2;simp at h2
  |some d=>
   rw[hk]at h2;obtain rfl:sN p.1 d=n:=by simpa using h2
   obtain⟨m,rfl,hm⟩:=kR.1 (az hk);obtain⟨h3,h4⟩:=hg p (az hi);have pZ:m<p.1.length:=by rw[←h4];exact(ao.1 hm).1
   have Qq:(iU g).getD i []=gr p.2:=by unfold iU;rw[aA,bm,hi];rfl
   refine⟨m,p.1[m],⟨p.1,p.2,hi,au pZ,hm⟩,?_,?_,?_,by rw[Qq];exact hk⟩
   ·rw[Qq,aA,hk];rfl
   ·unfold sN;rw[ay,aA,bm,au pZ];rfl
   ·have oR:g.getD i ([],[])=p:=by rw[aA,hi];rfl
    show(g.getD (i:Int).toNat ([],[])).1.getD (m:Int).toNat _=_;rw[ay,ay,oR,aA,au pZ];rfl
theorem Z0 {g:Gs} (hg:HX g) {out:List Hd} (h:re (km g) (some out)):Mg g (kn g (dW out)) ((kn g (dW out)).map (iQ g)):=by
 obtain⟨h1,h2,h3⟩:=h
 have key:∀(k:Nat) (o:Hd),out[k]? =some o→∃(i d:Nat) (e:En) (q:Nat),o=(e.2,(i:Int),(q:Int))∧(kn g (dW out))[k]? =some ((i:Int),(d:Int))∧lE g i d e∧iQ g ((i:Int),(d:Int))=e∧((iU g).getD i [])[q]? =some (d:Int):=fun k o ho=>by
  obtain⟨i,q,e1,e2⟩:=h2 o (az ho);obtain⟨d,e,a1,a2,a3,a4,a5⟩:=xp hg e2;refine⟨i,d,e,q,by rw[e1,a3],?_,a1,a4,a5⟩;unfold kn dW;rw[bm,bm,ho,e1];show some (((i:Int),((iU g).getD (i:Int).toNat []).getD (q:Int).toNat 0))=_;rw[ay,ay,a2]
 have hlen:(kn g (dW out)).length=out.length:=by unfold kn dW;rw[aH,aH]
 have get:∀(k:Nat) (p:Fo),(kn g (dW out))[k]? =some p→∃o,out[k]? =some o:=fun k p hp=>⟨_,au (by rw[←hlen];exact(ao.1 hp).1)⟩
 have Z1:((kn g (dW out)).map (iQ g)).Pairwise fun a b=>a.2<b.2:=by
  rw[cD];intro a b ha hb W3;have la:a<out.length:=by rw[aH,hlen]at ha;exact ha
  have lb:b<out.length:=by rw[aH,hlen]at hb;exact hb
  obtain⟨i,d,e,q,o1,o2,o3,o4,_⟩:=key a _ (au la);obtain⟨i',d',e',q',p1,p2,p3,p4,_⟩:=key b _ (au lb);have dQ:=(cD.1 h1) a b la lb W3;rw[o1,p1]at dQ;have f1:((kn g (dW out)).map (iQ g))[a]? =some e:=by rw[bm,o2,db,o4]
  have f2:((kn g (dW out)).map (iQ g))[b]? =some e':=by rw[bm,p2,db,p4]
  rw[(ao.1 f1).2,(ao.1 f2).2];exact dQ
 refine⟨fun k p hp=>?_,by rw[aH],fun i d e hl=>?_,Z1,?_⟩
 ·obtain⟨o,ho⟩:=get k p hp;obtain⟨i,d,e,q,_,a2,a3,a4,_⟩:=key k o ho;rw[hp]at a2;obtain rfl:=aI a2;exact⟨i,d,e,rfl,by rw[bm,hp,db,a4],a3⟩
 ·obtain⟨L,a,b1,b2,b3⟩:=hl;have hm:(d:Int)∈gr a:=kR.2 ⟨d,rfl,b3⟩;obtain⟨q,hq⟩:=bE.1 hm;have ht:Tr (km g) i q (sN L d):=⟨(gr a).map (sN L),by unfold km;rw[bm,b1];rfl,by rw[bm,hq];rfl⟩;have kg:=h3 i q _ ht;obtain⟨k,hk⟩:=bE.1 kg;obtain⟨i',d',e',q',c1,c2,c3,c4,c5⟩:=key k _ hk;simp only[ef]at c1;obtain rfl:i=i':=by omega
  obtain rfl:q=q':=by omega
  have Qq:(iU g).getD i []=gr a:=by unfold iU;rw[aA,bm,b1];rfl
  rw[Qq,hq]at c5;rw[aI c5];exact az c2
 ·have h5:(kn g (dW out)).Pairwise fun a b=>(iQ g a).2<(iQ g b).2:=(cA (f:=iQ g) (R:=fun(a b:En)=>a.2<b.2)).1 Z1
  exact h5.imp fun h e=>by subst e;omega
theorem Mg.un {g:Gs} {os:List Fo} {E:List En} (h:Mg g os E) {k k':Nat} {p:Fo} (h1:os[k]? =some p) (h2:os[k']? =some p):k=k':=by
 obtain⟨a1,a2⟩:=ao.1 h1;obtain⟨b1,b2⟩:=ao.1 h2;exact(List.getElem_inj (h₀:=a1) (h₁:=b1) h.nd).1 (a2.trans b2.symm)
theorem tV:∀{L:List En} {last:Int},sJ last L=true→∀e∈L,last<e.2∧lK e.1=0
 |[],_,_,e,h=>by cases h
 |x::L,last,h,e,he=>by
  simp only[sJ,bU,decide_eq_true_eq]at h
  have hx:last<x.2∧lK x.1=0:=by
   refine⟨(vh h.1).2,?_⟩;have:=h.1;unfold mM at this
   split at this
   ·rename_i h1;exact absurd this h1
   ·rename_i h1;simpa using h1
  rcases cd.1 he with rfl|he
  ·exact hx
  ·have:=tV h.2 e he;exact⟨by omega,this.2⟩
theorem GH:∀{L:List En} {last:Int},(∀e∈L,last<e.2∧lK e.1=0)→L.Pairwise (fun a b=>a.2<b.2)→sJ last L=true
 |[],_,_,_=>rfl
 |x::L,last,h,hp=>by
  obtain⟨h1,h2⟩:=h x (bK ..);have Ov:=ez.1 hp;simp only[sJ,bU,decide_eq_true_eq];refine⟨?_,GH (fun e he=>⟨Ov.1 e he,(h e (bZ _ he)).2⟩) Ov.2⟩;unfold mM;rw[if_neg (by rw[h2];simp),if_neg (by omega)]
theorem yV:∀{L:List En} {last:Int},sJ last L=true→L.Pairwise fun a b=>a.2<b.2
 |[],_,_=>List.Pairwise.nil
 |x::L,last,h=>by
  simp only[sJ,bU,decide_eq_true_eq]at h;exact ez.2 ⟨fun e he=>(tV h.2 e he).1,yV h.2⟩
theorem Mg.mem {g:Gs} {os:List Fo} {E:List En} (h:Mg g os E) {e:En}:e∈E↔∃i d,lE g i d e:=by
 constructor
 ·intro he;obtain⟨k,hk⟩:=bE.1 he;obtain⟨i,d,e',_,h2,h3⟩:=h.at_ k _ (au (by rw[←h.len];exact(ao.1 hk).1));rw[hk]at h2;cases h2;exact⟨i,d,h3⟩
 ·rintro⟨i,d,hl⟩;obtain⟨k,hk⟩:=bE.1 (h.all i d e hl);obtain⟨i',d',e',h1,h2,h3⟩:=h.at_ k _ hk;simp only[ef]at h1;obtain rfl:i=i':=by omega
  obtain rfl:d=d':=by omega
  rw[hl.un h3];exact az h2
theorem lE.ok {g:Gs} (hg:HX g) {i d:Nat} {e:En} (h:lE g i d e): -1<e.2∧lK e.1=0:=by
 obtain⟨L,a,h1,h2,_⟩:=h;exact tV (hg _ (az h1)).1 e (az h2)
theorem Mg.ok {g:Gs} (hg:HX g) {os:List Fo} {E:List En} (h:Mg g os E):sJ (-1) E=true:=
 GH (fun e he=>by obtain⟨i,d,hl⟩:=h.mem.1 he;exact hl.ok hg) h.up
theorem Qr {E E':List En} (h:E.Pairwise fun a b=>a.2<b.2) (h':E'.Pairwise fun a b=>a.2<b.2) (hm:∀e,e∈E↔e∈E'):E=E':=
 tM (fun a b h1 h2=>by omega) h h' (h.imp fun h e=>by subst e;omega) (h'.imp fun h e=>by subst e;omega) hm
theorem Qs {i:Nat} {tl:List (Fd×Nat)} {k:List UInt8} {q:Po}:q∈E1 i tl k↔∃t∈cY tl,gE t=k∧q=((i:Int),posOf tl t):=by
 unfold E1;rw[ca];constructor
 ·rintro⟨t,ht,rfl⟩;obtain⟨h1,h2⟩:=fQ.1 ht;exact⟨t,h1,by simpa using h2,rfl⟩
 ·rintro⟨t,h1,h2,rfl⟩;exact⟨t,fQ.2 ⟨h1,by simpa using h2⟩,rfl⟩
theorem HY {k:List UInt8} {q:Po}:∀{L:List En} {i:Nat},q∈Cn k i L↔∃(d:Nat) (e:En),L[d]? =some e∧q∈E1 (i+d) (pC e) k
 |[],i=>by simp[Cn]
 |x::L,i=>by
  simp only[Cn,cq,HY (L:=L)];constructor
  ·rintro(h|⟨d,e,h1,h2⟩)
   ·exact⟨0,x,rfl,h⟩
   ·exact⟨d+1,e,by simpa using h1,by rw[show i+(d+1)=i+1+d from by omega];exact h2⟩
  ·rintro⟨d,e,h1,h2⟩
   cases d with
   |zero=>simp at h1;subst h1;exact .inl h2
   |succ d=>exact .inr ⟨d,e,by simpa using h1,by rw[show i+1+d=i+(d+1)from by omega];exact h2⟩
theorem yW {L:List En} {k:List UInt8} {q:Po}:q∈pk L k↔∃(d:Nat) (e:En),L[d]? =some e∧∃t∈cY (pC e),gE t=k∧q=((d:Int),posOf (pC e) t):=by
 unfold pk;rw[HY];simp only[fN,Qs]
theorem Ej:∀{l:List Po} {last:Int},fJ last l=true→l.Pairwise (fun a b=>a.1<b.1)∧∀p∈l,last<p.1
 |[],_,_=>⟨List.Pairwise.nil,fun p h=>by cases h⟩
 |(d,ps)::l,last,h=>by
  simp only[fJ,bU,decide_eq_true_eq]at h;obtain⟨⟨⟨⟨h1,h2⟩,h3⟩,h4⟩,h5⟩:=h;obtain⟨h6,h7⟩:=Ej h5;refine⟨ez.2 ⟨h7,h6⟩,fun p hp=>?_⟩;rcases cd.1 hp with rfl|hp
  ·exact h1
  ·have:=h7 p hp;omega
theorem NH {L:List En} (h:sJ (-1) L=true) (hn:L.length≤1000000) (k:List UInt8):(pk L k).Pairwise fun a b=>a.1<b.1:=
 (Ej (tR k L 0 (-1) (kh h) (by omega) (by omega))).1
def kS (to:List Int) (l:List Po):List Po:=l.filterMap fun p=>if 0≤to.getD p.1.toNat 0 then some (to.getD p.1.toNat 0,p.2)else none
theorem yX (to:List Int) (l:List Po) (p:Po):kS to (l++[p])=if 0≤to.getD p.1.toNat 0 then kS to l++[(to.getD p.1.toNat 0,p.2)]else kS to l:=by
 unfold kS;rw[List.filterMap_append]
 split
 ·rename_i h;rw[List.filterMap_cons,if_pos h];rfl
 ·rename_i h;rw[List.filterMap_cons,if_neg h];simp
theorem sO (to:List Int) (l:List Po):(kS to l).length≤l.length:=List.length_filterMap_le _ _
def Ek (g:Gs) (os:List Fo) (tos:List (List Int)):Prop:=tos.length=g.length∧∀(i:Nat) (p:List En×List Bool),g[i]? =some p→Plc os i p.1.length (tos.getD i [])
def xb (g:Gs) (tos:List (List Int)) (k:List UInt8) (n:Nat):List Po:=(List.range n).flatMap fun i=>kS (tos.getD i []) (pk (g.getD i ([],[])).1 k)
theorem vw (g:Gs) (tos:List (List Int)) (k:List UInt8) (n:Nat):xb g tos k (n+1)=xb g tos k n++kS (tos.getD n []) (pk (g.getD n ([],[])).1 k):=by
 unfold xb;rw[List.range_succ,List.flatMap_append];simp
section
variable {g:Gs} {os:List Fo} {E:List En} {tos:List (List Int)} {k:List UInt8}
theorem yY (hm:Mg g os E) (ht:Ek g os tos) {i:Nat} (hi:i<g.length) {q:Po}:q∈kS (tos.getD i []) (pk (g.getD i ([],[])).1 k)↔∃(d n:Nat) (e:En),os[n]? =some ((i:Int),(d:Int))∧E[n]? =some e∧∃t∈cY (pC e),gE t=k∧q=((n:Int),posOf (pC e) t):=by
 have lD:g[i]? =some g[i]:=au hi;obtain⟨hl,hp⟩:=ht.2 i _ lD;have oR:g.getD i ([],[])=g[i]:=by rw[aA,lD];rfl
 rw[oR];unfold kS;rw[List.mem_filterMap];constructor
 ·rintro⟨p,h1,h2⟩;obtain⟨d,e,hd,t,RD,IQ,rfl⟩:=yW.1 h1;simp only[ay]at h2
  split at h2
  ·rename_i h3
   have h2:=aI h2;rcases hp d (ao.1 hd).1 with⟨h4,_⟩|⟨n,h4,h5⟩
   ·omega
   ·obtain⟨i',d',e',a1,a2,a3⟩:=hm.at_ n _ h5;simp only[ef]at a1;obtain rfl:i=i':=by omega
    obtain rfl:d=d':=by omega
    obtain⟨L,a,b1,b2,_⟩:=a3;rw[lD]at b1;have b1:=aI b1;rw[b1]at hd;rw[hd]at b2;obtain rfl:=aI b2;exact⟨d,n,e,h5,a2,t,RD,IQ,by rw[←h2,h4]⟩
  ·cases h2
 ·rintro⟨d,n,e,h1,h2,t,RD,IQ,rfl⟩;obtain⟨i',d',e',a1,a2,a3⟩:=hm.at_ n _ h1;simp only[ef]at a1;obtain rfl:i=i':=by omega
  obtain rfl:d=d':=by omega
  rw[h2]at a2;obtain rfl:=aI a2;obtain⟨L,a,b1,b2,_⟩:=a3;rw[lD]at b1;have b1:=aI b1;refine⟨((d:Int),posOf (pC e) t),yW.2 ⟨d,e,by rw[b1];exact b2,t,RD,IQ,rfl⟩,?_⟩;have hd:d<g[i].1.length:=by rw[b1];exact(ao.1 b2).1
  simp only[ay];rcases hp d hd with⟨h4,h5⟩|⟨n',h4,h5⟩
  ·exact absurd (az h1) h5
  ·obtain rfl:=hm.un h1 h5;rw[h4,if_pos (by omega)]
theorem NI (hg:HX g) (hn:∀p∈g,p.1.length≤1000000) (hm:Mg g os E) (ht:Ek g os tos) {i:Nat} (hi:i<g.length):(kS (tos.getD i []) (pk (g.getD i ([],[])).1 k)).Pairwise fun a b=>a.1≠b.1:=by
 have lD:g[i]? =some g[i]:=au hi;obtain⟨hl,hp⟩:=ht.2 i _ lD;have oR:g.getD i ([],[])=g[i]:=by rw[aA,lD];rfl
 rw[oR];unfold kS;have hu:=NH (hg _ (az lD)).1 (hn _ (az lD)) k;refine List.pairwise_filterMap.2 (hu.imp_of_mem fun {a b} ha hb W3 x hx y hy=>?_);obtain⟨d,e,hd,_,_,_,rfl⟩:=yW.1 ha;obtain⟨d',e',OA,_,_,_,rfl⟩:=yW.1 hb;simp only[ay]at hx hy W3
 split at hx
 ·split at hy
  ·obtain rfl:=aI hx;obtain rfl:=aI hy;simp only;rcases hp d (ao.1 hd).1 with⟨h4,_⟩|⟨n,h4,h5⟩
   ·omega
   ·rcases hp d' (ao.1 OA).1 with⟨h6,_⟩|⟨n',h6,h7⟩
    ·omega
    ·intro e;rw[h4,h6]at e;obtain rfl:n=n':=by omega
     rw[h5]at h7;have:=congrArg Prod.snd (aI h7);simp only at this;omega
  ·cases hy
 ·cases hx
theorem El (hm:Mg g os E) (ht:Ek g os tos) {n:Nat} (hn:n≤g.length) {q:Po}:q∈xb g tos k n↔∃(i d m:Nat) (e:En),i<n∧os[m]? =some ((i:Int),(d:Int))∧E[m]? =some e∧∃t∈cY (pC e),gE t=k∧q=((m:Int),posOf (pC e) t):=by
 unfold xb;rw[uB];constructor
 ·rintro⟨i,hi,h⟩;have hi:=List.mem_range.1 hi;obtain⟨d,m,e,h1,h2,h3⟩:=(yY hm ht (by omega)).1 h;exact⟨i,d,m,e,hi,h1,h2,h3⟩
 ·rintro⟨i,d,m,e,hi,h1,h2,h3⟩;exact⟨i,List.mem_range.2 hi,(yY hm ht (by omega)).2 ⟨d,m,e,h1,h2,h3⟩⟩
theorem xq (hg:HX g) (hl:∀p∈g,p.1.length≤1000000) (hm:Mg g os E) (ht:Ek g os tos):∀{n:Nat},n≤g.length→(xb g tos k n).Pairwise fun a b=>a.1≠b.1
 |0,_=>List.Pairwise.nil
 |n+1,hn=>by
  rw[vw];refine ng.2 ⟨xq hg hl hm ht (by omega),NI hg hl hm ht (by omega),fun a ha b hb e=>?_⟩;obtain⟨i,d,m,e1,hi,h1,_,_,_,_,rfl⟩:=(El hm ht (by omega)).1 ha;obtain⟨d',m',e2,h2,_,_,_,_,rfl⟩:=(yY hm ht (by omega)).1 hb;simp only at e;obtain rfl:m=m':=by omega
  rw[h1]at h2;have:=congrArg Prod.fst (aI h2);simp only at this;omega
theorem NJ (hm:Mg g os E) (ht:Ek g os tos) {q:Po}:q∈xb g tos k g.length↔q∈pk E k:=by
 rw[El hm ht (aO _),yW];constructor
 ·rintro⟨i,d,m,e,_,_,h2,h3⟩;exact⟨m,e,h2,h3⟩
 ·rintro⟨m,e,h1,h2⟩;obtain⟨i,d,e',a1,a2,L,a,a3,_⟩:=hm.at_ m _ (au (by rw[←hm.len];exact(ao.1 h1).1));exact⟨i,d,m,e,(ao.1 a3).1,by rw[←a1];exact au _,h1,h2⟩
theorem vz (hg:HX g) (hl:∀p∈g,p.1.length≤1000000) (hE:E.length≤1000000) (hm:Mg g os E) (ht:Ek g os tos):(xb g tos k g.length).Perm (pk E k):=
 (List.perm_ext_iff_of_nodup ((xq hg hl hm ht (aO _)).imp fun h e=>h (by rw[e])) ((NH (hm.ok hg) hE k).imp fun h e=>by subst e;omega)).2 fun _=>NJ hm ht
theorem Em (hg:HX g) (hl:∀p∈g,p.1.length≤1000000) (hE:E.length≤1000000) (hm:Mg g os E) (ht:Ek g os tos) {s:List Po} (hs:s.Perm (xb g tos k g.length)) (hp:s.Pairwise fun a b=>a.1≤b.1):s=pk E k:=by
 have hu:=NH (hm.ok hg) hE k;have om:=xq hg hl hm ht (k:=k) (aO _);refine List.Perm.eq_of_pairwise (le:=fun a b=>a.1≤b.1) (fun a b ha hb h1 h2=>?_) hp (hu.imp fun h=>by omega) (hs.trans (vz hg hl hE hm ht));have qS:=(hs.trans (vz hg hl hE hm ht)).mem_iff.1 ha;obtain⟨i,hi⟩:=wL.1 qS;obtain⟨j,hj⟩:=wL.1 hb;obtain⟨hi,rfl⟩:=hi;obtain⟨hj,rfl⟩:=hj;rcases fa i j with h|h|h
 ·have:=(cD.1 hu) i j hi hj h;omega
 ·subst h;rfl
 ·have:=(cD.1 hu) j i hj hi h;omega
theorem Jw (hm:Mg g os E) {J:List (List UInt8)} (hJ:DB J) (kg:∀x,x∈J↔∃p∈g,x∈keysOf p.1):J.filter (fun k=> !(pk E k).isEmpty)=keysOf E:=by
 have jB:∀x,pk E x≠[]↔x∈iL E:=fun x=>⟨fun h=>Classical.byContradiction fun hn=>h (BE 0 hn),fun h=>F6 0 h⟩
 have hu:DB (J.filter fun k=> !(pk E k).isEmpty):=uv zq hJ;refine tM (R:=fun a b=>a<b) (fun a b h1 h2=>absurd h2 (iT h1)) hu (kX E) hu.nodup (kX E).nodup fun x=> ?_
 rw[fQ,jr,←jB];constructor
 ·rintro⟨_,h⟩ e;rw[e]at h;simp at h
 ·intro h
  refine⟨(kg x).2 ?_,by cases hx:pk E x with
   |nil=>exact absurd hx h
   |cons a b=>rfl⟩
  have h2:=(jB x).1 h;unfold iL at h2;obtain⟨e,he,h3⟩:=uB.1 h2;obtain⟨i,d,L,a,a1,a2,_⟩:=hm.mem.1 he;exact⟨(L,a),az a1,jr.2 (uB.2 ⟨e,az a2,h3⟩)⟩
end
end Go.K
namespace Go.K
open Go.Proofs
set_option maxRecDepth 10000
def Eo (g:Gs):Prop:=∃(i d i' d':Nat) (e e':En),lE g i d e∧lE g i' d' e'∧¬(i=i'∧d=d')∧e.2=e'.2
theorem lE.one {L:List En} {a:List Bool} {i d:Nat} {e:En}:lE [(L,a)] i d e↔i=0∧L[d]? =some e∧a[d]? =some true:=by
 constructor
 ·rintro⟨L',a',h1,h2,h3⟩
  cases i with
  |zero=>simp only[qG,dK,ef]at h1;obtain⟨rfl,rfl⟩:=h1;exact⟨rfl,h2,h3⟩
  |succ i=>simp at h1
 ·rintro⟨rfl,h2,h3⟩;exact⟨L,a,rfl,h2,h3⟩
def qA (Z:List (En×Bool)):List En:=(Z.filter (·.2)).map (·.1)
theorem Ep {L:List En} {a:List Bool} {e:En}:e∈qA (L.zip a)↔∃d:Nat,L[d]? =some e∧a[d]? =some true:=by
 unfold qA;rw[ca];constructor
 ·rintro⟨⟨x,b⟩,h,rfl⟩;obtain⟨h1,h2⟩:=fQ.1 h;simp only at h2;subst h2;obtain⟨d,hd⟩:=bE.1 h1;rw[List.getElem?_zip_eq_some]at hd;exact⟨d,hd.1,hd.2⟩
 ·rintro⟨d,h1,h2⟩;exact⟨(e,true),fQ.2 ⟨az (i:=d) (List.getElem?_zip_eq_some.2 ⟨h1,h2⟩),rfl⟩,rfl⟩
theorem HZ {L:List En} {a:List Bool} (h:L.Pairwise fun x y=>x.2<y.2):(qA (L.zip a)).Pairwise fun x y=>x.2<y.2:=by
 unfold qA;refine cA.2 (uv zq ?_);rw[cD]at h ⊢;intro i j hi hj jf;rw[List.getElem_zip,List.getElem_zip];exact h i j (by rw[List.length_zip]at hi;omega) (by rw[List.length_zip]at hj;omega) jf
theorem VE {L:List En} {a:List Bool} {os:List Fo} {E:List En} (hu:L.Pairwise fun x y=>x.2<y.2) (h:Mg [(L,a)] os E):E=qA (L.zip a):=Qr h.up (HZ hu) fun e=>by
 rw[h.mem,Ep];constructor
 ·rintro⟨i,d,hl⟩;obtain⟨_,h1,h2⟩:=lE.one.1 hl;exact⟨d,h1,h2⟩
 ·rintro⟨d,h1,h2⟩;exact⟨0,d,lE.one.2 ⟨rfl,h1,h2⟩⟩
theorem Jy {g:Gs} (h:((g.map (·.1)).flatten).Pairwise fun x y=>x.2≠y.2): ¬Eo g:=by
 rintro⟨i,d,i',d',e,e',⟨L,a,h1,h2,_⟩,⟨L',a',h3,h4,_⟩,eN,heq⟩;rw[List.pairwise_flatten]at h;obtain⟨ha,hb⟩:=h;have g1:(g.map (·.1))[i]? =some L:=by rw[bm,h1];rfl
 have g3:(g.map (·.1))[i']? =some L':=by rw[bm,h3];rfl
 obtain⟨p1,p2⟩:=ao.1 g1;obtain⟨q1,q2⟩:=ao.1 g3;rcases fa i i' with dQ|rfl|dQ
 ·have:=cD.1 hb i i' p1 q1 dQ;rw[p2,q2]at this;exact this e (az h2) e' (az h4) heq
 ·rw[h1]at h3;cases h3;have hl:=ha L (az g1);obtain⟨r1,r2⟩:=ao.1 h2;obtain⟨s1,s2⟩:=ao.1 h4;rcases fa d d' with h|h|h
  ·have:=cD.1 hl d d' r1 s1 h;rw[r2,s2]at this;exact this heq
  ·exact eN ⟨rfl,h⟩
  ·have:=cD.1 hl d' d s1 r1 h;rw[r2,s2]at this;exact this heq.symm
 ·have:=cD.1 hb i' i q1 p1 dQ;rw[p2,q2]at this;exact this e' (az h4) e (az h2) heq.symm
theorem GI {L:List En} {a:List Bool} (hu:L.Pairwise fun x y=>x.2<y.2): ¬Eo [(L,a)]:=Jy (by
 show(List.flatten [L]).Pairwise _;rw[List.flatten_cons,List.flatten_nil,fP];exact hu.imp fun h e=>by omega)
end Go.K
namespace Go.K
theorem Own.Qt {α:Type} {A:RT α} (hA:zU A) {e:TypeId} {M:aC} {w:World} {base:Nat} {v:Value} {xs:List α} (h:Own A e M w base v xs) {M':aC} (hm:∀b,v.ownBlock=some b→M' b):Own A e M' w base v xs:=by
 obtain⟨⟨C,h1,h2⟩,_⟩:=h;exact⟨⟨C,h1,h2.Ql hA⟩,hm⟩
theorem Own.Z2 {α:Type} {A:RT α} (hA:zU A) {e:TypeId} {N:aC} {w w':World} {base:Nat} {v:Value} {xs:List α} (h:Own A e allM w base v xs) (s:Step allM w allM w' N) (hn:∀b,v.ownBlock=some b→¬N b):Own A e allM w' base v xs:=by
 obtain⟨⟨C,h1,h2⟩,_⟩:=h;refine⟨⟨C,⟨h1.1,?_⟩,h2.Ql hA⟩,fun _ _=>trivial⟩;rcases h1.2 with h3|⟨g,cap,cur,h3,h4,h5,h6,h7,h8⟩
 ·exact .inl h3
 ·exact .inr ⟨g,cap,cur,h3,h4,by rw[s.same g (ak h5) (hn g (by rw[h3];rfl))];exact h5,h6,h7,h8⟩
theorem Own.R9 {α:Type} {A:RT α} (hA:zU A) {e:TypeId} {M:aC} {w:World} {base:Nat} {v:Value} {xs:List α} (h:Own A e M w base v xs):Own A e (mL v) w base v xs:=h.Qt hA fun _ h=>h
theorem Own.Sa {α:Type} {A:RT α} (hA:zU A) {e:TypeId} {M M' N:aC} {w w':World} {base:Nat} {v:Value} {xs:List α} (h:Own A e (mL v) w base v xs) (s:Step M w M' w' N) (hn:∀c,v.ownBlock=some c→¬N c):Own A e (mL v) w' base v xs:=
 ((h.Qt hA (M':=allM) (fun _ _=>trivial)).Z2 hA s.all hn).R9 hA
end Go.K
namespace Go.K
variable {P:Program} {r:Option Nat} {n:Nat} {L:Sl} {ds:List Deferred} {w:World} {K:Kt} {ops:Array Oper} {rest:List Oper} {d:Nat} {x y:Operand} {ty:TypeId} {pos:String} {af:Array Edge} {α:Type} {A:RT α}
theorem Own.Jz {e:TypeId} {M:aC} {base:Nat} {u v:Value} {xs:List α} (h:Own A e M w base u xs) (ta:∀b,u.ownBlock=some b→v.ownBlock≠some b):Own A e (rm M v) w base u xs:=by
 obtain⟨⟨C,hr,ha⟩,hm⟩:=h;exact⟨⟨C,hr,ha.le (eH M v w)⟩,fun b hb=>⟨hm b hb,ta b hb⟩⟩
theorem Rg.VF {t e:TypeId} {zv:Value} {bytes:Nat} {M:aC} {base g len cap j:Nat} {xs:List α} {a:α} {v:Value} (hA:A.n=1∧A.agg=false) (hi:TI P t zv 1 bytes) (hx:ev L x=some (.pointer (some ⟨g,j,none⟩))) (hy:ev L y=some v) (h:Own A e M w base (.slice (some ⟨g,0,none⟩) len cap) xs) (hj:j<xs.length) (hv:A.V M w a v)
  (k:∀w',Own A e M w' base (.slice (some ⟨g,0,none⟩) len cap) (xs.set j a)→Step M w M w' (fun k=>k=g)→Rg P r n ops rest L ds w' K):
  Rg P r n ops ({dst:=none,op:= .store t x y,type:=ty,pos,after:=af,guard:=none}::rest) L ds w K:=by
 obtain⟨vs,kH,hvv⟩:=hv;have hl:=A.len kH;rw[hA.1]at hl
 obtain⟨u,rfl⟩:∃u,vs=[u]:=by
  match vs,hl with
  |[u],_=>exact⟨u,rfl⟩
 have hvu:v=u:=by rw[hvv];unfold RT.val;rw[hA.2];rfl
 subst hvu;have h1:=A.one kH v (by simp);obtain⟨w',Tl,ho,hs⟩:=h.setCells hj kH;obtain⟨⟨C,hr,_⟩,hm⟩:=h;rcases hr.2 with⟨h2,_⟩|⟨g',xC,cur,h2,_,h3,h4,h5,h6,h7⟩
 ·cases h2
 ·simp only[fV,dK,nA]at h2;obtain⟨⟨rfl,_⟩,rfl,rfl⟩:=h2;rw[hA.1]at h6 Tl;refine .QV (fun _ h=>by cases h) rfl rfl w' (fun ρ hρ=>?_) (k w' ho hs);subst Tl;simp only[execOp,hρ x _ hx,hρ y _ hy];have:=ni (P:=P) hi (w:=w) (b:=g) (o:=j) (v:=v) h1 (by rw[fA h3 (v:=cur[j]'(by omega)) (by simp)];rfl) (by simp[World.frozen?,h3]);simp[this,World.setCells]
theorem Rg.ahc {t e:TypeId} {zv v:Value} {bytes:Nat} {M:aC} (ht:P.underlying t=some (.slice e)) (hi:TI P e zv 1 bytes) (hx:ev L x=some v) (hd:Nat.blt d n=true) (hc:v.cells= #[v])
  (k:∀g w',w.heap.size≤g→w'.heap[g]? =some (.cells #[v] e (0,0))→Step M w M w' aD→Rg P r n ops rest ((d,.slice (some ⟨g,0,none⟩) 1 1)::L) ds w' K):
  Rg P r n ops ({dst:=some d,op:= .buildSlice t 1 #[(0,x)],type:=ty,pos,after:=af,guard:=none}::rest) L ds w K:=by
 obtain⟨i,xj,zr,hi3,W9⟩:=hi.get;refine .op (fun _ h=>by cases h) rfl rfl hd (.slice (some ⟨w.heap.size,0,none⟩) 1 1) (w.alloc (.cells #[v] e)) (fun ρ hρ=>?_) (k _ _ (aO _) (ch w _) (cQ M w (.cells #[v] e)));simp only[execOp,fq,eR,jY,hρ x _ hx];simp only[Instr.buildSlice,cj,run_underlying ht,cB,hi.sizeOf,Nat.one_mul];rw[if_neg (by omega),if_neg (by omega)];simp only[cj,zeroValue,typeInfo,program,Sem.run,xj,zr,cB,Sem.run_pure];rw[Cy 1 _ #[v] v (by simp) hc (by simp)];simp[newRow,newObj,Sem.run]
theorem Rg.Qu {i:Operand} {t e:TypeId} {κ:IntKind} {j:Int} {b o len bytes:Nat} {zv:Value} (ht:P.underlying t=some (.array len e)) (hi:TI P e zv 1 bytes) (hx:ev L x=some (.pointer (some ⟨b,o,none⟩))) (E6:ev L i=some (.int κ j)) (hd:Nat.blt d n=true) (hj:0≤j∧j<len)
  (k:Rg P r n ops rest ((d,.pointer (some ⟨b,o+j.toNat,none⟩))::L) ds w K):
  Rg P r n ops ({dst:=some d,op:= .indexAddr t x i,type:=ty,pos,after:=af,guard:=none}::rest) L ds w K:=
 .op (fun _ h=>by cases h) rfl rfl hd _ w (fun ρ h=>by
  simp only[execOp,h x _ hx,h i _ E6];simp[Instr.indexAt,run_underlying ht,asIntOf,hj,hi.sizeOf,wI,Instr.sureAddr]) k
def OJ (p:Fo):List Value:=[.int .i64 p.1,.int .i64 p.2]
def Z3 (p:Fo):Prop:=lO p.1∧lO p.2
theorem xr {M:aC} {w:World}:∀{xs:List Fo} {C:List Value},dZ RT.fo M w xs C↔C=xs.flatMap OJ∧∀p∈xs,Z3 p
 |[],C=>⟨fun h=>⟨h,fun p h=>by cases h⟩,fun h=>h.1⟩
 |p::xs,C=>by
  constructor
  ·rintro⟨vs,r,h1,⟨va,vb,rfl,⟨rfl,ha⟩,⟨rfl,hb⟩⟩,h3⟩;obtain⟨h4,h5⟩:=xr.1 h3;refine⟨by rw[h1,h4];rfl,fun q hq=>?_⟩;rcases cd.1 hq with rfl|hq
   ·exact⟨ha,hb⟩
   ·exact h5 q hq
  ·rintro⟨h1,h2⟩;obtain⟨ha,hb⟩:=h2 p (bK ..);exact⟨_,_,by rw[h1];rfl,⟨_,_,rfl,⟨rfl,ha⟩,⟨rfl,hb⟩⟩,xr.2 ⟨rfl,fun q hq=>h2 q (bZ _ hq)⟩⟩
theorem Er {a:Int}:∀{xs:List Fo} {k:Nat} {p:Fo},xs[k]? =some p→(xs.flatMap OJ).set (k*2+1) (.int .i64 a)=(xs.set k (p.1,a)).flatMap OJ
 |[],k,p,h=>by simp at h
 |q::xs,0,p,h=>by
  simp at h;subst h;rfl
 |q::xs,k+1,p,h=>by
  have:=Er (a:=a) (xs:=xs) (k:=k) (p:=p) (by simpa using h);rw[List.set_cons_succ,rN,rN,←this];show(OJ q++_).set _ _=OJ q++_;rw[show(k+1)*2+1=(k*2+1)+2 from by omega];rfl
theorem yZ:∀xs:List Fo,(xs.flatMap OJ).length=xs.length*2
 |[]=>rfl
 |p::xs=>by rw[rN,bj,yZ xs,cM];show 2+_=_;omega
theorem Own.Z4 {e:TypeId} {M:aC} {base g len cap k:Nat} {xs:List Fo} {p:Fo} (h:Own RT.fo e M w base (.slice (some ⟨g,0,none⟩) len cap) xs) (hx:xs[k]? =some p):
  ∃cur,w.heap[g]? =some (.cells cur e (0,0))∧M g∧Z3 p∧base≤g∧(∃u,cur[k*2+1]? =some u∧u.oneCell'=true)∧∀(M':aC) (w':World) (a:Int),lO a→w'.heap[g]? =some (.cells (cur.setIfInBounds (k*2+1) (.int .i64 a)) e (0,0))→M' g→Own RT.fo e M' w' base (.slice (some ⟨g,0,none⟩) len cap) (xs.set k (p.1,a)):=by
 obtain⟨⟨C,hr,ha⟩,hm⟩:=h;obtain⟨rfl,hok⟩:=xr.1 ha;have Fb:=(ao.1 hx).1;rcases hr.2 with⟨h1,_⟩|⟨g',xC,cur,h1,h2,h3,h4,h5,h6,h7⟩
 ·cases h1
 ·simp only[fV,dK,nA]at h1;obtain⟨⟨rfl,_⟩,rfl,rfl⟩:=h1;have e2:RT.fo.n=2:=rfl;rw[e2]at h6 h7;have kg:k*2+1<xs.length*2:=by omega
  have iY:∃u,cur[k*2+1]? =some u∧u.oneCell'=true:=by
   have hl:k*2+1<(xs.flatMap OJ).length:=by rw[yZ];exact kg
   refine⟨(xs.flatMap OJ)[k*2+1],?_,ha.one _ (uA _)⟩;have h8:(cur.toList.take (xs.length*2))[k*2+1]? =some (xs.flatMap OJ)[k*2+1]:=by rw[h7];exact au hl
   rw[cp,if_pos kg]at h8;simpa using h8
  refine⟨cur,h3,hm g rfl,hok p (az hx),h2,iY,fun M' w' a har hw hM'=>?_⟩;refine⟨⟨(xs.set k (p.1,a)).flatMap OJ,⟨by rw[yZ];rfl,.inr ⟨g,cap,_,by rw[fm],h2,hw,by rw[fm];exact h4,h5,by rw[e2];simpa using h6,?_⟩⟩,xr.2 ⟨rfl,fun q hq=>?_⟩⟩,fun b hb=>by cases hb;exact hM'⟩
  ·rw[e2,fm,←Er hx,←h7];apply eZ;intro j;rw[dr];simp only[cp,Array.toList_setIfInBounds,dr,bC,zp];by_cases hj:j<xs.length*2
   ·rw[if_pos hj,if_pos hj];have:xs.length*2≤cur.size:=by rw[h6];omega
    by_cases e:k*2+1=j
    ·rw[if_pos e,if_pos e,if_pos (by omega),if_pos (by omega)]
    ·rw[if_neg e,if_neg e]
   ·rw[if_neg hj,if_neg hj];rw[if_neg (by omega)]
  ·rcases List.mem_or_eq_of_mem_set hq with hq|rfl
   ·exact hok q hq
   ·exact⟨(hok p (az hx)).1,har⟩
end Go.K
namespace Go.K
open Go.Proofs
namespace TKSet
theorem JA:TI Tryz.prog 131 (.slice none 0 0) 1 24:=by unfold TI;kernel_rfl
theorem ahd:TI Tryz.prog 133 (.agg #[(.int .i64 0),(.slice none 0 0)]) 2 32:=by unfold TI;kernel_rfl
theorem BU:TI Tryz.prog 190 (.int .u64 0) 1 8:=by unfold TI;kernel_rfl
theorem ahe:placesOf Tryz.prog 133=[(0,1),(1,1)].map some:=by kernel_rfl
theorem Z5:Enters Tryz.prog 117:=enters Tryz.func117 rfl (by decide)
theorem VG:Enters Tryz.prog 174:=enters Tryz.func174 rfl (by decide)
theorem Z6:Enters Tryz.prog 175:=enters Tryz.func175 rfl (by decide)
end TKSet
open TKSet
set_option maxRecDepth 10000
theorem zV {w0:World} {k m x:Nat} (GK:∃e fr,w0.heap[1]? =some (.cells (IE.map fun(k:Nat)=>Value.int .u8 (k:Int)).toArray e fr)) (hx:x=2^k*(2*m+1)) (hl:x<2^64):
  Spec Tryz.prog 213 #[.int .u64 x] w0 (fun v' w'=>v'= .int .i64 k∧w0=w'):=by
 obtain⟨et,ft,GK⟩:=GK;have hp:=Nat.two_pow_pos k;have td:0<x:=by rw[hx];exact Nat.mul_pos hp (by omega)
 have hkx:2^k≤x:=by rw[hx];exact Nat.le_mul_of_pos_right _ (by omega)
 have hk:k<64:=by
  rcases cy k 64 with h2|h2
  ·exact h2
  ·have:=wH (n:=2) (by decide) h2;omega
 obtain⟨hd1,hd2⟩:=Tn k hk;have k8:((IE.map fun(k:Nat)=>Value.int .u8 (k:Int)).toArray)[(2^k*285870213051353865)%2^64/2^58]? =some (.int .u8 (k:Int)):=by rw[dX,bm,hd2];rfl
 refine bg (args:=[_]) (fn:=Tryz.f213) Tryz.func213 rfl (n:=14) Tryz.ntmps213 (aj (ae (ah rfl rfl (ab (aj (aj (ae (ad rfl rfl (tc rfl rfl rfl (ab (T.wM rfl ((by omega)) ?_)))))))))));refine aT (aj (ae (ad rfl rfl (ad rfl rfl (Rg.acN rfl rfl (aU (v':= .int .u64 ((2^64-x:Nat):Int)) (by rw[show(0:Int)-(x:Int)=((2^64-x:Nat):Int)-18446744073709551616 from by omega];simp[IntKind.wrap,IntKind.bits,IntKind.signed];omega) (Rg.and rfl rfl rfl (aU (v':= .int .u64 ((2^k:Nat):Int)) (by rw[KK x (2^64-x) hl (by omega),hx,O9 (by omega)]) (Rg.Ik rfl rfl rfl (aU (v':= .int .u64 (((2^k*285870213051353865)%2^64:Nat):Int)) (congrArg _ (by rw[show((2^k:Nat):Int)*285870213051353865=((2^k*285870213051353865:Nat):Int)from by rw[Int.natCast_mul];rfl];exact Hm _)) (Rg.shr rfl rfl rfl (by decide) ?_)))))))))));refine aU (v':= .int .u64 (((2^k*285870213051353865)%2^64/2^58:Nat):Int)) (congrArg _ (To _ 58 (by decide))) (xh (len:=64) Tryz.underlying326 I5 rfl rfl rfl (by omega) (aP (v:= .int .u8 (k:Int)) cz rfl rfl rfl GK (by rw[ay];exact k8) (Rg.uE cz ax rfl rfl (by omega) (ah rfl rfl (ab (aQ ?_))))));exact aV rfl rfl ⟨rfl,rfl⟩
theorem H0 {M:aC} {w0:World} {n:Nat} {ws:List Nat} {bs bw:Nat} (h:jl 133 190 n ws M w0 bs bw) {i:Int}:
  Spec Tryz.prog 174 #[.pointer (some ⟨bs,0,none⟩),.int .i64 i] w0 (fun v' w'=>v'= .bool (decide (0≤i∧i<n))∧w0=w'):=by
 have hS:=h.s;have hW:=h.w;have hlen:=h.len;have hok:=h.ok;have SI:=h.nn;refine bg (args:=[_,_]) (fn:=Tryz.f174) Tryz.func174 rfl (n:=15) Tryz.ntmps174 (aj (ae (ah rfl rfl (ab (aj (ae (ad rfl rfl (dT rfl rfl rfl (ad rfl rfl ?_)))))))));refine aN (g:=7) rfl (fun iB=>?_) (fun iB=>?_)
 ·refine al rfl rfl (ad rfl rfl (al rfl rfl (ad rfl rfl (al rfl rfl (bQ rfl ⟨_,rfl⟩ rfl (al rfl rfl (bO rV rfl rfl I3 (by decide) rfl rfl (al rfl rfl (aP ax rfl rfl rfl (by assumption) rfl (al rfl rfl (cn rfl rfl rfl ?_)))))))))));refine aX rfl rfl rfl (ah rfl rfl (ab (aQ ?_)))
  first
  |exact aV rfl rfl ⟨congrArg Value.bool (decide_eq_decide.2 (by omega)),rfl⟩
  |exact aV rfl rfl ⟨congrArg Value.bool (du (decide_eq_false (by omega))),rfl⟩
 ·refine ar rfl rfl rfl rfl (ar rfl rfl rfl rfl (ar rfl rfl rfl rfl (ar rfl rfl rfl rfl (ar rfl rfl rfl rfl (ar rfl rfl rfl rfl (aE rfl rfl rfl (ah rfl rfl (ab (aQ ?_)))))))))
  first
  |exact aV rfl rfl ⟨congrArg Value.bool (decide_eq_decide.2 (by omega)),rfl⟩
  |exact aV rfl rfl ⟨congrArg Value.bool (du (decide_eq_false (by omega))),rfl⟩
theorem NK {M:aC} {w0:World} {n:Nat} {ws:List Nat} {bs bw:Nat} (h:jl 133 190 n ws M w0 bs bw) {i:Int}:
  Spec Tryz.prog 175 #[.pointer (some ⟨bs,0,none⟩),.int .i64 i] w0 (fun v' w'=>v'= .bool (Pb n ws i)∧w0=w'):=by
 have hS:=h.s;have hW:=h.w;have hlen:=h.len;have hok:=h.ok;have SI:=h.nn;refine bg (args:=[_,_]) (fn:=Tryz.f175) Tryz.func175 rfl (n:=23) Tryz.ntmps175 (aj (ae (ah rfl rfl (ab (aj (ae (ad rfl rfl (ad rfl rfl ?_))))))));refine aW rfl rfl VG (H0 h) (fun r wc h=>?_);obtain⟨rfl,rfl⟩:=h;refine ad rfl rfl ?_;refine aN (g:=8) rfl (fun jH=>?_) (fun jH=>?_)
 ·obtain⟨j,rfl⟩:∃j:Nat,i=j:=⟨i.toNat,by omega⟩;refine al rfl rfl (ad rfl rfl (al rfl rfl (bQ rfl ⟨_,rfl⟩ rfl (al rfl rfl (bO rV rfl rfl JA (by decide) rfl rfl (al rfl rfl (aP lZ rfl rfl rfl (by assumption) rfl (al rfl rfl (ad rfl rfl (al rfl rfl (Rg.wR rfl rfl rfl (by omega) ?_)))))))))));refine al rfl rfl (Rg.CP lZ BU rfl rfl rfl (by omega) (al rfl rfl (aP rS rfl rfl rfl hW (v:= .int .u64 ((ws.getD (j/64) 0:Nat):Int)) (by rw[show(((j:Int)/64)).toNat=j/64 from by omega];exact oL (by omega)) (al rfl rfl (ad rfl rfl (al rfl rfl (Rg.zB rfl rfl rfl (by omega) (al rfl rfl (Rg.shr rfl rfl rfl (by omega) (aU (v':= .int .u64 ((ws.getD (j/64) 0/2^(j%64):Nat):Int)) (congrArg _ (by rw[show((j:Int)%64)=((j%64:Nat):Int)from by omega];exact To _ _ (by omega))) (al rfl rfl ?_)))))))))));refine Rg.and rfl rfl rfl (aU (v':= .int .u64 ((ws.getD (j/64) 0/2^(j%64)%2:Nat):Int)) (congrArg _ (by have:=KK (ws.getD (j/64) 0/2^(j%64)) 1 (Nat.lt_of_le_of_lt (Nat.div_le_self _ _) (hok.get _)) (by decide);rw[Nat.and_one_is_mod]at this;exact this)) (al rfl rfl (tc rfl rfl rfl (aX rfl rfl rfl (ah rfl rfl (ab (aQ ?_)))))))
  first
  |exact aV rfl rfl ⟨congrArg Value.bool (by unfold Pb bit;rw[decide_eq_true jH,fp,ay,Nat.testBit_eq_decide_div_mod_eq];exact decide_eq_decide.2 (by omega)),rfl⟩
  |exact aV rfl rfl ⟨congrArg Value.bool (by unfold Pb;rw[decide_eq_false jH,kG]),rfl⟩
 ·refine ar rfl rfl rfl rfl (ar rfl rfl rfl rfl (ar rfl rfl rfl rfl (ar rfl rfl rfl rfl (ar rfl rfl rfl rfl (ar rfl rfl rfl rfl (ar rfl rfl rfl rfl (ar rfl rfl rfl rfl (ar rfl rfl rfl rfl (ar rfl rfl rfl rfl (ar rfl rfl rfl rfl (ar rfl rfl rfl rfl ?_)))))))))));refine ar rfl rfl rfl rfl (aE rfl rfl rfl (ah rfl rfl (ab (aQ ?_))))
  first
  |exact aV rfl rfl ⟨congrArg Value.bool (by unfold Pb bit;rw[decide_eq_true jH,fp,ay,Nat.testBit_eq_decide_div_mod_eq];exact decide_eq_decide.2 (by omega)),rfl⟩
  |exact aV rfl rfl ⟨congrArg Value.bool (by unfold Pb;rw[decide_eq_false jH,kG]),rfl⟩
theorem JB {M:aC} {w0:World} {n:Nat} (hn:n≤1099511627776):
  Spec Tryz.prog 24 #[.int .i64 n] w0 (fun v' w'=>∃bs bw,v'= .pointer (some ⟨bs,0,none⟩)∧w0.heap.size≤bs∧w0.heap.size≤bw∧Step M w0 (ins (ins M bw) bs) w' aD∧jl 133 190 n (List.replicate ((n+63)/64) 0) (ins (ins M bw) bs) w' bs bw):=by
 refine bg (args:=[_]) (fn:=Tryz.f24) Tryz.func24 rfl (n:=13) Tryz.ntmps24 (aj (ae (ah rfl rfl (ab (aj (ae (ad rfl rfl (Rg.max2 rfl rfl rfl (aU (v':= .int .i64 n) (congrArg _ (by omega)) (ah rfl rfl (ab ?_)))))))))));refine aj (ae (ad rfl rfl (ad rfl rfl (bD rfl rfl rfl (by omega) (fu rfl rfl rfl (by omega) (Rg.wR rfl rfl rfl (by omega) (aU (v':= .int .i64 (((n+63)/64:Nat):Int)) (congrArg _ (by omega)) ?_)))))));refine Rg.mk0 M lZ BU rfl rfl rfl rfl (by omega) (by omega) (fun bw w1 z1 z1' h1 s1=>?_);refine iI (places:=[(0,1),(1,1)]) rV ahd ahe rfl ⟨_,_,rfl,rfl,_,_,rfl,rfl,rfl⟩ (out:=[_,_]) ⟨0,[_],rfl,rfl,by simp[Value.cells],1,[_],rfl,rfl,by simp[Value.cells],rfl⟩ ?_;refine wJ (ins M bw) rfl rfl (fun bs w2 z2 z2' h2 s2=>?_);have y1:=s1.size;refine ah rfl rfl (ab (aQ ?_));refine aV rfl rfl ⟨bs,bw,rfl,by omega,z1,s1.aB s2,.inl rfl,.inr (.inl rfl),by omega,by rw[ck];exact h2,?_,by simp,fun x hx=>by rw[pI hx];decide,hn⟩;have:=s2.aK h1;rw[this];simp[qc]
end Go.K
namespace Go.K
open Go.Proofs
set_option maxRecDepth 10000
theorem JC {M:aC} {w0:World} {n:Nat} {ws:List Nat} {bs bw:Nat} (h:jl 133 190 n ws M w0 bs bw):
  Spec Tryz.prog 102 #[.pointer (some ⟨bs,0,none⟩)] w0 (fun v' w'=>v'= .int .i64 (n:Int)∧w0=w'):=by
 have hS:=h.s;have hW:=h.w;have hlen:=h.len;have hok:=h.ok;have SI:=h.nn;refine bg (args:=[_]) (fn:=Tryz.f102) Tryz.func102 rfl (n:=7) Tryz.ntmps102 (aj (ae (ah rfl rfl (ab (aj (ae (ad rfl rfl (bQ rfl ⟨_,rfl⟩ rfl (bO rV rfl rfl I3 (by decide) rfl rfl (aP ax rfl rfl rfl (by assumption) rfl (ah rfl rfl ?_)))))))))));refine ab (aQ ?_);exact aV rfl rfl ⟨rfl,rfl⟩
end Go.K
namespace Go.K
open Go.Proofs
namespace TKSet3
theorem JA:TI Tryz.prog 131 (.slice none 0 0) 1 24:=by unfold TI;kernel_rfl
theorem BU:TI Tryz.prog 190 (.int .u64 0) 1 8:=by unfold TI;kernel_rfl
theorem Z7:Enters Tryz.prog 155:=enters Tryz.func155 rfl (by decide)
theorem ahf:Enters Tryz.prog 213:=enters Tryz.func213 rfl (by decide)
end TKSet3
open TKSet3
set_option maxRecDepth 10000
theorem y4 {M:aC} {w0:World} {n:Nat} {ws:List Nat} {bs bw:Nat} (h:jl 133 190 n ws M w0 bs bw) {i:Int} (hi: -1≤i∧i≤1099511627776) (hb:∀j,bit ws j=true→j<n) (GK:∃e fr,w0.heap[1]? =some (.cells (IE.map fun(k:Nat)=>Value.int .u8 (k:Int)).toArray e fr)):
  Spec Tryz.prog 155 #[.pointer (some ⟨bs,0,none⟩),.int .i64 i] w0 (fun v' w'=>(∃r,v'= .int .i64 r∧Rb ws i.toNat r∧ -1≤r∧r≤1099511627776)∧w0=w'):=by
 have hS:=h.s;have hW:=h.w;have hlen:=h.len;have hok:=h.ok;have SI:=h.nn;refine bg (args:=[_,_]) (fn:=Tryz.f155) Tryz.func155 rfl (n:=36) Tryz.ntmps155 (aj (ae (ah rfl rfl (ab (aj (ae (ad rfl rfl (Rg.max2 rfl rfl rfl (aU (v':= .int .i64 (i.toNat:Int)) (congrArg _ (by omega)) (ah rfl rfl (ab ?_)))))))))));refine aj (aZ ?_);refine dn (σ:=Nat) (fun s=>[(0,.pointer (some ⟨bs,0,none⟩)),(1,.int .i64 s)]) (fun s w=>w0=w∧i.toNat≤s∧(∀t,i.toNat≤t→t<s→bit ws t=false)∧s≤1099511627840) (fun s=>n+64-s) i.toNat (.cons rfl (.cons rfl .nil)) ?_ ?_
 ·exact⟨rfl,aO _,fun t h1 h2=>by omega,by omega⟩
 ·rintro p w1 ⟨rfl,hp,j4,j9⟩;refine aj (aj (ae (ad rfl rfl (ad rfl rfl (bQ rfl ⟨_,rfl⟩ rfl (bO rV rfl rfl I3 (by decide) rfl rfl (aP ax rfl rfl rfl (by assumption) rfl (cn rfl rfl rfl (ab ?_)))))))));refine bN rfl (fun c2=>?_) (fun c2=>?_)
  ·refine aT (aZ (aj (aj (ae (ad rfl rfl (bQ rfl ⟨_,rfl⟩ rfl (bO rV rfl rfl JA (by decide) rfl rfl (aP lZ rfl rfl rfl (by assumption) rfl (ad rfl rfl (Rg.wR rfl rfl rfl (by omega) (Rg.CP lZ BU rfl rfl rfl (by omega) ?_)))))))))));refine aP rS rfl rfl rfl hW (v:= .int .u64 ((ws.getD (p/64) 0:Nat):Int)) (by rw[show(((p:Int)/64)).toNat=p/64 from by omega];exact oL (by omega)) (ad rfl rfl (Rg.zB rfl rfl rfl (by omega) (Rg.shr rfl rfl rfl (by omega) (aU (v':= .int .u64 ((ws.getD (p/64) 0/2^(p%64):Nat):Int)) (congrArg _ (by rw[show((p:Int)%64)=((p%64:Nat):Int)from by omega];exact To _ _ (by omega))) (ah rfl rfl (ab (aj (ae (ad rfl rfl (fe rfl rfl rfl (ab ?_)))))))))));refine bN rfl (fun c4=>?_) (fun c4=>?_)
   ·refine aj (ae (ad rfl rfl (ad rfl rfl ?_)));obtain⟨k,m,Ff⟩:=KN (ws.getD (p/64) 0/2^(p%64)) (Nat.pos_of_ne_zero fun h=>c4 (by rw[h];rfl));have A4:=CR (hok.get _) (show p%64<64 by omega) Ff;have ahg:ws.getD (p/64) 0/2^(p%64)<2^64:=Nat.lt_of_le_of_lt (Nat.div_le_self _ _) (hok.get _);refine aW rfl rfl ahf (zV (k:=k) (m:=m) GK Ff ahg) (fun r wc h=>?_);obtain⟨rfl,rfl⟩:=h;refine bD rfl rfl rfl (by omega) (ah rfl rfl (ab (aQ ?_)));have hlb:=fun t ht=>(Bg (k:=k) (m:=m)).2 t ht
    have Z8:bit ws (p+k)=true:=by rw[xU A4,Ff];exact Bg.1
    have:=hb _ Z8
    exact aV rfl rfl ⟨⟨_,rfl,.inl ⟨p+k,by omega,by omega,Z8,fun t h1 h2=>by
     rcases cy t p with h|h
     ·exact j4 t h1 h
     ·have h3:=xU (ws:=ws) (i:=p) (t:=t-p) (by omega);rw[show p+(t-p)=t from by omega]at h3;rw[h3,Ff];exact hlb _ (by omega)⟩,by omega,by omega⟩,rfl⟩
   ·have hz0:ws.getD (p/64) 0/2^(p%64)=0:=by
     have:=dE.1 c4;exact Int.ofNat.inj this
    refine aT (ae (ad rfl rfl (ad rfl rfl (Rg.zB rfl rfl rfl (by omega) (fu rfl rfl rfl (by omega) (bD rfl rfl rfl (by omega) (ah rfl rfl (ab ?_))))))));refine⟨rfl,p+(64-p%64),(.cons rfl (.cons (by rw[show((p+(64-p%64):Nat):Int)=(p:Int)+(64-(p:Int)%64)from by omega];rfl) .nil)),?_,?_⟩
    ·refine⟨rfl,by omega,fun t h1 h2=>?_,by omega⟩;rcases cy t p with h|h
     ·exact j4 t h1 h
     ·have h3:=xU (ws:=ws) (i:=p) (t:=t-p) (by omega);rw[show p+(t-p)=t from by omega]at h3;rw[h3,hz0];simp
    ·show n+64-(p+(64-p%64))<n+64-p;omega
  ·refine cI (aj (ae (ah rfl rfl (ab (aQ ?_)))))
   exact aV rfl rfl ⟨⟨_,rfl,.inr ⟨rfl,fun t h1=>by
    rcases cy t p with h|h
    ·exact j4 t h1 h
    ·cases Qd:bit ws t with
     |false=>rfl
     |true=>have:=hb t Qd;omega⟩,by omega,by omega⟩,rfl⟩
theorem JD {M:aC} {w0:World} {bs:Nat} (hM:Lt M w0):
  Spec Tryz.prog 103 #[.pointer (some ⟨bs,0,none⟩)] w0 (fun v' w'=>∃bl,v'= .func (.func 154) #[] #[.pointer (some ⟨bl,0,none⟩)]∧w'.heap[bl]? =some (.cells #[.pointer (some ⟨bs,0,none⟩)] 47 (0,0))∧w0.heap.size≤bl∧Step M w0 M w' aD):=by
 refine bg (args:=[_]) (fn:=Tryz.f103) Tryz.func103 rfl (n:=4) Tryz.ntmps103 (aj (ae ?_));refine wJ M rfl rfl (fun bl w1 h1 WA hS s1=>?_);change w1.heap[bl]? =some (.cells #[.pointer (some ⟨bs,0,none⟩)] _ _)at hS;refine ah rfl rfl (ab (aj (ae (j5 (xs:=[]) (ys:=[.tmp 1]) rfl rfl rfl (ah rfl rfl (ab (aQ ?_)))))));exact aV rfl rfl ⟨bl,rfl,hS,h1,s1.back⟩
theorem GL {w0:World} {n:Nat} {ws:List Nat} {bs bw bl yl:Nat} {J:Nat→aC→World→Prop} {M:aC} {Jx:World→Prop} (hb:∀j,bit ws j=true→j<n) (HN:∀p M w,J p M w→w.heap[bl]? =some (.cells #[.pointer (some ⟨bs,0,none⟩)] 47 (0,0))∧jl 133 190 n ws M w bs bw∧(∃e fr,w.heap[1]? =some (.cells (IE.map fun(k:Nat)=>Value.int .u8 (k:Int)).toArray e fr))) (hy:∀(p j:Nat) (M:aC) (w:World),J p M w→p≤j→bit ws j=true→(∀t,p≤t→t<j→bit ws t=false)→vT Tryz.prog yl [.int .i64 j].toArray w (fun r w'=>∃c,r= .bool c∧(c=true→∃M',J (j+1) M' w')∧(c=false→Jx w'))) (h0:J 0 M w0):
  Spec Tryz.prog 154 #[.func (.yield yl) #[] #[],.pointer (some ⟨bl,0,none⟩)] w0 (fun _ w'=>(∃p M',J p M' w'∧∀t,p≤t→bit ws t=false)∨Jx w'):=by
 obtain⟨WS,T0,ahh⟩:=HN _ _ _ h0;refine bg (args:=[_,_]) (fn:=Tryz.f154) Tryz.func154 rfl (n:=17) Tryz.ntmps154 (aj (ae (aP nG rfl rfl rfl (by assumption) rfl ?_)));refine aW rfl rfl Z7 (y4 T0 (i:=0) (by omega) hb ahh) (fun r wc h=>?_);obtain⟨⟨r,rfl,hr,W2,Ox⟩,rfl⟩:=h;refine ah rfl rfl (ab (aZ ?_));refine dn (σ:=Nat×Int) (fun s=>[(0,.func (.yield yl) #[] #[]),(1,.pointer (some ⟨bl,0,none⟩)),(3,.int .i64 s.2)]) (fun s w=>(∃M1,J s.1 M1 w)∧Rb ws s.1 s.2∧ -1≤s.2∧s.2≤1099511627776∧s.1≤n) (fun s=>n+1-s.1) (0,r) (.cons rfl (.cons rfl (.cons rfl .nil))) ?_ ?_
 ·exact⟨⟨M,h0⟩,hr,W2,Ox,bG _⟩
 ·clear hr W2 Ox;rintro⟨p,r⟩ w1 ⟨⟨M1,hJ⟩,hr,W2,Ox,OH⟩;dsimp only at hJ hr W2 Ox OH ⊢;refine aj (aj (ae (ad rfl rfl (dT rfl rfl rfl (ad rfl rfl ?_)))));refine aN (g:=8) rfl (fun iB=>?_) (fun iB=>?_)
  ·refine al rfl rfl (ad rfl rfl (al rfl rfl (ad rfl rfl (al rfl rfl ?_))))
   have hrj:∃j:Nat,r=j∧p≤j∧bit ws j=true∧∀t,p≤t→t<j→bit ws t=false:=by
    rcases hr with h|h
    ·exact h
    ·omega
   obtain⟨j,rfl,Xj,Z9,j4⟩:=hrj;have JT:=hb j Z9;refine Rg.yield rfl (vs:=[.int .i64 j]) rfl rfl (hy p j M1 _ hJ Xj Z9 j4) (fun r4 w5 h5=>?_);obtain⟨c,rfl,hc5,ZU⟩:=h5;refine aU (v':= .bool (decide (c=true))) (by simp) (aX rfl rfl rfl (ab ?_));refine bN rfl (fun c1=>?_) (fun c1=>?_)
   ·obtain⟨M2,hJ2⟩:=hc5 c1;obtain⟨Oz,vN,ahi⟩:=HN _ _ _ hJ2;refine aT (aj (aZ (aT (ae (aP nG rfl rfl rfl (by assumption) rfl (ad rfl rfl (bD rfl rfl rfl (by omega) ?_)))))));refine aW rfl rfl Z7 (y4 vN (i:=(j:Int)+1) (by have:=vN.nn;omega) hb ahi) (fun r wc h=>?_);obtain⟨⟨r2,rfl,aaa,hr3,hr4⟩,rfl⟩:=h;refine ah rfl rfl (ab ?_);refine⟨rfl,(j+1,r2),(.cons rfl (.cons rfl (.cons rfl .nil))),?_,?_⟩
    ·refine⟨⟨M2,hJ2⟩,?_,hr3,hr4,by simp only;omega⟩;rw[show((j:Int)+1).toNat=j+1 from by omega]at aaa;exact aaa
    ·simp only;omega
   ·refine cI ?_;change wN Tryz.prog Tryz.f154 (fun _ w'=>(∃p M',J p M' w'∧∀t,p≤t→bit ws t=false)∨Jx w') .normal _ [] _
    first
    |exact fW rfl (.inr (ZU (by simpa using c1)))
    |(have p6:∀t,p≤t→bit ws t=false:=by
       rcases hr with⟨j,h,_⟩|h
       ·omega
       ·exact h.2
      exact fW rfl (.inl ⟨p,M1,hJ,p6⟩))
  ·refine ar rfl rfl rfl rfl (ar rfl rfl rfl rfl (ar rfl rfl rfl rfl (aE rfl rfl rfl (ab (iX rfl (cI ?_))))));change wN Tryz.prog Tryz.f154 (fun _ w'=>(∃p M',J p M' w'∧∀t,p≤t→bit ws t=false)∨Jx w') .normal _ [] _
   first
   |exact fW rfl (.inr (ZU (by simpa using c1)))
   |(have p6:∀t,p≤t→bit ws t=false:=by
      rcases hr with⟨j,h,_⟩|h
      ·omega
      ·exact h.2
     exact fW rfl (.inl ⟨p,M1,hJ,p6⟩))
end Go.K
namespace Go.K
open Go.Proofs
namespace TKSet2
theorem JA:TI Tryz.prog 131 (.slice none 0 0) 1 24:=by unfold TI;kernel_rfl
theorem BU:TI Tryz.prog 190 (.int .u64 0) 1 8:=by unfold TI;kernel_rfl
theorem E24:Enters Tryz.prog 24:=enters Tryz.func24 rfl (by decide)
end TKSet2
open TKSet2
set_option maxRecDepth 10000
end Go.K
namespace Go.K
open Go.Proofs
namespace TKSet5
theorem ahl:Enters Tryz.prog 103:=enters Tryz.func103 rfl (by decide)
theorem ahm:Enters Tryz.prog 154:=enters Tryz.func154 rfl (by decide)
end TKSet5
open TKSet5
set_option maxRecDepth 10000
def low (ws:List Nat):Nat→List Int
 |0=>[]
 |p+1=>if bit ws p then low ws p++[(p:Int)]else low ws p
theorem H2 (ws:List Nat):∀p,(low ws p).length≤p
 |0=>aO _
 |p+1=>by
  have:=H2 ws p;unfold low;split
  ·simp;omega
  ·omega
theorem tW {ws:List Nat} {p:Nat}:∀{j:Nat},p≤j→(∀t,p≤t→t<j→bit ws t=false)→low ws j=low ws p
 |0,h,_=>by rw[show p=0 by omega]
 |j+1,h,j4=>by
  rcases lj h with e|h1
  ·rw[e]
  ·rw[low,j4 j (by omega) (by omega)];simp only[Bool.false_eq_true,if_false];exact tW (by omega) (fun t h1 h2=>j4 t h1 (by omega))
theorem BV (ws:List Nat):∀p x,x∈low ws p↔∃t:Nat,x=(t:Int)∧t<p∧bit ws t=true
 |0,x=>by simp[low]
 |p+1,x=>by
  have ih:=BV ws p x;unfold low;constructor
  ·intro h
   split at h
   ·rename_i hb
    rcases cq.1 h with h|h
    ·obtain⟨t,h1,h2,h3⟩:=ih.1 h;exact⟨t,h1,by omega,h3⟩
    ·rw[bH.1 h];exact⟨p,rfl,by omega,hb⟩
   ·obtain⟨t,h1,h2,h3⟩:=ih.1 h;exact⟨t,h1,by omega,h3⟩
  ·rintro⟨t,h1,h2,h3⟩;rcases cy t p with h|h
   ·have:=ih.2 ⟨t,h1,h,h3⟩
    split
    ·exact cq.2 (.inl this)
    ·exact this
   ·have:t=p:=by omega
    subst this;rw[if_pos h3];exact cq.2 (.inr (by rw[h1];exact bH.2 rfl))
theorem H3:zU (RT.int .i64):=fun _ _ _ _ _ _ h=>h
structure J3 (n:Nat) (ws:List Nat) (bs bw bl:Nat) (M:aC) (w:World):Prop where
 f: ¬M bl∧¬M bs∧¬M bw∧¬M 1
 l:w.heap[bl]? =some (.cells #[.pointer (some ⟨bs,0,none⟩)] 47 (0,0))
 s:jl 133 190 n ws (fun _=>True) w bs bw
 t:∃e fr,w.heap[1]? =some (.cells (IE.map fun(k:Nat)=>Value.int .u8 (k:Int)).toArray e fr)
theorem J3.keeps {n:Nat} {ws:List Nat} {bs bw bl:Nat} {M M':aC} {w w':World} (h:J3 n ws bs bw bl M w) (l:Le M w M' w'):J3 n ws bs bw bl M' w':=by
 obtain⟨⟨f1,f2,f3,f4⟩,hl,hs,e,fr,ht⟩:=h;have a1:=l bl (ak hl) f1;have a2:=l bs (ak hs.s) f2;have a3:=l bw (ak hs.w) f3;have a4:=l 1 (ak ht) f4;exact⟨⟨a1.1,a2.1,a3.1,a4.1⟩,a1.2.trans hl,⟨trivial,trivial,hs.ne,a2.2.trans hs.s,a3.2.trans hs.w,hs.len,hs.ok,hs.nn⟩,e,fr,a4.2.trans ht⟩
theorem GM {M:aC} {w0:World} {n:Nat} {ws:List Nat} {bs bw:Nat} (hM:Lt M w0) (h:jl 133 190 n ws (fun _=>True) w0 bs bw) (hb:∀j,bit ws j=true→j<n) (hf: ¬M bs∧¬M bw∧¬M 1) (GK:∃e fr,w0.heap[1]? =some (.cells (IE.map fun(k:Nat)=>Value.int .u8 (k:Int)).toArray e fr)):
  Spec Tryz.prog 57 #[.pointer (some ⟨bs,0,none⟩)] w0 (fun v w=>∃M',Own (RT.int .i64) 3 M' w w0.heap.size v (low ws n)∧Step M w0 M' w aD):=by
 have kr:=hM;refine nL (args:=[_]) (fn:=Tryz.f57) Tryz.func57 rfl (n:=13) Tryz.ntmps57 ?_;have S:Step M w0 M w0 aD:=(aw _ _).cF (fun _ h=>h.elim) (fun _ h=>h.elim);refine aj (ae (ah rfl rfl (ab (aj (ae ?_)))));refine ek M j7 rfl (fun mi C4 TR TS jO nt=>?_);obtain⟨lf,mj⟩:∃M',M'=ins M mi:=⟨_,rfl⟩;rw[←mj]at nt;have iP:lf mi:=by rw[mj];exact .inl rfl
 change C4.heap[mi]? =some (.cells #[.slice none 0 0] _ _)at jO;replace hM:=nt.lt hM;have:=S.size;replace S:=S.aB nt;refine ab (aj (aj (ae (ad rfl rfl ?_))));refine aW rfl rfl ahl (JD (bs:=bs) hM) (fun r2 w2 hc=>?_);obtain⟨bl,rfl,gl,kY,s2⟩:=hc;have fl: ¬lf bl:=fun h=>by have:=hM _ h;omega
 have hk:J3 n ws bs bw bl lf w2:=by
  obtain⟨e,fr,ht⟩:=GK;have q:=S.aB s2;exact⟨⟨fl,fun hn=>hf.1 ((q.mem _ (ak h.s)).1 hn),fun hn=>hf.2.1 ((q.mem _ (ak h.w)).1 hn),fun hn=>hf.2.2 ((q.mem _ (ak ht)).1 hn)⟩,gl,⟨trivial,trivial,h.ne,q.aK h.s,q.aK h.w,h.len,h.ok,h.nn⟩,e,fr,q.aK ht⟩
 have:=ak jO;replace iP:=(s2.mem _ this).2 iP;replace jO:=s2.aK jO;replace hM:=s2.lt hM;have:=S.size;replace S:=S.aB s2;refine ab (aZ ?_);refine T.range (gf:=154) (lb:=[.pointer (some ⟨bl,0,none⟩)].toArray) rfl ahm (fun rec np=>?_);obtain⟨D,hD⟩:∃D,D=w2.heap.size:=⟨_,rfl⟩;obtain⟨Mr,h0⟩:=agY (A:=RT.int .i64) (e:=3) (T:=37) (C:=284) (K:=J3 n ws bs bw bl) (st:=rec .ready none) J3.keeps hM S jO iP hk (by omega);rw[←hD]at np h0 ⊢;refine Spec.mono (GL (M:=fun _=>True) (J:=fun p Ma w=>Ma=(fun _=>True)∧∃M' vo,Nx (RT.int .i64) 3 37 284 (J3 n ws bs bw bl) M w0 mi D (rec .ready none) vo (low ws p) M' w) (Jx:=fun _=>False) hb (fun p Ma w ⟨e,M',vo,h⟩=>by subst e;exact⟨h.k.l,h.k.s,h.k.t⟩) (fun p j Ma wr hJ Xj Z9 j4=>?_) ⟨rfl,Mr,_,h0⟩) (fun _ w3 h3=>?_)
 ·obtain⟨_,M',vo,h⟩:=hJ;have JT:=hb j Z9;have SI:=h.k.s.nn;have Il:=H2 ws p;refine lS (ps:=[7]) (vs:=[.int .i64 (j:Int)]) np h.r rfl (by decide) (ae (ah rfl rfl (ab ?_)));refine⟨rfl,h.r,?_⟩;have h4:=h.mz J3.keeps (st':=rec .busy none);have s4:Step M' wr M' (wr.putObj (D+1) (.loop (rec .busy none))) (fun k=>k=D+1):=dS h.mr;generalize wr.putObj (D+1) _=w4 at h4 s4 ⊢;refine aZ (ae (aP an rfl rfl rfl h4.o rfl (aU (v':=vo) rfl (ad rfl rfl ?_))));refine eg (A:=RT.int .i64) (hn:=by decide) (M:=M') an I3 (by decide) rfl rfl h4.lt (xy.2 ⟨rfl,by show-9223372036854775808≤(j:Int)∧(j:Int)≤9223372036854775807;omega⟩) (.inr ⟨rfl,rfl⟩) (fun u5 w5 C0 s5=>?_);have h6:=h4.aM J3.keeps s5;refine cX (M:=M') (base:=w0.heap.size) an I3 rfl rfl rfl rfl h6.own C0 (aq _ _) (by simp;omega) (by simp;omega) h6.S.size (fun v6 M6 w6 tJ s6=>?_);obtain⟨⟨go6,mo6⟩,Fa⟩:=h6.grow J3.keeps (by decide) s6 tJ;refine cu (M:=M6) j7 rfl rfl go6 rfl (by obtain⟨_,_,he,_⟩:=tJ.isSlice;rw[he];rfl) mo6 (fun w7 g7 s7=>?_);refine ab ?_;have h8:=(Fa s7 g7).mz J3.keeps (st':=rec .ready none);exact⟨(Fa s7 g7).r,true,rfl,fun _=>⟨_,rfl,M6,v6,by rw[low,if_pos Z9,tW Xj j4];exact h8⟩,fun h=>by cases h⟩
 ·obtain⟨p,_,⟨_,M',vo,h⟩,p6⟩:=h3.resolve_right id;left;refine⟨h.r,?_⟩;have h5:=h.mz J3.keeps (st':=rec .exhausted none);generalize w3.putObj (D+1) _=wE at h5 ⊢;refine aj (ae (aP an rfl rfl rfl h5.o rfl (aU (v':=vo) rfl (ah rfl rfl (ab (aQ ?_))))));have sE:Step M' wE M' (wE.putObj D (.deferred none)) (fun k=>k=D):=dS h5.md;have hz:=h5.z;have hS:=h5.S.cf sE (fun k (hk:k=D)=>by omega)
  have ho:=h5.own.step sE (fun b hb (hn:b=D)=>by
   obtain⟨cs,hc⟩:=h5.own.isCells hb;rw[hn,h5.d]at hc;cases hc)
  have e:low ws n=low ws p:=by
   rcases Nat.le_total p n with h1|h1
   ·exact tW h1 (fun t h2 _=>p6 t h2)
   ·exact(tW h1 (fun t h2 _=>by
     cases Qd:bit ws t with
     |false=>rfl
     |true=>have:=hb t Qd;omega)).symm
  exact Bc rfl rfl h5.d ⟨M',by rw[e];exact ho,hS⟩
end Go.K
namespace Go.K
open Go.Proofs
namespace TKMay11
theorem OK:TI Tryz.prog 25 (.pointer none) 1 8:=by unfold TI;kernel_rfl
theorem VH:TI Tryz.prog 47 (.pointer none) 1 8:=by unfold TI;kernel_rfl
theorem W4:Enters Tryz.prog 34:=enters Tryz.func34 rfl (by decide)
theorem ahn:Enters Tryz.prog 102:=enters Tryz.func102 rfl (by decide)
end TKMay11
open TKMay11
set_option maxRecDepth 10000
def GN (M:aC) (w:World) (n:Nat) (ws:List Nat) (bs:Nat):Prop:=∃bw,jl 133 190 n ws (fun _=>True) w bs bw∧¬M bs∧¬M bw
theorem GN.le {M M':aC} {w w':World} {n:Nat} {ws:List Nat} {bs:Nat} (hl:Le M w M' w') (h:GN M w n ws bs):GN M' w' n ws bs:=by
 obtain⟨bw,h1,h2,h3⟩:=h;obtain⟨a1,a2⟩:=hl bs (ak h1.s) h2;obtain⟨b1,b2⟩:=hl bw (ak h1.w) h3;exact⟨bw,⟨trivial,trivial,h1.ne,a2.trans h1.s,b2.trans h1.w,h1.len,h1.ok,h1.nn⟩,a1,b1⟩
theorem GN.all {M:aC} {w:World} {n:Nat} {ws:List Nat} {bs:Nat} (h:GN M w n ws bs):∃bw,jl 133 190 n ws (fun _=>True) w bs bw:=by
 obtain⟨bw,h1,_⟩:=h;exact⟨bw,h1⟩
def BW (M:aC) (w:World) (a:List Bool) (bs:Nat):Prop:=∃ws,GN M w a.length ws bs∧∀j,bit ws j=true↔a[j]? =some true
theorem BW.le {M M':aC} {w w':World} {a:List Bool} {bs:Nat} (hl:Le M w M' w') (h:BW M w a bs):BW M' w' a bs:=by
 obtain⟨ws,h1,h2⟩:=h;exact⟨ws,h1.le hl,h2⟩
theorem xu (ws:List Nat):∀p,(low ws p).Pairwise (· < ·)
 |0=>List.Pairwise.nil
 |p+1=>by
  unfold low
  split
  ·refine ng.2 ⟨xu ws p,by simp,fun a ha b hb=>?_⟩;obtain⟨t,rfl,ht,_⟩:=(BV ws p a).1 ha;rw[bH.1 hb];omega
  ·exact xu ws p
theorem GO {ws:List Nat} {a:List Bool} (h:∀j,bit ws j=true↔a[j]? =some true):low ws a.length=gr a:=by
 refine tM (R:=fun a b=>a<b) (fun a b h1 h2=>by omega) (xu _ _) (tU _) ((xu _ _).imp fun h e=>by omega) ((tU _).imp fun h e=>by omega) fun x=> ?_
 rw[BV,kR];constructor
 ·rintro⟨t,rfl,_,h2⟩;exact⟨t,rfl,(h t).1 h2⟩
 ·rintro⟨t,rfl,h2⟩;exact⟨t,rfl,(ao.1 h2).1,(h t).2 h2⟩
theorem Es {M:aC} {w0:World} {a:List Bool} {bs:Nat} (hM:Lt M w0) (h:BW M w0 a bs) (h0: ¬M 1) (GK:∃e fr,w0.heap[1]? =some (.cells (IE.map fun(k:Nat)=>Value.int .u8 (k:Int)).toArray e fr)):Spec Tryz.prog 57 #[.pointer (some ⟨bs,0,none⟩)] w0 (fun v w=>((RT.int .i64).sl).V M w (gr a) v∧Step M w0 M w aD):=by
 obtain⟨ws,⟨bw,h1,h2,h3⟩,h4⟩:=h;refine(GM hM h1 (fun j hj=>(ao.1 ((h4 j).1 hj)).1) ⟨h2,h3,h0⟩ GK).mono fun v w ⟨M',ho,s⟩=>?_
 rw[GO h4]at ho;exact ho.GA H3 s (aO _) hM (by have:=vv a;have:=h1.nn;omega)
theorem GP {M:aC} {ss:List Se} {bs ns:List Nat} {v0 v1:Value} (w0:World) (hs:(((RT.se).ptr).sl).V M w0 ss v0) (hb:(RT.OB.sl).V M w0 bs v1) (hl:bs.length=ss.length) (hn:ns.length=ss.length) (dB:∀(i b n:Nat),bs[i]? =some b→ns[i]? =some n→∃ws,GN M w0 n ws b):
  Spec Tryz.prog 56 #[v0,v1] w0 (fun v w=>v= .bool (decide (ss.map (fun s=>s.1.length)=ns))∧w=w0):=by
 have hlen:=ei hs;refine bg (args:=[_,_]) (fn:=Tryz.f56) Tryz.func56 rfl (n:=39) Tryz.ntmps56 (aj (ae (ah rfl rfl (ab (aj (aj (ae (ad rfl rfl (bR fg rfl hs rfl (ad rfl rfl (bR Tryz.underlying49 rfl hb rfl ?_)))))))))));refine fe rfl rfl rfl (ab (T.wM rfl ((fun h=>h (by rw[hl]))) (aT (aj (aj (ae (ad rfl rfl (bR fg rfl hs rfl (ad rfl rfl (ab (aZ ?_)))))))))));refine dn (σ:=Nat) (fun i=>[(1,v1),(12,v0),(13,.int .i64 (ss.length:Int)),(14,.int .i64 (i:Int))]) (fun i w=>i≤ss.length∧(∀(j:Nat),j<i→∀(s:Se) (n:Nat),ss[j]? =some s→ns[j]? =some n→s.1.length=n)∧w=w0) (fun i=>ss.length-i) 0 (.cons rfl (.cons rfl (.cons rfl (.cons rfl .nil)))) ?_ ?_
 ·exact⟨bG _,(fun j h=>by omega),rfl⟩
 ·rintro i w ⟨hi,l1,rfl⟩;refine aj (ae (cn rfl rfl rfl (ab (aj ?_))));refine bN rfl (fun c4=>?_) (fun c4=>?_)
  ·refine aT (aj (aZ (aj (ae (ad rfl rfl ?_)))));obtain⟨s,IY⟩:∃s,ss[i]? =some s:=⟨_,au (by omega)⟩;refine cE (M:=M) fg OK rfl rfl rfl hs (aq _ _) (by omega) (fun u5 x_ kE C0=>?_);rw[ay]at kE;obtain rfl:=aI (IY.symm.trans kE);refine bT (M:=M) jg rfl rfl rfl rfl rfl C0 (aq _ _) (fun v5 pU=>?_);have hp5:=mA.1 pU;obtain⟨a5,rfl⟩:=hp5.gO;refine ah rfl rfl (ah rfl rfl (ab (aj (ae (ad rfl rfl (Rg.CL jg rfl ⟨_,rfl⟩ rfl rfl (ad rfl rfl (al rfl rfl (ad rfl rfl (al rfl rfl (ad rfl rfl ?_)))))))))));refine al rfl rfl ?_;obtain⟨b,JU⟩:∃b,bs[i]? =some b:=⟨_,au (by omega)⟩;refine cE (M:=M) Tryz.underlying49 VH rfl rfl rfl hb (aq _ _) (by omega) (fun u6 x_ kE FF=>?_);rw[ay]at kE;obtain rfl:=aI (JU.symm.trans kE);refine al rfl rfl ?_;refine bT (M:=M) nG rfl rfl rfl rfl rfl FF (aq _ _) (fun vb MF=>?_);obtain rfl:=Hn.1 MF;refine al rfl rfl (Rg.CL nG rfl ⟨_,rfl⟩ rfl rfl (aE rfl rfl rfl (ad rfl rfl (al rfl rfl (ad rfl rfl (al rfl rfl (ad rfl rfl (al rfl rfl ?_))))))));refine cE (M:=M) Tryz.underlying49 VH rfl rfl rfl hb (aq _ _) (by omega) (fun aq1 x_ kE aac=>?_);rw[ay]at kE;obtain rfl:=aI (JU.symm.trans kE);refine al rfl rfl ?_;refine bT (M:=M) nG rfl rfl rfl rfl rfl aac (aq _ _) (fun vb2 aho=>?_);obtain rfl:=Hn.1 aho;refine al rfl rfl ?_;obtain⟨nn,Q4⟩:∃n,ns[i]? =some n:=⟨_,au (by omega)⟩;obtain⟨ws,QZ⟩:=dB i b nn JU Q4;obtain⟨bw,hsa⟩:=QZ.all;refine aW rfl rfl ahn (JC hsa) (fun r6 w6 hc=>?_);obtain⟨rfl,rfl⟩:=hc;refine al rfl rfl (ad rfl rfl (al rfl rfl ?_));refine aW rfl rfl W4 (vr _ hp5) (fun r7 w7 hc=>?_)
   obtain⟨rfl,rfl⟩:=hc;refine al rfl rfl (fe rfl rfl rfl (aE rfl rfl rfl (ab ?_)));refine bN rfl (fun c6=>?_) (fun c6=>?_)
   ·refine aj (ae (ah rfl rfl (ab (aQ ?_))))
    exact aV rfl rfl ⟨congrArg Value.bool (du (decide_eq_false fun h=>c6 (by
     have h1:=congrArg (·[i]?) h;rw[bm,IY,Q4]at h1;have h9:s.1.length=nn:=aI h1;omega))),rfl⟩
   ·refine aT (ae (bD rfl rfl rfl (by omega) (ad rfl rfl (ab ?_))));refine⟨rfl,i+1,(.cons rfl (.cons rfl (.cons rfl (.cons rfl .nil)))),?_,?_⟩
    ·refine⟨by omega,fun j hj s' n' h1 h2=>?_,rfl⟩;rcases cy j i with h|h
     ·exact l1 j h s' n' h1 h2
     ·obtain rfl:j=i:=by omega
      rw[IY]at h1;rw[Q4]at h2;cases h1;cases h2;omega
    ·omega
  ·refine cI (aj (ae (ah rfl rfl (ab (aQ ?_)))))
   exact aV rfl rfl ⟨congrArg Value.bool (du (decide_eq_true (by
    apply eZ;intro j;rw[bm];rcases cy j ss.length with h|h
    ·obtain⟨s,hs⟩:∃s,ss[j]? =some s:=⟨_,au h⟩;obtain⟨n,IZ⟩:∃n,ns[j]? =some n:=⟨_,au (by omega)⟩;rw[hs,IZ,db,l1 j (by omega) s n hs IZ]
    ·rw[dN h,dN (by omega)];rfl))),rfl⟩
end Go.K
namespace Go.K
open Go.Proofs
set_option maxRecDepth 10000
theorem Qv {M:aC} {w:World} {x:Po} {v:Value} (h:RT.po.V M w x v):∃u,v= .agg #[.int .i64 x.1,u]∧((RT.int .i64).sl).V M w x.2 u∧(-9223372036854775808≤x.1∧x.1≤9223372036854775807):=by
 obtain⟨vs,⟨va,vb,rfl,⟨rfl,hk⟩,hb⟩,rfl⟩:=h;obtain⟨a,cap,rfl,h2⟩:=hb;exact⟨.slice a x.2.length cap,rfl,⟨_,⟨a,cap,rfl,h2⟩,rfl⟩,hk⟩
theorem aad {M:aC} {w:World} {x:Int} {ps:List Int} {u:Value} (hx: -9223372036854775808≤x∧x≤9223372036854775807) (hu:((RT.int .i64).sl).V M w ps u):RT.po.V M w (x,ps) (.agg #[.int .i64 x,u]):=eT (fI hx) hu rfl rfl rfl rfl
theorem GQ {M:aC} {l:List Po} {to:List Int} {v0 v1:Value} (w0:World) (hM:Lt M w0) (hv:(RT.po.sl).V M w0 l v0) (ht:((RT.int .i64).sl).V M w0 to v1) (hl:l.length≤1000000) (kg:∀p∈l,0≤p.1∧p.1<to.length):
  Spec Tryz.prog 63 #[v0,v1] w0 (fun v w=>∃M',Own RT.po 83 M' w w0.heap.size v (kS to l)∧Lt M' w∧Step M w0 M' w aD):=by
 have kr:=hM;refine bg (args:=[_,_]) (fn:=Tryz.f63) Tryz.func63 rfl (n:=33) Tryz.ntmps63 ?_;have S:Step M w0 M w0 aD:=(aw _ _).cF (fun _ h=>h.elim) (fun _ h=>h.elim);refine aj (ae (ah rfl rfl (ab (aj (ae (ah rfl rfl (ab (aj (aj (ae (ad rfl rfl ?_)))))))))));refine bR bI rfl hv rfl (ad rfl rfl (ab (aZ ?_)));refine dn (σ:=Nat×Value) (fun q=>[(1,v1),(5,q.2),(8,v0),(9,.int .i64 (l.length:Int)),(10,.int .i64 (q.1:Int))]) (fun q w=>q.1≤l.length∧∃M1,Lt M1 w∧(RT.po.sl).V M1 w l v0∧((RT.int .i64).sl).V M1 w to v1∧Own RT.po 83 M1 w w0.heap.size q.2 (kS to (l.take q.1))∧Step M w0 M1 w aD) (fun q=>l.length-q.1) (0,.slice none 0 0) (.cons rfl (.cons rfl (.cons rfl (.cons rfl (.cons rfl .nil))))) ?_ ?_
 ·exact⟨bG _,_,hM,hv,ht,dz _ _ _ _ _,S⟩
 ·clear hM hv ht S;rintro⟨i,u⟩ w ⟨hi,M1,hM,hv,ht,ho,S⟩;dsimp only at hi ho ⊢;have rY:=fun b hb=>(ho.base b hb).2
  refine aj (ae (cn rfl rfl rfl (ab (aj ?_))));refine bN rfl (fun c3=>?_) (fun c3=>?_)
  ·refine aT (aj (aZ (aj (ae ?_))));obtain⟨p,hk⟩:∃p,l[i]? =some p:=⟨_,au (by omega)⟩;obtain⟨hp0,sV⟩:=kg p (az hk);have Ro:l.take (i+1)=l.take i++[p]:=by rw[b9,hk];rfl
   have pZ:=sO to (l.take i);have aq3:(l.take i).length=i:=by rw[bC];omega
   refine cE (M:=M1) bI oO rfl rfl rfl hv (aq _ _) (by omega) (fun u40 y aae ahp=>?_);rw[ay]at aae;obtain rfl:=aI (hk.symm.trans aae);refine dg (M:=M1) (A:=RT.po) bW rfl oO (by decide) rfl rfl rfl ahp (aq _ _) (fun v41 xc=>?_);obtain⟨ux,rfl,E0,hpr⟩:=Qv xc;obtain⟨ua,uc,rfl,_,_,_⟩:=iz.1 E0;refine ek M1 oO rfl (fun Qw Pm aq4 aq5 lM mf=>?_);obtain⟨tX,NL⟩:∃M',M'=ins M1 Qw:=⟨_,rfl⟩;rw[←NL]at mf;have ny:tX Qw:=by rw[NL];exact .inl rfl
   change Pm.heap[Qw]? =some (.cells #[.int .i64 0,.slice none 0 0] _ _)at lM;replace hv:=hv.le mf.le;replace ht:=ht.le mf.le;replace xc:=xc.le mf.le;replace E0:=E0.le mf.le;replace ho:=ho.aM mf;replace hM:=mf.lt hM;have:=S.size;replace S:=S.aB mf;refine dY (M:=tX) (vs:=[.int .i64 p.1,.slice ua p.2.length uc]) oO rfl rfl (BF rfl xc) rfl rfl lM ny (fun w43 g43 Qx=>?_);have:=ak lM;replace ny:=(Qx.mem _ this).2 ny;replace hv:=hv.le Qx.le;replace ht:=ht.le Qx.le;replace xc:=xc.le Qx.le;replace E0:=E0.le Qx.le;replace ho:=ho.step Qx (fun b hb hk=>by have hk:b=Qw:=hk;have:=rY b hb;omega);replace hM:=Qx.lt hM;have:=S.size;replace S:=S.trans Qx (fun k hk h=>by have h:_=_:=h;subst h;first|(exfalso;omega)|(show _≤_;omega)|exact⟨by first|omega|assumption,(S.mem _ hk).1 ((Qx.mem _ (ak lM)).1 ny)⟩|exact .inl rfl|exact .inr rfl|exact .inr (.inl rfl)|exact .inr (.inr rfl)|exact .inr (.inr (.inl rfl))|exact rfl);have Sb:=g43;clear lM;have lM:=Sb;clear Sb;refine ab (aj (ae (ad rfl rfl (bO (o':=0) bW rfl rfl I3 (by decide) rfl rfl (aP ax rfl rfl rfl lM rfl (aU (v':= .int .i64 p.1) rfl ?_))))));refine cE (M:=tX) an I3 rfl rfl rfl ht (aq _ _) (by omega) (fun u53 x53 ahq ahr=>?_);refine bT (M:=tX) ax rfl rfl rfl rfl rfl ahr (aq _ _) (fun v53 ahs=>?_);obtain⟨rfl,aq8⟩:=xy.1 ahs;obtain rfl:to.getD p.1.toNat 0=x53:=by rw[aA,ahq];rfl
   refine dT rfl rfl rfl (ab ?_);refine bN rfl (fun c5=>?_) (fun c5=>?_)
   ·apply T.pq 9 [0] 1 aD mixed rfl rfl rfl rfl;intro wD6 sA6;have Cq:=sA6 tX;have:=ak lM;replace ny:=(Cq.mem _ this).2 ny;replace lM:=Cq.aK lM;replace hv:=hv.le Cq.le;replace ht:=ht.le Cq.le;replace xc:=xc.le Cq.le;replace E0:=E0.le Cq.le;replace ho:=ho.aM Cq;replace hM:=Cq.lt hM;have:=S.size;replace S:=S.aB Cq;refine ad rfl rfl ?_;refine ab ⟨rfl,rfl,rfl,?_⟩;refine ad rfl rfl ?_;refine ab ⟨rfl,rfl,rfl,?_⟩;refine bO (o':=0) bW rfl rfl I3 (by decide) rfl rfl ?_;refine ab ⟨rfl,rfl,rfl,?_⟩;refine aP ax rfl rfl rfl lM rfl (aU (v':= .int .i64 p.1) rfl ?_);refine ab ⟨rfl,rfl,rfl,?_⟩;refine cE (M:=tX) an I3 rfl rfl rfl ht (aq _ _) (by omega) (fun u64 x64 ahu ahv=>?_);refine ab ⟨rfl,rfl,rfl,?_⟩;refine bT (M:=tX) ax rfl rfl rfl rfl rfl ahv (aq _ _) (fun v64 ahw=>?_);obtain⟨rfl,ahx⟩:=xy.1 ahw;obtain rfl:to.getD p.1.toNat 0=x64:=by rw[aA,ahu];rfl
    refine ab ⟨rfl,rfl,rfl,?_⟩;refine bO (o':=1) bW rfl rfl j7 (by decide) rfl rfl ?_;refine ab ⟨rfl,rfl,rfl,?_⟩;refine aP an rfl rfl rfl lM rfl (aU (v':= .slice ua p.2.length uc) rfl ?_);refine ab ⟨rfl,rfl,rfl,?_⟩;refine iI (places:=[(0,1),(1,1)]) bW oO XD rfl ⟨_,_,rfl,rfl,_,_,rfl,rfl,rfl⟩ (out:=[_,_]) ⟨0,[_],rfl,rfl,by simp[Value.cells],1,[_],rfl,rfl,by simp[Value.cells],rfl⟩ ?_;refine ab ⟨rfl,rfl,rfl,?_⟩;refine eQ ?_;refine⟨iH ⟨gX,trivial⟩,?_⟩;have kp:=jC aD wD6;refine eg (A:=RT.po) (hn:=by decide) (M:=tX) bI oO (by decide) rfl rfl hM (aad (ps:=p.2) ahx E0) (.inl rfl) (fun ara arb NM BX=>?_);have:=ak lM;replace ny:=(BX.mem _ this).2 ny;replace lM:=BX.aK lM;replace hv:=hv.le BX.le;replace ht:=ht.le BX.le;replace xc:=xc.le BX.le;replace E0:=E0.le BX.le;replace ho:=ho.aM BX;replace hM:=BX.lt hM;have:=S.size;replace S:=S.aB BX;refine(fun(kp:eJ _ _ _)=>ab ⟨rfl,rfl,fun _=>kp,?_⟩) (by first|exact kp|exact kp.qV (by assumption)|exact kp.goN (by assumption)|exact kp.go (by assumption) (fun _ _ h=>by first|exact h|exact h.elim));refine cX (M:=tX) (base:=w0.heap.size) bI oO rfl rfl rfl rfl ho NM (aq _ _) (by show _+1≤_;omega) (by show(_+1)*_≤_;omega) (S.size) (fun aaf alD alE VI tY=>?_);have:=ak lM;replace ny:=(tY.mem _ this).2 ny;replace lM:=tY.keep lM (fun h=>by have:=rY _ h;omega);replace hv:=hv.le tY.le;replace ht:=ht.le tY.le;replace xc:=xc.le tY.le;replace E0:=E0.le tY.le;replace NM:=NM.le tY.le;replace hM:=tY.lt hM;have:=S.size;replace S:=S.cV tY ho (aO _);replace ho:=VI;refine ab ⟨rfl,rfl,fun h=>absurd rfl h,?_⟩;refine ah rfl rfl ?_;refine ab ⟨rfl,rfl,fun h=>absurd rfl h,?_⟩;refine mH (ae (bD rfl rfl rfl (by omega) (ad rfl rfl (ab ?_))))
    refine⟨rfl,(i+1,aaf),(.cons rfl (.cons rfl (.cons rfl (.cons rfl (.cons rfl .nil))))),?_,?_⟩
    ·exact⟨by dsimp only;omega,_,hM,hv,ht,by dsimp only;rw[Ro,yX,if_pos c5];exact ho,S⟩
    ·dsimp only;omega
   ·refine aT (ae (bD rfl rfl rfl (by omega) (ad rfl rfl (ab ?_))));refine⟨rfl,(i+1,u),(.cons rfl (.cons rfl (.cons rfl (.cons rfl (.cons rfl .nil))))),?_,?_⟩
    ·exact⟨by dsimp only;omega,_,hM,hv,ht,by dsimp only;rw[Ro,yX,if_neg c5];exact ho,S⟩
    ·dsimp only;omega
  ·refine cI (aj (ae (ad rfl rfl (ah rfl rfl (ab (aQ ?_))))));rw[bc (by omega)]at ho;exact aV rfl rfl ⟨_,ho,hM,S⟩
end Go.K
namespace Go.Proofs
open Go.Shelf
def Tryz.GR:Go.Shelf.Ren:=⟨fun|6=>64|15=>115|14=>114|28=>172|29=>173|20=>164|21=>165|22=>166|23=>167|24=>168|25=>169|26=>170|27=>171|46=>217|47=>218|48=>219|49=>220|50=>221|57=>262|n=>n,fun|22=>80|24=>83|25=>129|3=>3|39=>189|0=>0|53=>257|55=>190|4=>4|46=>251|45=>250|50=>202|5=>5|9=>9|66=>296|70=>300|76=>327|77=>328|n=>n,fun|n=>n⟩
theorem Tryz.VJ:Go.Proofs.SlLaysF0.n6 Tryz.prog Tryz.GR:={
 mixed:=by kernel_rfl
 f6:=⟨Tryz.f64.name,by decide,Tryz.func64.trans (congrArg some (by kernel_rfl))⟩
 f14:=⟨Tryz.f114.name,by decide,Tryz.func114.trans (congrArg some (by kernel_rfl))⟩
 f15:=Tryz.func115.trans (congrArg some (by kernel_rfl))
 f20:=⟨Tryz.f164.name,by decide,Tryz.func164.trans (congrArg some (by kernel_rfl))⟩
 f21:=⟨Tryz.f165.name,by decide,Tryz.func165.trans (congrArg some (by kernel_rfl))⟩
 f22:=⟨Tryz.f166.name,by decide,Tryz.func166.trans (congrArg some (by kernel_rfl))⟩
 f23:=⟨Tryz.f167.name,by decide,Tryz.func167.trans (congrArg some (by kernel_rfl))⟩
 f24:=⟨Tryz.f168.name,by decide,Tryz.func168.trans (congrArg some (by kernel_rfl))⟩
 f25:=⟨Tryz.f169.name,by decide,Tryz.func169.trans (congrArg some (by kernel_rfl))⟩
 f26:=⟨Tryz.f170.name,by decide,Tryz.func170.trans (congrArg some (by kernel_rfl))⟩
 f27:=⟨Tryz.f171.name,by decide,Tryz.func171.trans (congrArg some (by kernel_rfl))⟩
 f28:=Tryz.func172.trans (congrArg some (by kernel_rfl))
 f29:=Tryz.func173.trans (congrArg some (by kernel_rfl))
 f46:=⟨Tryz.f217.name,by decide,Tryz.func217.trans (congrArg some (by kernel_rfl))⟩
 f47:=Tryz.func218.trans (congrArg some (by kernel_rfl))
 f48:=Tryz.func219.trans (congrArg some (by kernel_rfl))
 f49:=⟨Tryz.f220.name,by decide,Tryz.func220.trans (congrArg some (by kernel_rfl))⟩
 f50:=⟨Tryz.f221.name,by decide,Tryz.func221.trans (congrArg some (by kernel_rfl))⟩
 f57:=⟨Tryz.f262.name,by decide,Tryz.func262.trans (congrArg some (by kernel_rfl))⟩
 t0:=fG
 a0:=lA
 z0:=jZ
 v0:=gG
 t3:=ax
 a3:=lB
 z3:=j0
 v3:=gH
 t4:=ey
 a4:=rh
 z4:=nF
 v4:=jx
 t5:=cz
 a5:=Tryz.isAgg5
 z5:=Tryz.sizeOf5
 v5:=tb
 t9:=aJ
 a9:=lC
 z9:=j3
 v9:=gI
 t22:=bI
 a22:=Tryz.isAgg80
 z22:=Tryz.sizeOf80
 v22:=Tryz.zeroValue80
 t25:=Tryz.underlying129
 a25:=Tryz.isAgg129
 z25:=Tryz.sizeOf129
 v25:=Tryz.zeroValue129
 t39:=jL
 a39:=Tryz.isAgg189
 z39:=Tryz.sizeOf189
 v39:=Tryz.zeroValue189
 t45:=Tryz.underlying250
 a45:=Tryz.isAgg250
 z45:=Tryz.sizeOf250
 v45:=Tryz.zeroValue250
 t46:=Tryz.underlying251
 a46:=Tryz.isAgg251
 z46:=Tryz.sizeOf251
 v46:=Tryz.zeroValue251
 t50:=Tryz.underlying202
 a50:=Tryz.isAgg202
 z50:=Tryz.sizeOf202
 v50:=Tryz.zeroValue202
 t53:=Tryz.underlying257
 a53:=Tryz.isAgg257
 z53:=Tryz.sizeOf257
 v53:=Tryz.zeroValue257
 t55:=rS
 a55:=Tryz.isAgg190
 z55:=Tryz.sizeOf190
 v55:=Tryz.zeroValue190
 t66:=Tryz.underlying296
 a66:=Tryz.isAgg296
 z66:=Tryz.sizeOf296
 v66:=Tryz.zeroValue296
 t70:=Tryz.underlying300
 a70:=Tryz.isAgg300
 z70:=Tryz.sizeOf300
 v70:=Tryz.zeroValue300
 t76:=Tryz.underlying327
 a76:=Tryz.isAgg327
 z76:=Tryz.sizeOf327
 v76:=Tryz.zeroValue327
 t77:=Tryz.underlying328
 a77:=Tryz.isAgg328
 z77:=Tryz.sizeOf328
 v77:=Tryz.zeroValue328}
end Go.Proofs
namespace Go.K
open Go.Proofs
namespace TKSmall11
theorem E66:Enters Tryz.prog 66:=enters Tryz.func66 rfl (by decide)
theorem Vs:Enters Tryz.prog 116:=enters Tryz.func116 rfl (by decide)
end TKSmall11
open TKSmall11
set_option maxRecDepth 10000
theorem y5 {w0:World} {x:Int}:
  Spec Tryz.prog 116 #[.int .i64 x] w0 (fun v' w'=>v'= .bool (decide False)∧w0=w'):=by
 refine bg (args:=[_]) (fn:=Tryz.f116) Tryz.func116 rfl (n:=6) Tryz.ntmps116 (aj (ae (ah rfl rfl (ab (aj (ae (ad rfl rfl (ad rfl rfl (fe rfl rfl rfl (ah rfl rfl (ab ?_)))))))))));refine aQ ?_;exact aV rfl rfl ⟨congrArg Value.bool (by simp),rfl⟩
theorem tZ {w0:World} {x y:Int}:
  Spec Tryz.prog 66 #[.int .i64 x,.int .i64 y] w0 (fun v' w'=>v'= .int .i64 (if x<y then-1 else if x>y then 1 else 0)∧w0=w'):=by
 refine bg (args:=[_,_]) (fn:=Tryz.f66) Tryz.func66 rfl (n:=20) Tryz.ntmps66 (aj (ae (ah rfl rfl (ab (aj (ae (ad rfl rfl ?_)))))));refine aW rfl rfl Vs (y5) (fun r wc h=>?_);obtain⟨rfl,rfl⟩:=h;refine ah rfl rfl (ab (aj (ae (ad rfl rfl ?_))));refine aW rfl rfl Vs (y5) (fun r wc h=>?_);obtain⟨rfl,rfl⟩:=h;refine ah rfl rfl (ab (aj (aj (ae (ad rfl rfl (ab (T.wM rfl ((fun h=>h)) (aT (aj (aj (ae ?_)))))))))));refine ad rfl rfl (ab (T.wM rfl ((fun h=>h)) (aT (aj (aj (ae (ad rfl rfl (ad rfl rfl (cn rfl rfl rfl (ab ?_))))))))));refine bN rfl (fun c9=>?_) (fun c9=>?_)
 ·refine aj (ae (ah rfl rfl (ab (aQ ?_))));exact aV rfl rfl ⟨by rw[if_pos c9],rfl⟩
 ·refine aT (aj (aj (ae (ad rfl rfl (ad rfl rfl (jv rfl rfl rfl (ab ?_)))))));refine bN rfl (fun FB=>?_) (fun FB=>?_)
  ·refine aj (ae (ah rfl rfl (ab (aQ ?_))));exact aV rfl rfl ⟨by rw[if_neg c9,if_pos FB],rfl⟩
  ·refine aT (aj (ae (ah rfl rfl (ab (aQ ?_)))));exact aV rfl rfl ⟨by rw[if_neg c9,if_neg FB],rfl⟩
noncomputable instance {xs:List Int}:Decidable (∀i,i+1<xs.length→xs.getD i 0≤xs.getD (i+1) 0):=Classical.propDecidable _
theorem iy {l:List Int} {i:Nat} {x:Int} (h:l[i]? =some x):l.getD i 0=x:=by rw[aA,h];rfl
theorem zW {M:aC} {w0:World} {v:Value} {xs:List Int} (hv:((RT.int .i64).sl).V M w0 xs v) (td:0<xs.length):
  Spec Tryz.prog 157 #[v,.func (.func 66) #[] #[]] w0 (fun v' w'=>v'= .bool (decide (∀i,i+1<xs.length→xs.getD i 0≤xs.getD (i+1) 0))∧Step M w0 M w' aD):=by
 have hlen:=ei hv;refine bg (args:=[_,_]) (fn:=Tryz.f157) Tryz.func157 rfl (n:=25) Tryz.ntmps157 (aj (ae (ah rfl rfl (ab (aj (aj (ae (ad rfl rfl (bR an rfl hv rfl (fu rfl rfl rfl (by omega) (aU (v':= .int .i64 ((xs.length-1:Nat):Int)) (congrArg _ (by omega)) ?_)))))))))));refine ah rfl rfl (ab (aZ ?_));refine dn (σ:=Nat) (fun s=>[(0,v),(1,.func (.func 66) #[] #[]),(5,.int .i64 s)]) (fun s w=>s<xs.length∧(∀t,s≤t→t+1<xs.length→xs.getD t 0≤xs.getD (t+1) 0)∧Step M w0 M w aD) (fun s=>s) (xs.length-1) (.cons rfl (.cons rfl (.cons rfl .nil))) ?_ ?_
 ·exact⟨by omega,fun t h1 h2=>by omega,aw _ _⟩
 ·rintro k w1 ⟨hk,hs,S⟩;refine aj (aj (ae (ad rfl rfl (jv rfl rfl rfl (ab ?_)))));refine bN rfl (fun c2=>?_) (fun c2=>?_)
  ·refine aT (aj (aZ (aj ?_)));obtain⟨x,hx⟩:∃x,(xs)[k]? =some x:=⟨_,au (by omega)⟩;obtain⟨y,hy⟩:∃x,(xs)[k-1]? =some x:=⟨_,au (by omega)⟩;apply T.Kp 10 mixed rfl rfl rfl rfl rfl;intro wD4 YT;have AJ:=YT M;refine ad rfl rfl ?_;refine ab ⟨rfl,rfl,rfl,?_⟩;refine ad rfl rfl ?_;refine ab ⟨rfl,rfl,rfl,?_⟩;refine ad rfl rfl ?_;refine ab ⟨rfl,rfl,rfl,?_⟩;refine cE (M:=M) an I3 rfl rfl rfl ((hv.le S.le).le AJ.le) (aq _ _) (by first|omega|decide) (fun Ty VK NN aag=>?_);obtain rfl:x=VK:=du (aI (NN.symm.trans (by rw[ay];exact hx)));refine ab ⟨rfl,rfl,rfl,?_⟩;refine cb (M:=M) ax rfl rfl (by assumption) (by repeat (first|exact aq _ _|refine aY (bu (by assumption)) ?_)) (fun Sd=>?_);refine aU (v':= .int .i64 (x)) rfl ?_;replace Sd: -9223372036854775808≤(x:Int)∧x≤9223372036854775807:=Sd;refine ab ⟨rfl,rfl,rfl,?_⟩;refine ad rfl rfl ?_;refine ab ⟨rfl,rfl,rfl,?_⟩;refine ad rfl rfl ?_;refine ab ⟨rfl,rfl,rfl,?_⟩;refine fu rfl rfl rfl (by omega) ?_;refine ab ⟨rfl,rfl,rfl,?_⟩;refine cE (M:=M) an I3 rfl rfl rfl ((hv.le S.le).le AJ.le) (aq _ _) (by first|omega|decide) (fun arc ahz aah alF=>?_);obtain rfl:y=ahz:=du (aI (aah.symm.trans (by rw[show((k:Int)-1).toNat=k-1 from by omega];exact hy)));refine ab ⟨rfl,rfl,rfl,?_⟩;refine cb (M:=M) ax rfl rfl (by assumption) (by repeat (first|exact aq _ _|refine aY (bu (by assumption)) ?_)) (fun Sf=>?_);refine aU (v':= .int .i64 (y)) rfl ?_;replace Sf: -9223372036854775808≤(y:Int)∧y≤9223372036854775807:=Sf;refine ab ⟨rfl,rfl,rfl,?_⟩;refine eQ ?_;refine zy (first:=[]) (captured:=[]) rfl rfl rfl E66 tZ (fun r w1 h=>?_);obtain⟨rfl,rfl⟩:=h;refine cn rfl rfl rfl (ab ?_);refine bN rfl (fun c4=>?_) (fun c4=>?_)
   ·have hgt: ¬(y≤x):=fun h=>by
     first
     |omega
     |(split at c4<;>first|omega|(split at c4<;>omega))
    refine aj (ae (ah rfl rfl (ab (aQ ?_))))
    exact aV rfl rfl ⟨congrArg Value.bool (du (decide_eq_false fun h=>by
     have:=h (k-1) (by omega);rw[show k-1+1=k from by omega,iy hx,iy hy]at this;exact hgt this)),S.aB AJ⟩
   ·have hle:y≤x:=by
     first
     |omega
     |(split at c4<;>first|omega|(split at c4<;>omega))
    refine aT (ae (ad rfl rfl (fu rfl rfl rfl (by omega) (ah rfl rfl (ab ?_)))));refine⟨rfl,k-1,(.cons rfl (.cons rfl (.cons (congrArg (fun z=>some (Value.int .i64 z)) (by omega)) .nil))),?_,?_⟩
    ·refine⟨by omega,fun t h1 h2=>?_,S.aB AJ⟩;by_cases e:t=k-1
     ·subst e;rw[show k-1+1=k from by omega,iy hx,iy hy];exact hle
     ·exact hs t (by omega) h2
    ·show k-1<k;omega
  ·refine cI (aj (ae (ah rfl rfl (ab (aQ ?_)))));exact aV rfl rfl ⟨congrArg Value.bool (du (decide_eq_true fun i hi=>hs i (by omega) hi)),S⟩
theorem Et {M:aC} {w0:World} {v:Value} {xs:List Int} (hM:Lt M w0) (hv:((RT.int .i64).sl).V M w0 xs v) (hl:xs.length≤1099511627776):
  Spec Tryz.prog 51 #[v] w0 (fun v' w'=>∃M',Own (RT.int .i64) 3 M' w' w0.heap.size v' xs∧Lt M' w'∧Step M w0 M' w' aD):=by
 obtain⟨a,cap,lL,hc,hlen,hs⟩:=iz.1 hv;refine bg (args:=[_]) (fn:=Tryz.f51) Tryz.func51 rfl (n:=8) Tryz.ntmps51 (aj (ae (ah rfl rfl (ab (aj (aj (ae (ad rfl rfl (aU (v':= .slice a xs.length cap) lL (Rg.tu an rfl rfl rfl (ab ?_)))))))))));refine bN rfl (fun c1=>?_) (fun c1=>?_)
 ·refine aj (ae (ah rfl rfl (ab (aQ ?_))))
  obtain rfl:xs=[]:=by
   rcases hs with h|⟨b,o,h,_⟩
   ·exact h
   ·rw[c1]at h;cases h
  exact aV rfl rfl ⟨M,dz _ _ _ _ _,hM,aw _ _⟩
 ·refine aT (aj (ae ?_));refine Rg.Xz an I3 M rfl (fun g w1 z1 z1' g1 s1=>?_);have nC:=s1.lt hM;refine ad rfl rfl ?_;refine cX (M:=ins M g) (base:=w0.heap.size) an I3 rfl rfl rfl rfl (Own.empty g1 z1 (.inl rfl)) (hv.le s1.le) (aq _ _) (by simp;omega) (by simp;omega) (by have:=s1.size;omega) (fun v2 M2 w2 sM s2=>?_);refine ah rfl rfl (ab (aQ ?_));exact aV rfl rfl ⟨M2,by rw[fM]at sM;exact sM,s2.lt nC,s1.cf s2 (fun b hb=>by have hb:b=g:=(aI hb).symm;rw[hb];exact z1)⟩
theorem BY {M:aC} {w0:World} {base:Nat} {v:Value} {xs:List Int} (ho:Own (RT.int .i64) 3 M w0 base v xs) (hl:xs.length≤1099511627776):
  Spec Tryz.prog 158 #[v] w0 (fun v' w'=>∃a k cap,v'= .slice a k cap∧(k=xs.length↔(∀i,i+1<xs.length→xs.getD i 0≠xs.getD (i+1) 0))∧Step M w0 M w' (fC v)):=by
 refine bg (args:=[_]) (fn:=Tryz.f158) Tryz.func158 rfl (n:=61) Tryz.ntmps158 (aj (ae (ah rfl rfl (ab (aj (aj (ae (ad rfl rfl (fO an rfl ho rfl (cn rfl rfl rfl (ab ?_)))))))))));refine bN rfl (fun c1=>?_) (fun c1=>?_)
 ·refine aj (ae (ad rfl rfl (ah rfl rfl (ab (aQ ?_)))));obtain⟨a,cap,rfl,hc⟩:=ho.isSlice;exact aV rfl rfl ⟨a,xs.length,cap,rfl,⟨fun _ i hi=>by omega,fun _=>rfl⟩,(aw _ _).cF (fun _ h=>h.elim) (fun b hb=>ho.mut_ b hb)⟩
 ·obtain⟨g,cap,cur,rfl,SK,Qp,Ei⟩:=ho.uM (ho.BS (by omega));obtain⟨_,xC,WC,KU⟩:=ho.isSlice;simp only[fV]at WC;have lp:xs.length≤cap:=by omega
  have hN:∀b,b=g→fC (.slice (some ⟨g,0,none⟩) xs.length cap) b:=fun b hb=>by rw[hb];rfl
  refine aT (aj (aj (ae (ah rfl rfl (ab (aZ ?_))))));refine dn (σ:=Nat) (fun s=>[(0,.slice (some ⟨g,0,none⟩) xs.length cap),(3,.int .i64 s)]) (fun s w=>1≤s∧s≤xs.length∧(∀i,i+1<s→xs.getD i 0≠xs.getD (i+1) 0)∧Step M w0 M w aD) (fun s=>xs.length-s) 1 (.cons rfl (.cons rfl .nil)) ?_ ?_
  ·exact⟨aO _,by omega,fun i hi=>by omega,aw _ _⟩
  ·rintro k w1 ⟨tn,hk,j4,S⟩;refine aj (aj (ae (ad rfl rfl (ad rfl rfl (Rg.oM an rfl rfl (cn rfl rfl rfl (ab ?_)))))));refine bN rfl (fun c4=>?_) (fun c4=>?_)
   ·refine aT (aj (aZ (aj ?_)));obtain⟨a,hx⟩:∃x,(xs)[k]? =some x:=⟨_,au (by omega)⟩;obtain⟨b,hy⟩:∃x,(xs)[k-1]? =some x:=⟨_,au (by omega)⟩;apply uz mixed rfl rfl;intro wD6 sA6;have Cq:=sA6 M;refine ad rfl rfl ?_;refine ab ⟨rfl,rfl,rfl,?_⟩;refine ad rfl rfl ?_;refine ab ⟨rfl,rfl,rfl,?_⟩;refine vM (size:=1) an I3 rfl rfl rfl (by omega) (q:=k) (by rw[ay];omega) ?_;refine ab ⟨rfl,rfl,rfl,?_⟩;refine cb (M:=fun b=>M b∧b≠g) ax rfl rfl (((ho.aM S).aM Cq).KJ hx) (aq _ _) (fun kg=>?_);refine ab ⟨rfl,rfl,rfl,?_⟩;refine ad rfl rfl ?_;refine ab ⟨rfl,rfl,rfl,?_⟩;refine ad rfl rfl ?_;refine ab ⟨rfl,rfl,rfl,?_⟩;refine fu rfl rfl rfl (by omega) ?_;refine ab ⟨rfl,rfl,rfl,?_⟩;refine vM (size:=1) an I3 rfl rfl rfl (by omega) (q:=k-1) (by omega) ?_;refine ab ⟨rfl,rfl,rfl,?_⟩;refine cb (M:=fun b=>M b∧b≠g) ax rfl rfl (((ho.aM S).aM Cq).KJ hy) (aq _ _) (fun kg=>?_);refine ab ⟨rfl,rfl,rfl,?_⟩;refine tc rfl rfl rfl ?_;refine ab ⟨rfl,rfl,rfl,?_⟩;refine eQ ?_;refine bN rfl (fun c6=>?_) (fun c6=>?_)
    ·refine aj (ae (ad rfl rfl (ad rfl rfl (Rg.KH an I3 rfl rfl rfl (by omega) (aU (v':= .slice (some ⟨g,k,none⟩) (xs.length-k) (cap-k)) (by rw[ay,eK]) (ah rfl rfl (ab (aj (aj (ae (ah rfl rfl ?_)))))))))));refine ab (aZ ?_);refine dn (σ:=Nat×Nat) (fun s=>[(0,.slice (some ⟨g,0,none⟩) xs.length cap),(3,.int .i64 s.2),(4,.slice (some ⟨g,k,none⟩) (xs.length-k) (cap-k)),(5,.int .i64 s.1)]) (fun s w=>1≤s.1∧s.1≤xs.length-k∧k≤s.2∧s.2+1≤k+s.1∧∃ys,Own (RT.int .i64) 3 M w base (.slice (some ⟨g,0,none⟩) xs.length cap) ys∧ys.length=xs.length∧Step M w0 M w (fC (.slice (some ⟨g,0,none⟩) xs.length cap))) (fun s=>xs.length-k-s.1) (1,k) (.cons rfl (.cons rfl (.cons rfl (.cons rfl .nil)))) ?_ ?_
     ·exact⟨aO _,by simp only;omega,aO _,aO _,xs,(ho.aM S).aM Cq,rfl,(S.aB Cq).cF (fun _ h=>h.elim) (fun b hb=>ho.mut_ b hb)⟩
     ·rintro⟨k2,kk⟩ w2 ⟨h21,h22,ahA,ahB,ys,sM,Fk,S2⟩;dsimp only at h21 h22 ahA ahB sM ⊢;refine aj (aj (ae (ad rfl rfl (ad rfl rfl (Rg.oM an rfl rfl (cn rfl rfl rfl (ab ?_)))))));refine bN rfl (fun c9=>?_) (fun c9=>?_)
      ·refine aT (aj (aZ (aj ?_)));obtain⟨a2,hx⟩:∃x,(ys)[k+k2]? =some x:=⟨_,au (by omega)⟩;obtain⟨b2,hy⟩:∃x,(ys)[k+k2-1]? =some x:=⟨_,au (by omega)⟩;apply uz mixed rfl rfl;intro Mv Mw;have je:=Mw M;refine ad rfl rfl ?_;refine ab ⟨rfl,rfl,rfl,?_⟩;refine ad rfl rfl ?_;refine ab ⟨rfl,rfl,rfl,?_⟩;refine vM (size:=1) an I3 rfl rfl rfl (by omega) (q:=k+k2) (by rw[ay];omega) ?_;refine ab ⟨rfl,rfl,rfl,?_⟩;refine cb (M:=fun b=>M b∧b≠g) ax rfl rfl ((sM.aM je).KJ hx) (aq _ _) (fun kg=>?_);refine ab ⟨rfl,rfl,rfl,?_⟩;refine ad rfl rfl ?_;refine ab ⟨rfl,rfl,rfl,?_⟩;refine ad rfl rfl ?_;refine ab ⟨rfl,rfl,rfl,?_⟩;refine fu rfl rfl rfl (by omega) ?_;refine ab ⟨rfl,rfl,rfl,?_⟩;refine vM (size:=1) an I3 rfl rfl rfl (by omega) (q:=k+k2-1) (by omega) ?_;refine ab ⟨rfl,rfl,rfl,?_⟩;refine cb (M:=fun b=>M b∧b≠g) ax rfl rfl ((sM.aM je).KJ hy) (aq _ _) (fun kg=>?_);refine ab ⟨rfl,rfl,rfl,?_⟩;refine fe rfl rfl rfl ?_;refine ab ⟨rfl,rfl,rfl,?_⟩;refine eQ ?_;refine bN rfl (fun FB=>?_) (fun FB=>?_)
       ·refine aj (ae (ad rfl rfl (ad rfl rfl (ad rfl rfl (ad rfl rfl (vM (size:=1) an I3 rfl rfl rfl (by omega) (q:=k+k2) (by rw[ay];omega) ?_))))));refine cb (M:=fun b=>M b∧b≠g) ax rfl rfl ((sM.aM je).KJ hx) (aq _ _) (fun kg=>?_);refine vM (size:=1) an I3 rfl rfl rfl (by omega) (q:=kk) (by rw[ay];omega) ?_;refine Rg.KI (M:=M) I3 rfl rfl (sM.aM je) (by omega) kg (fun w5 ho5 s5=>?_);refine ab (ae (ad rfl rfl (bD rfl rfl rfl (by omega) (ah rfl rfl (ab (ae (ad rfl rfl (bD rfl rfl rfl (by omega) (ah rfl rfl (ab ?_))))))))));refine⟨rfl,(k2+1,_),(.cons rfl (.cons rfl (.cons rfl (.cons rfl .nil)))),?_,?_⟩
        ·first
         |exact⟨by simp only;omega,by simp only;omega,by simp only;omega,by simp only;omega,_,ho5,by rw[fm];exact Fk,(S2.aB je).trans s5 (fun b _ hb=>hN b hb)⟩
         |exact⟨by simp only;omega,by simp only;omega,by simp only;omega,by simp only;omega,ys,sM.aM je,Fk,S2.aB je⟩
        ·simp only;omega
       ·refine aT (ae (ad rfl rfl (bD rfl rfl rfl (by omega) (ah rfl rfl (ab ?_)))));refine⟨rfl,(k2+1,_),(.cons rfl (.cons rfl (.cons rfl (.cons rfl .nil)))),?_,?_⟩
        ·first
         |exact⟨by simp only;omega,by simp only;omega,by simp only;omega,by simp only;omega,_,ho5,by rw[fm];exact Fk,(S2.aB je).trans s5 (fun b _ hb=>hN b hb)⟩
         |exact⟨by simp only;omega,by simp only;omega,by simp only;omega,by simp only;omega,ys,sM.aM je,Fk,S2.aB je⟩
        ·simp only;omega
      ·refine cI (aj (ae (ad rfl rfl (ad rfl rfl (Rg.KH an I3 rfl rfl rfl (by omega) (aU (v':= .slice (some ⟨g,kk,none⟩) (xs.length-kk) (cap-kk)) (by rw[ay,eK]) ?_))))));refine Rg.Tp (M:=M) an I3 rfl sM (by omega) (by omega) (by decide) (fun w6 tJ s6=>?_);refine ab (aj (ae (ad rfl rfl (ad rfl rfl (Rg.Tk an I3 rfl rfl rfl (by omega) (aU (v':= .slice (some ⟨g,0,none⟩) kk cap) (by rw[ay]) (ah rfl rfl (ab (aQ ?_)))))))));exact aV rfl rfl ⟨_,kk,cap,rfl,⟨fun h=>by omega,fun h=>absurd (h (k-1) (by omega)) (by rw[show k-1+1=k from by omega,iy hy,iy hx];exact fun h=>h c6.symm)⟩,S2.trans s6 (fun b _ hb=>hN b hb)⟩
    ·refine aT (ae (ad rfl rfl (bD rfl rfl rfl (by omega) (ah rfl rfl (ab ?_)))));refine⟨rfl,k+1,(.cons rfl (.cons rfl .nil)),?_,?_⟩
     ·refine⟨by omega,by omega,fun i hi=>?_,S.aB Cq⟩;by_cases e:i+1=k
      ·rw[e,iy hx,show i=k-1 from by omega,iy hy];exact fun h=>c6 h.symm
      ·exact j4 i (by omega)
     ·show xs.length-(k+1)<xs.length-k;omega
   ·refine cI (aj (ae (ad rfl rfl (ah rfl rfl (ab (aQ ?_))))));exact aV rfl rfl ⟨_,xs.length,cap,rfl,⟨fun _ i hi=>j4 i (by omega),fun _=>rfl⟩,S.cF (fun _ h=>h.elim) (fun b hb=>ho.mut_ b hb)⟩
end Go.K
namespace Go.K
open Go.Proofs
namespace TKSortP
theorem E65:Enters Tryz.prog 65:=enters Tryz.func65 rfl (by decide)
theorem E66:Enters Tryz.prog 66:=enters Tryz.func66 rfl (by decide)
end TKSortP
open TKSortP
set_option maxRecDepth 10000
open Go.Proofs Go.Sort
abbrev J4 (a:Int) (u:Value):Obj:= .cells #[.int .i64 a,u] 83 (0,0)
theorem Qy {a b:Int} {u v:Value} (w0:World) (hu:u.oneCell'=true) (hv:v.oneCell'=true):
  Spec Tryz.prog 65 #[.agg #[.int .i64 a,u],.agg #[.int .i64 b,v]] w0 (fun r w=>r= .int .i64 (if a<b then-1 else if a>b then 1 else 0)∧w=(w0.alloc (J4 a u)).alloc (J4 b v)):=by
 refine bg (args:=[_,_]) (fn:=Tryz.f65) Tryz.func65 rfl (n:=10) Tryz.ntmps65 (aj (ae (Rg.LQ rfl rfl ?_)));change Rg _ _ _ _ _ _ _ (w0.alloc (J4 a u)) _;refine Rg.LQ rfl rfl ?_;change Rg _ _ _ _ _ _ _ ((w0.alloc (J4 a u)).alloc (J4 b v)) _;have ga:((w0.alloc (J4 a u)).alloc (J4 b v)).heap[w0.heap.size]? =some (J4 a u):=(cQ aD _ _).aK (ch w0 _);have gb:=ch (w0.alloc (J4 a u)) (J4 b v);refine ah rfl rfl (ab (aj (ae (bO (o':=0) bW rfl rfl I3 (by decide) rfl rfl (aP ax rfl rfl rfl ga rfl (aU (v':= .int .i64 a) rfl (bO (o':=0) bW rfl rfl I3 (by decide) rfl rfl (aP ax rfl rfl rfl gb rfl (aU (v':= .int .i64 b) rfl ?_)))))))));refine aW rfl rfl E66 tZ (fun r7 w7 hc=>?_);obtain⟨rfl,rfl⟩:=hc;refine ah rfl rfl (ab (aQ ?_));exact aV rfl rfl ⟨rfl,rfl⟩
abbrev TP (ps:List (Po×Value)):Type:={q:Po×Value // q∈ps}
def xd {ps:List (Po×Value)} (x:TP ps):List Value:=[.int .i64 x.1.1.1,x.1.2]
def Qz {ps:List (Po×Value)} (x y:TP ps):Int:=if x.1.1.1<y.1.1.1 then-1 else if x.1.1.1>y.1.1.1 then 1 else 0
theorem o6 {ps:List (Po×Value)} (x y:TP ps):Qz x y<0↔x.1.1.1<y.1.1.1:=by
 unfold Qz;by_cases h:x.1.1.1<y.1.1.1
 ·rw[if_pos h];exact⟨fun _=>h,fun _=>by omega⟩
 ·rw[if_neg h];by_cases h2:x.1.1.1>y.1.1.1
  ·rw[if_pos h2];exact⟨fun h3=>by omega,fun h3=>absurd h3 h⟩
  ·rw[if_neg h2];exact⟨fun h3=>by omega,fun h3=>absurd h3 h⟩
theorem QA {ps:List (Po×Value)}:SWO (Go.Proofs.ltOf (Qz (ps:=ps))) where
 irrefl x:=by simp only[Go.Proofs.ltOf,decide_eq_false_iff_not,o6];omega
 trans x y z h1 h2:=by simp only[Go.Proofs.ltOf,decide_eq_true_eq,o6]at*;omega
 ntrans x y z h1 h2:=by simp only[Go.Proofs.ltOf,decide_eq_false_iff_not,o6]at*;omega
theorem ahC (w:World):(isAgg 83).run Tryz.prog w= .ok true w:=by simp[isAgg,cj,run_underlying bW]
theorem aai (w:World):(Go.sizeOf 83).run Tryz.prog w= .ok 2 w:=by
 obtain⟨i,h1,_,h2,_⟩:=oO.get;simp[Go.sizeOf,typeInfo,cj,program,Sem.run,h1,h2]
theorem NO {ps:List (Po×Value)} [Inhabited (TP ps)] (h1:∀q∈ps,q.2.oneCell'=true) (fC off size:Nat) (w:World):CmpLays Tryz.prog 65 #[] (xd (ps:=ps)) 2 Qz fC off size w:=fun m os dk hs x y=>
 (show Calls Tryz.prog 65 #[.agg #[.int .i64 x.1.1.1,x.1.2],.agg #[.int .i64 y.1.1.1,y.1.2]] (sortWorldK xd 2 w fC off m dk os) (fun e w'=>∃v,e= .returned v∧_∧_)from Qy (a:=x.1.1.1) (b:=y.1.1.1) _ (h1 _ x.2) (h1 _ y.2)).mono fun e w' ⟨v,h1,h2,h3⟩=>⟨by rw[h1,h2];rfl,0,#[J4 x.1.1.1 x.1.2,J4 y.1.1.1 y.1.2],by rw[h3];simp only[yr,Go.Sort.grow_grow];rfl⟩
theorem aaj {ps:List (Po×Value)} [Inhabited (TP ps)] (h1:∀q∈ps,q.2.oneCell'=true) (VL:∀a∈ps,∀b∈ps,a.1.1=b.1.1→a=b) (fC off cap:Nat) (d:Array (TP ps)) (w:World) (hH:HoldsK xd 2 w fC off d) (hblk:fC<w.heap.size) (jI:d.size<4611686018427387904):
  Spec Tryz.prog 64 #[.slice (some ⟨fC,off,none⟩) d.size cap,.func (.func 65) #[] #[]] w (fun v w'=>v= .tuple #[]∧∃n os,w'=sortWorldK xd 2 w fC off n (d.toList.mergeSort fun x y=> !(Go.Proofs.ltOf Qz) y x).toArray os):=by
 exact(Go.Proofs.AnyQ.slices_SortFunc_total Tryz.VJ 2 ahC aai xd (fun _=>rfl) (fun x v hv=>by simp[xd]at hv;rcases hv with rfl|rfl<;>first|rfl|exact h1 _ x.2) Qz QA 65 #[] fC off cap d w E65 (NO h1 fC off d.size w) hH hblk jI (fun x y h1 h2=>by
  simp only[Go.Proofs.ltOf,decide_eq_false_iff_not,o6]at h1 h2;exact Subtype.ext (VL _ x.2 _ y.2 (by omega)))).mono fun e w' ⟨h1,h2⟩=>⟨_,h1,rfl,h2⟩
theorem H4 {M:aC} {w:World}:∀{l:List Po} {C:List Value},dZ RT.po M w l C→∃ps:List (Po×Value),ps.map (·.1)=l∧C=ps.flatMap (fun q=>[.int .i64 q.1.1,q.2])∧∀q∈ps,RT.po.R M w q.1 [.int .i64 q.1.1,q.2]
 |[],C,h=>⟨[],rfl,h,fun q h=>by cases h⟩
 |x::l,C,⟨vs,r,h1,h2,h3⟩=>by
  obtain⟨ps,h4,h5,h6⟩:=H4 h3;obtain⟨va,vb,rfl,⟨rfl,hk⟩,hb⟩:=h2;have Hc:=hb;obtain⟨a,cap,rfl,_⟩:=hb;refine⟨(x,.slice a x.2.length cap)::ps,by simp[h4],by rw[h1,h5];rfl,fun q hq=>?_⟩;rcases cd.1 hq with rfl|hq
  ·exact⟨_,_,rfl,⟨rfl,hk⟩,Hc⟩
  ·exact h6 q hq
theorem Eu {M:aC} {w:World}:∀{ps:List (Po×Value)},(∀q∈ps,RT.po.R M w q.1 [.int .i64 q.1.1,q.2])→dZ RT.po M w (ps.map (·.1)) (ps.flatMap fun q=>[.int .i64 q.1.1,q.2])
 |[],_=>rfl
 |q::ps,h=>⟨_,_,rfl,h q (bK ..),Eu fun q hq=>h q (bZ _ hq)⟩
theorem Ev {M:aC} {base:Nat} {v:Value} {l:List Po} (w0:World) (ho:Own RT.po 83 M w0 base v l) (eN:l.Pairwise fun a b=>a.1≠b.1) (h0:0<l.length) (hl:l.length≤100000000):
  Spec Tryz.prog 64 #[v,.func (.func 65) #[] #[]] w0 (fun r w=>r= .tuple #[]∧∃s:List Po,s.Perm l∧(s.Pairwise fun a b=>a.1≤b.1)∧Own RT.po 83 M w base v s∧Step M w0 M w (fC v)):=by
 have arj:=ho.mut_;obtain⟨⟨C,⟨hC,hr⟩,hA⟩,hm⟩:=ho;rcases hr with⟨rfl,h0'⟩|⟨g,cap,cur,rfl,hb,hg,hle,Uu,JY,qT⟩
 ·omega
 ·obtain⟨ps,rfl,rfl,j9⟩:=H4 hA;have rX:∀q∈ps,q.2.oneCell'=true:=fun q hq=>RT.po.one (j9 q hq) _ (by simp)
  have OQ:=cA.1 eN
  have VL:∀a∈ps,∀b∈ps,a.1.1=b.1.1→a=b:=fun a ha b hb e=>by
   obtain⟨i,hi,rfl⟩:=wL.1 ha;obtain⟨j,hj,rfl⟩:=wL.1 hb;rcases fa i j with h|h|h
   ·exact absurd e ((cD.1 OQ) i j hi hj h)
   ·subst h;rfl
   ·exact absurd e.symm ((cD.1 OQ) j i hj hi h)
  rw[aH]at h0 hl hle qT hC
  haveI:Inhabited (TP ps):=⟨⟨ps[0],uA _⟩⟩
  obtain⟨d,hd⟩:∃d:Array (TP ps),d.toList.map (·.1)=ps:=⟨ps.attach.toArray,by rw[List.toList_toArray];exact List.attach_map_subtype_val ps⟩;have jI:d.size=ps.length:=by have:=congrArg List.length hd;simpa using this
  have hk:∀x:TP ps,(xd x).length=2:=fun _=>rfl
  have FZ:∀t:List (TP ps),(t.map (·.1)).flatMap (fun q:Po×Value=>[Value.int .i64 q.1.1,q.2])=t.flatMap xd:=fun t=>by rw[List.flatMap_map];rfl
  have e2:RT.po.n=2:=rfl;rw[e2]at qT JY hC;have hH:HoldsK xd 2 w0 g 0 d:=Ay hk (by omega) hg (by rw[jI,qT,←FZ,hd]);have hs:=aaj rX VL g 0 cap d w0 hH (ak hg) (by omega);rw[jI]at hs;rw[aH];refine hs.mono fun r w' ⟨h1,n,os,h2⟩=> ?_
  have hp:=jd d.toList fun x y=> !(ltOf Qz) y x
  have QB:(d.toList.mergeSort fun x y=> !(ltOf Qz) y x).Pairwise fun a b=>a.1.1.1≤b.1.1.1:=by
   refine(List.pairwise_mergeSort (fun a b c h1 h2=>?_) (fun a b=>?_) _).imp fun h=>?_
   ·simp only[ltOf,iV,decide_eq_false_iff_not,o6]at*;omega
   ·simp only[ltOf,jT,iV,decide_eq_false_iff_not,o6];omega
   ·simp only[ltOf,iV,decide_eq_false_iff_not,o6]at h;omega
  generalize (d.toList.mergeSort fun x y=> !(ltOf Qz) y x)=us at hp QB h2;have JZ:(us.map (·.1)).length=ps.length:=by rw[aH,hp.length_eq,zp,jI]
  have zC:us.toArray.size*2=ps.length*2:=by rw[←JZ];simp
  have ky:Step M w0 M w' (fC (.slice (some ⟨g,0,none⟩) ps.length cap)):=by
   have hgm:M g:=hm g (by rw[aH];rfl);have s:=pB (enc:=xd (ps:=ps)) (k:=2) (w:=w0) (g:=g) (n:=n) (d:=us.toArray) (os:=os);rw[←h2]at s;exact⟨fun h b hb=>jy (h b hb) s.size,s.os,s.tape,s.output,s.size,fun _ _=>Iff.rfl,fun b hb hn=>s.same b hb (fun e=>hn (by have e:b=g:=e;subst e;rfl)),fun b hb=>by have hb:some g=some b:=hb;cases hb;exact hgm⟩
  refine⟨h1,(us.map (·.1)).map (·.1),?_,?_,⟨⟨(us.map (·.1)).flatMap (fun q:Po×Value=>[Value.int .i64 q.1.1,q.2]),⟨?_,.inr ⟨g,cap,putCells id 0 (flatK xd 2 us.toArray) cur,by rw[aH,JZ],hb,by rw[h2];exact rD hg,by rw[aH,JZ];exact hle,Uu,by rw[e2,←JY];simp[putCells],?_⟩⟩,?_⟩,fun b hb=>hm b (by rw[aH];exact hb)⟩,ky⟩
  ·have:=(hp.map (·.1)).map (·.1);rw[hd]at this;exact this
  ·exact cA.2 (cA.2 QB)
  ·rw[FZ,mY hk,aH,aH,e2]
  ·rw[FZ,aH,JZ,e2,←zC,←size_flatK xd,rE (by rw[size_flatK,zC,JY];omega),tK hk (by omega)]
  ·refine Eu fun q hq=> ?_
   obtain⟨x,hx,rfl⟩:=ca.1 hq;exact RT.po.le (fun b hb xi=>⟨xi,ky.same b hb fun e=>xi (ky.sub b e)⟩) (j9 x.1 x.2)
end Go.K
namespace Go.Proofs
open Go.Shelf
def Tryz.BZ:Go.Shelf.Ren:=⟨fun|44=>163|n=>n,fun|25=>57|26=>9|3=>3|4=>4|0=>0|n=>n,fun|n=>n⟩
theorem Tryz.Ew:Go.Proofs.SlLaysN.n44 Tryz.prog Tryz.BZ:={
 mixed:=by kernel_rfl
 f44:=⟨Tryz.f163.name,by decide,Tryz.func163.trans (congrArg some (by kernel_rfl))⟩
 t0:=fG
 a0:=lA
 z0:=jZ
 v0:=gG
 t3:=ax
 a3:=lB
 z3:=j0
 v3:=gH
 t4:=ey
 a4:=rh
 z4:=nF
 v4:=jx
 t25:=aS
 a25:=Tryz.isAgg57
 z25:=Tryz.sizeOf57
 v25:=Tryz.zeroValue57
 t26:=aJ
 a26:=lC
 z26:=j3
 v26:=gI
 i26:=by kernel_rfl}
def Tryz.vB:Go.Shelf.Ren:=⟨fun|4=>216|n=>n,fun|22=>57|25=>9|3=>3|4=>4|9=>9|20=>20|0=>0|n=>n,fun|n=>n⟩
theorem Tryz.Si:Go.Proofs.Lays8.n4 Tryz.prog Tryz.vB:={
 mixed:=by kernel_rfl
 f4:=⟨Tryz.f216.name,by decide,Tryz.func216.trans (congrArg some (by kernel_rfl))⟩
 t0:=fG
 a0:=lA
 z0:=jZ
 v0:=gG
 t3:=ax
 a3:=lB
 z3:=j0
 v3:=gH
 t4:=ey
 a4:=rh
 z4:=nF
 v4:=jx
 t9:=aJ
 a9:=lC
 z9:=j3
 v9:=gI
 t20:=Tryz.underlying20
 a20:=Tryz.isAgg20
 z20:=Tryz.sizeOf20
 v20:=Tryz.zeroValue20
 t22:=aS
 a22:=Tryz.isAgg57
 z22:=Tryz.sizeOf57
 v22:=Tryz.zeroValue57}
end Go.Proofs
namespace Go.K
open Go.Sort Go.Proofs
section
variable {α:Type} [Inhabited α] {enc:α→Value}
theorem AX {w:World} {g n:Nat} {cur:Array Value} {e:TypeId} {d:Array α} {os:Array Obj} (hg:w.heap[g]? =some (.cells cur e (0,0))):(grow (putRow enc (Go.Sort.ahead w n) g 0 d) os).heap[g]? =some (.cells (putCells enc 0 d cur) e (0,0)):=by
 have dQ:g<w.heap.size:=ak hg
 have h1:(w.heap.modify g (onCells (putCells enc 0 d)))[g]? =some (.cells (putCells enc 0 d cur) e (0,0)):=by
  rw[jE,if_pos rfl,hg];rfl
 show((w.heap.modify g (onCells (putCells enc 0 d)))++os)[g]? =_;rw[Array.getElem?_append_left (by simpa using dQ)];exact h1
theorem wC {w:World} {g n:Nat} {d:Array α} {os:Array Obj}:Step allM w allM (grow (putRow enc (Go.Sort.ahead w n) g 0 d) os) (fun b=>b=g):=
 ⟨fun h=>absurd (h w.heap.size trivial) (ju _),rfl,rfl,rfl,by show _≤((w.heap.modify g _)++os).size;simp,fun _ _=>Iff.rfl,fun b hb hn=>by
  have hn: ¬b=g:=hn;show((w.heap.modify g (onCells (putCells enc 0 d)))++os)[b]? =_;rw[Array.getElem?_append_left (by simpa using hb),jE,if_neg (fun h=>hn h.symm)],fun _ _=>trivial⟩
theorem qB {d:Array α} {cur:Array Value} {m:Nat} (h:d.size≤cur.size) (hm:m≤d.size):(putCells enc 0 d cur).toList.take m=(d.toList.map enc).take m:=by
 apply eZ;intro j;rw[cp,cp];by_cases hj:j<m
 ·have h1:j<d.size:=by omega
  have h2:j<cur.size:=by omega
  rw[if_pos hj,if_pos hj];simp[putCells,h1,h2]
 ·rw[if_neg hj,if_neg hj]
theorem holds_of {w:World} {g:Nat} {cur:Array Value} {e:TypeId} {d:Array α} (hg:w.heap[g]? =some (.cells cur e (0,0))) (hC:cur.toList.take d.size=d.toList.map enc):Holds enc w g 0 d:=fun j hj=>by
 have h1:(cur.toList.take d.size)[j]? =(d.toList.map enc)[j]? :=by rw[hC]
 rw[cp,if_pos hj,bm,Array.getElem?_toList,Array.getElem?_toList,Array.getElem?_eq_getElem hj,db]at h1;constructor
 ·simp[World.cell?,hg,h1,hj]
 ·simp[World.frozen?,hg]
end
theorem y6:∀{xs:List (List UInt8)} {C:List Value} {M:aC} {w:World},dZ RT.str M w xs C→C=xs.map encStr∧∀x∈xs,x.length≤140737488355328
 |[],C,_,_,h=>⟨h,fun x hx=>by cases hx⟩
 |x::xs,C,_,_,⟨vs,r,h1,h2,h3⟩=>by
  obtain⟨h4,h5⟩:=y6 h3;obtain⟨h6,h7⟩:=h2;refine⟨by rw[h1,h4,h6];rfl,fun y hy=>?_⟩;rcases cd.1 hy with rfl|hy
  ·exact h7
  ·exact h5 y hy
theorem vC {M:aC} {w:World}:∀{xs:List (List UInt8)},(∀x∈xs,x.length≤140737488355328)→dZ RT.str M w xs (xs.map encStr)
 |[],_=>rfl
 |x::xs,h=>⟨[encStr x],_,rfl,⟨rfl,h x (bK ..)⟩,vC fun y hy=>h y (bZ _ hy)⟩
theorem y7 {d:Array (List UInt8)} (hs:∀i j,i≤j→j<d.size→¬d[j]! <d[i]!):∀m,m≤d.size→(Go.Lib.compactUpTo d m).Pairwise (fun a b=>a<b)∧(∀x∈Go.Lib.compactUpTo d m,∃j,j<m∧x=d[j]!)∧∀j,j<m→d[j]! ∈Go.Lib.compactUpTo d m
 |0,_=>⟨List.Pairwise.nil,(fun x h=>by cases h),fun j h=>by omega⟩
 |m+1,hm=>by
  obtain⟨h1,h2,h3⟩:=y7 hs m (by omega);rw[Go.Lib.compactUpTo_succ]
  cases hk:Go.Lib.keeps d m with
  |true=>
   rw[if_pos rfl];have eN:m=0∨d[m]! ≠d[m-1]! :=by simpa[Go.Lib.keeps]using hk
   refine⟨ng.2 ⟨h1,by simp,fun a ha b hb=>?_⟩,fun x hx=>?_,fun j hj=>?_⟩
   ·rw[bH]at hb;subst hb;obtain⟨j,hj,rfl⟩:=h2 a ha;have h4:=hs j m (by omega) (by omega);rcases jK d[j]! d[m]! with h|h|h
    ·exact h
    ·exfalso;have h5:=hs j (m-1) (by omega) (by omega);have h6:=hs (m-1) m (by omega) (by omega);rcases eN with h0|h0
     ·omega
     ·rcases jK d[m-1]! d[m]! with h7|h7|h7
      ·rw[←h]at h7;exact h5 h7
      ·exact h0 h7.symm
      ·exact h6 h7
    ·exact absurd h h4
   ·rcases cq.1 hx with hx|hx
    ·obtain⟨j,hj,e⟩:=h2 x hx;exact⟨j,by omega,e⟩
    ·exact⟨m,by omega,bH.1 hx⟩
   ·rcases cy j m with h|h
    ·exact gw _ (h3 j h)
    ·obtain rfl:j=m:=by omega
     exact List.mem_append_right _ (bH.2 rfl)
  |false=>
   rw[if_neg (by simp),fP];have he:m≠0∧d[m]! =d[m-1]! :=by simpa[Go.Lib.keeps]using hk
   refine⟨h1,fun x hx=>?_,fun j hj=>?_⟩
   ·obtain⟨j,hj,e⟩:=h2 x hx;exact⟨j,by omega,e⟩
   ·rcases cy j m with h|h
    ·exact h3 j h
    ·obtain rfl:j=m:=by omega
     rw[he.2];exact h3 _ (by omega)
def jt (ks:List (List (List UInt8))):List (List UInt8):=Go.Lib.compact (ks.flatten.mergeSort fun x y=>decide (x≤y))
theorem y8 (ks:List (List (List UInt8))):(jt ks).Pairwise (fun a b=>a<b)∧∀x,x∈jt ks↔∃l∈ks,x∈l:=by
 have Sj:(ks.flatten.mergeSort fun x y=>decide (x≤y)).Pairwise fun a b=>¬b<a:=by
  refine(List.pairwise_mergeSort (fun a b c h1 h2=>?_) (fun a b=>?_) _).imp fun h=>?_
  ·simp only[decide_eq_true_eq]at*
   intro h3;rcases jK b c with h|h|h
   ·exact h1 (lW h h3)
   ·subst h;exact h1 h3
   ·exact h2 h
  ·simp only[jT,decide_eq_true_eq];rcases jK a b with h|h|h
   ·exact .inl fun h'=>absurd h' (iT h)
   ·subst h;exact .inl (ja _)
   ·exact .inr fun h'=>absurd h' (iT h)
  ·simp only[decide_eq_true_eq]at h;exact h
 generalize hz:(ks.flatten.mergeSort fun x y=>decide (x≤y))=zs at Sj
 have eL:∀x,x∈zs↔∃l∈ks,x∈l:=fun x=>by
  rw[←hz,(jd _ _).mem_iff,List.mem_flatten]
 obtain⟨h1,h2,h3⟩:=y7 (d:=zs.toArray) (fun i j jf hj=>by
  have hj':j<zs.length:=by simpa using hj
  have iw:i<zs.length:=by omega
  rw[getElem!_pos _ i (by simpa using iw),getElem!_pos _ j hj];rcases cy i j with h|h
  ·simpa using(cD.1 Sj) i j iw hj' h
  ·obtain rfl:i=j:=by omega
   exact ja _) zs.length (by simp)
 have e:jt ks=Go.Lib.compactUpTo zs.toArray zs.length:=by unfold jt Go.Lib.compact;rw[hz]
 rw[e];refine⟨h1,fun x=>?_⟩;rw[←eL];constructor
 ·intro hx;obtain⟨j,hj,rfl⟩:=h2 x hx;rw[getElem!_pos _ j (by simpa using hj)];simp
 ·intro hx;obtain⟨j,hj,rfl⟩:=wL.1 hx;have:=h3 j hj
  rwa [getElem!_pos _ j (by simpa using hj),List.getElem_toArray]at this
theorem JE (ks:List (List (List UInt8))):(jt ks).length≤ks.flatten.length:=by
 have h:=(y8 ks).1.imp (S:=fun a b=>a≠b) fun h e=>by subst e;exact ja _ h
 exact List.Nodup.length_le_of_subset h fun x hx=>by
  obtain⟨l,hl,hx⟩:=((y8 ks).2 x).1 hx;exact List.mem_flatten.2 ⟨l,hl,hx⟩
end Go.K
namespace Go.K
open Go.Proofs
set_option maxRecDepth 10000
open Go.Proofs Go.Sort
theorem na:zU RT.str:=fun _ _ _ _ _ _ h=>h
theorem JF {base:Nat} {v:Value} {ts:List (List UInt8)} (w0:World) (ho:Own RT.str 9 allM w0 base v ts) (hl:ts.length≤100000000):
  Spec Tryz.prog 141 #[v] w0 (fun r w=>r= .tuple #[]∧Own RT.str 9 allM w base v (ts.mergeSort fun x y=>decide (x≤y))∧Step allM w0 allM w (mL v)):=by
 obtain⟨⟨C,⟨hC,hr⟩,hA⟩,hm⟩:=ho;rcases hr with⟨rfl,h0⟩|⟨g,cap,cur,rfl,hb,hg,hle,Uu,JY,qT⟩
 ·have Kr:ts=[]:=cT.1 h0;subst Kr;exact(AnyM.slices_Sort_string_none Tryz.HJ none 0 w0).mono fun e w' ⟨h1,h2⟩=>⟨_,h1,rfl,by rw[List.mergeSort_nil];exact dz _ _ _ _ _,by rw[h2];exact(aw allM w0).cF (fun _ h=>h.elim) (fun _ _=>trivial)⟩
 ·obtain⟨rfl,jI⟩:=y6 hA;have e1:RT.str.n=1:=rfl;rw[e1,eK]at qT JY;have hH:Holds encStr w0 g 0 ts.toArray:=holds_of hg (by simpa using qT);refine(AnyM.slices_Sort_string Tryz.HJ g 0 cap ts w0 hH (ak hg) (by omega)).mono fun e w' ⟨h1,n,os,h2⟩=>⟨_,h1,rfl,?_,?_⟩
  ·rw[h2];have hp:=jd ts fun x y=>decide (x≤y)
   generalize (ts.mergeSort fun x y=>decide (x≤y))=us at hp;have JZ:us.length=ts.length:=hp.length_eq;refine⟨⟨us.map encStr,⟨by simp[e1],.inr ⟨g,cap,_,by rw[JZ],hb,AX hg,by omega,Uu,by rw[e1,eK,←JY];simp[putCells],?_⟩⟩,vC fun x hx=>jI x (hp.mem_iff.1 hx)⟩,fun _ _=>trivial⟩;rw[e1,eK,qB (by simp;omega) (by simp),bc (by simp)]
  ·rw[h2];exact wC.cF (fun b hb=>by have hb:b=g:=hb;subst hb;rfl) (fun _ _=>trivial)
theorem JG {base:Nat} {v:Value} {ts:List (List UInt8)} (w0:World) (ho:Own RT.str 9 allM w0 base v ts) (hl:ts.length≤100000000):
  Spec Tryz.prog 163 #[v] w0 (fun r w=>Own RT.str 9 allM w base r (Go.Lib.compact ts)∧Step allM w0 allM w (mL v)):=by
 obtain⟨⟨C,⟨hC,hr⟩,hA⟩,hm⟩:=ho;rcases hr with⟨rfl,h0⟩|⟨g,cap,cur,rfl,hb,hg,hle,Uu,JY,qT⟩
 ·have Kr:ts=[]:=cT.1 h0;subst Kr;exact(AnyG.slices_Compact_string_empty Tryz.Ew none 0 w0).mono fun e w' ⟨h1,h2⟩=>⟨_,h1,dz _ _ _ _ _,by rw[h2];exact(aw allM w0).cF (fun _ h=>h.elim) (fun _ _=>trivial)⟩
 ·obtain⟨rfl,jI⟩:=y6 hA;have e1:RT.str.n=1:=rfl;rw[e1,eK]at qT JY;have hH:Holds encStr w0 g 0 ts.toArray:=holds_of hg (by simpa using qT);have lp:=Go.Lib.compact_length_le ts;refine(AnyG.slices_Compact_string Tryz.Ew g 0 cap ts w0 hH (by omega) hle).mono fun e w' ⟨h1,n,h2⟩=>⟨_,h1,?_,?_⟩
  ·have xE:w'=grow (putRow encStr (Go.Sort.ahead w0 n) g 0 (Go.Lib.compact ts++List.replicate (ts.length-(Go.Lib.compact ts).length) []).toArray) #[]:=by rw[grow_empty];exact h2
   rw[xE];refine⟨⟨(Go.Lib.compact ts).map encStr,⟨by simp[e1],.inr ⟨g,cap,_,rfl,hb,AX hg,by omega,Uu,by rw[e1,eK,←JY];simp[putCells],?_⟩⟩,vC fun x hx=>jI x ?_⟩,fun _ _=>trivial⟩
   ·rw[e1,eK,qB (by simp;omega) (by simp)];simp
   ·unfold Go.Lib.compact Go.Lib.compactUpTo at hx;obtain⟨j,hj,rfl⟩:=ca.1 hx;have hj:=List.mem_range.1 (fQ.1 hj).1;rw[getElem!_pos _ j (by simpa using hj)];simp
  ·have xE:w'=grow (putRow encStr (Go.Sort.ahead w0 n) g 0 (Go.Lib.compact ts++List.replicate (ts.length-(Go.Lib.compact ts).length) []).toArray) #[]:=by rw[grow_empty];exact h2
   rw[xE];exact wC.cF (fun b hb=>by have hb:b=g:=hb;subst hb;rfl) (fun _ _=>trivial)
theorem JH {n:Nat} (w0:World) (hn:n≤1000000000):Spec Tryz.prog 216 #[.slice none 0 0,.int .i64 n] w0 (fun r w=>Own RT.str 9 allM w w0.heap.size r []∧Step allM w0 allM w aD):=by
 rcases Nat.eq_zero_or_pos n with rfl|h
 ·exact(Any8.slices_Grow_room Tryz.Si none 0 0 0 w0 (aO _) (by omega) (by omega) (aO _)).mono fun e w' ⟨h1,h2⟩=>⟨_,h1,dz _ _ _ _ _,by rw[h2];exact aw _ _⟩
 ·obtain⟨i0,hi,hz,hs,hb⟩:=I9.get;refine(Any8.slices_Grow_grow Tryz.Si i0 _ hi hz (by omega) none 0 0 n [] w0 (aO _) (by omega) (by rw[hb];omega) (by omega) (by simp) (fun _=>rfl) (fun a h=>by cases h)).mono fun e w' ⟨h1,h2⟩=>⟨_,h1,?_,?_⟩
  ·have hG:n≤grownCap w0 n 0 (Tryz.vB.t 25):=grownCap_ge w0 _ _ _;have hm:=grownCap_le_maxLen w0 (0+n) 0 9 (by unfold maxLen;omega);rw[h2];refine⟨⟨[],⟨rfl,.inr ⟨w0.heap.size,_,_,rfl,aO _,by exact ch w0.drew _,bG _,hm,?_,by simp⟩⟩,rfl⟩,fun _ _=>trivial⟩;show _=grownCap w0 (0+n) 0 (Tryz.vB.t 25)*1;simp[Builtin.zeroCells,Value.cells];omega
  ·rw[h2];exact(lQ allM w0).aB (cQ allM w0.drew _)
end Go.K
namespace Go.K
open Go.Proofs
namespace TKJoinB
theorem ahD:Enters Tryz.prog 113:=enters Tryz.func113 rfl (by decide)
theorem ahE:Enters Tryz.prog 141:=enters Tryz.func141 rfl (by decide)
theorem ahF:Enters Tryz.prog 162:=enters Tryz.func162 rfl (by decide)
theorem ahG:Enters Tryz.prog 163:=enters Tryz.func163 rfl (by decide)
theorem ahH:Enters Tryz.prog 216:=enters Tryz.func216 rfl (by decide)
end TKJoinB
open TKJoinB
set_option maxRecDepth 10000
theorem Ex {ks:List (List (List UInt8))} {i:Nat} {l:List (List UInt8)} (h:ks[i]? =some l):((ks.take (i+1)).flatten).length=(ks.take i).flatten.length+l.length∧(ks.take (i+1)).flatten=(ks.take i).flatten++l:=by
 rw[b9,h,cK,List.flatten_append,bj];simp
theorem B0 (ks:List (List (List UInt8))) (i:Nat):(ks.take i).flatten.length≤ks.flatten.length:=by
 conv=>rhs;rw[←uu i ks,List.flatten_append,bj]
 omega
theorem B1 {M:aC} {ks:List (List (List UInt8))} {v0:Value} (w0:World) (hM:Lt M w0) (hv:((RT.str.sl).sl).V M w0 ks v0) (hl:ks.flatten.length≤100000000):
  Spec Tryz.prog 162 #[v0] w0 (fun v w=>∃M',Own RT.str 9 M' w w0.heap.size v ks.flatten∧Lt M' w∧Step M w0 M' w aD):=by
 have hlen:=ei hv;have kr:=hM;refine bg (args:=[_]) (fn:=Tryz.f162) Tryz.func162 rfl (n:=36) Tryz.ntmps162 ?_;have S:Step M w0 M w0 aD:=(aw _ _).cF (fun _ h=>h.elim) (fun _ h=>h.elim);refine aj (ae (ah rfl rfl (ab (aj (ae (ah rfl rfl (ab (aj (aj (ae (ad rfl rfl ?_)))))))))));refine bR Tryz.underlying120 rfl hv rfl (ad rfl rfl (ab (aZ ?_)));refine dn (σ:=Nat) (fun i=>[(0,v0),(3,.int .i64 ((ks.take i).flatten.length:Int)),(9,v0),(10,.int .i64 (ks.length:Int)),(11,.int .i64 (i:Int))]) (fun i w=>i≤ks.length∧Lt M w∧((RT.str.sl).sl).V M w ks v0∧Step M w0 M w aD) (fun i=>ks.length-i) 0 (.cons rfl (.cons rfl (.cons rfl (.cons rfl (.cons rfl .nil))))) ?_ ?_
 ·exact⟨bG _,hM,hv,S⟩
 ·clear hM hv S;rintro i w ⟨hi,hM,hv,S⟩;have nk:=B0 ks i;refine aj (ae (cn rfl rfl rfl (ab (aj ?_))));refine bN rfl (fun c3=>?_) (fun c3=>?_)
  ·refine aT (aj (aZ (aj (ae ?_))));obtain⟨l,hk⟩:∃l,ks[i]? =some l:=⟨_,au (by omega)⟩;obtain⟨tn,A7⟩:=Ex hk;have hk3:=B0 ks (i+1);refine cE (M:=M) Tryz.underlying120 zt rfl rfl rfl hv (aq _ _) (by omega) (fun u4 x vY EX=>?_);rw[ay]at vY;obtain rfl:=aI (hk.symm.trans vY);refine bT (M:=M) aS rfl rfl rfl rfl rfl EX (aq _ _) (fun v4 pT=>?_);refine ah rfl rfl (ab (aj (ae (ad rfl rfl (ad rfl rfl (bR aS rfl pT rfl (bD rfl rfl rfl (by omega) (aU (v':= .int .i64 (((ks.take (i+1)).flatten.length:Nat):Int)) (congrArg _ (by rw[tn];omega)) (ah rfl rfl (ab (aj ?_)))))))))));refine ae (ad rfl rfl (cn rfl rfl rfl (ab (T.wM rfl ((by omega)) (aT (ae (bD rfl rfl rfl (by omega) (ad rfl rfl (ab ?_)))))))));refine⟨rfl,i+1,(.cons rfl (.cons rfl (.cons rfl (.cons rfl (.cons rfl .nil))))),?_,?_⟩
   ·exact⟨by omega,hM,hv,S⟩
   ·omega
  ·refine cI (aj (ae (ad rfl rfl ?_)));have hie:i=ks.length:=by omega
   refine aU (v':= .int .i64 ((ks.flatten.length:Nat):Int)) (by rw[hie,bc (aO _)]) ?_;refine aW rfl rfl ahH (JH w (n:=ks.flatten.length) (by omega)) (fun r9 w9 hc=>?_);obtain⟨P3,s9⟩:=hc;obtain⟨ho,s9'⟩:=P3.NC (M:=allM) na s9 (aO _) M;replace ho:=ho.nj S.size;have RR:=s9'.lt hM;have Dj:=hv.le s9'.le;have S9:=S.aB s9';refine ah rfl rfl (ab (aj (aj (ae (ad rfl rfl (bR Tryz.underlying120 rfl Dj rfl (ad rfl rfl (ab (aZ ?_)))))))));refine dn (σ:=Nat×Value) (fun q=>[(6,q.2),(25,v0),(26,.int .i64 (ks.length:Int)),(27,.int .i64 (q.1:Int))]) (fun q w=>q.1≤ks.length∧∃M1,Lt M1 w∧((RT.str.sl).sl).V M1 w ks v0∧Own RT.str 9 M1 w w0.heap.size q.2 (ks.take q.1).flatten∧Step M w0 M1 w aD) (fun q=>ks.length-q.1) (0,r9) (.cons rfl (.cons rfl (.cons rfl (.cons rfl .nil)))) ?_ ?_
   ·exact⟨bG _,_,RR,Dj,(by simpa using ho),S9⟩
   ·clear hM hv S RR Dj ho S9;rintro⟨i,u⟩ w ⟨hi,M1,hM,hv,ho,S⟩;dsimp only at hi ho ⊢;have nk:=B0 ks i;refine aj (ae (cn rfl rfl rfl (ab (aj ?_))));refine bN rfl (fun FB=>?_) (fun FB=>?_)
    ·refine aT (aj (aZ (aj (ae ?_))));obtain⟨l,hk⟩:∃l,ks[i]? =some l:=⟨_,au (by omega)⟩;obtain⟨tn,A7⟩:=Ex hk;have hk3:=B0 ks (i+1);refine cE (M:=M1) Tryz.underlying120 zt rfl rfl rfl hv (aq _ _) (by omega) (fun u4 x vY EX=>?_);rw[ay]at vY;obtain rfl:=aI (hk.symm.trans vY);refine bT (M:=M1) aS rfl rfl rfl rfl rfl EX (aq _ _) (fun alH VM=>?_);refine ah rfl rfl (ab (ae (ad rfl rfl (ad rfl rfl ?_))));refine cX (M:=M1) (base:=w0.heap.size) aS I9 rfl rfl rfl rfl ho VM (aq _ _) (by omega) (by omega) (S.size) (fun aak alI alJ VN NP=>?_);replace hv:=hv.le NP.le;replace hM:=NP.lt hM;have:=S.size;replace S:=S.cV NP ho (aO _);replace ho:=VN;refine ah rfl rfl (ab (ae (bD rfl rfl rfl (by omega) (ad rfl rfl (ab ?_)))));refine⟨rfl,(i+1,aak),(.cons rfl (.cons rfl (.cons rfl (.cons rfl .nil)))),?_,?_⟩
     ·exact⟨by dsimp only;omega,_,hM,hv,by dsimp only;rw[A7];exact ho,S⟩
     ·dsimp only;omega
    ·refine cI (aj (ae (ad rfl rfl (ah rfl rfl (ab (aQ ?_))))));rw[bc (by omega)]at ho;exact aV rfl rfl ⟨_,ho,hM,S⟩
theorem B2 {M:aC} {ks:List (List (List UInt8))} {v0:Value} (w0:World) (hM:Lt M w0) (hv:((RT.str.sl).sl).V M w0 ks v0) (hl:ks.flatten.length≤100000000):
  Spec Tryz.prog 113 #[v0] w0 (fun v w=>∃M',Own RT.str 9 M' w w0.heap.size v (jt ks)∧Lt M' w∧Step M w0 M' w aD):=by
 refine bg (args:=[_]) (fn:=Tryz.f113) Tryz.func113 rfl (n:=10) Tryz.ntmps113 (aj (ae (ah rfl rfl (ab (aj (ae (ad rfl rfl ?_)))))));refine aW rfl rfl ahF (B1 w0 hM hv hl) (fun r1 w1 hc=>?_);obtain⟨M1,UH,nC,s1⟩:=hc;refine ah rfl rfl (ab (aj (ae (ad rfl rfl ?_))));refine aW rfl rfl ahE (JF w1 (UH.Qt na (M':=allM) fun _ _=>trivial) hl) (fun r2 w2 hc=>?_);obtain⟨rfl,sM,s2⟩:=hc;refine ab (aj (ae (ad rfl rfl ?_)));refine aW rfl rfl ahG (JG w2 sM (by rw[(jd _ _).length_eq];exact hl)) (fun r3 w3 hc=>?_);obtain⟨yE,s3⟩:=hc;have Z8:∀b,r1.ownBlock=some b→w0.heap.size≤b:=fun b hb=>(UH.base b hb).1
 have Cp:Step allM w0 allM w3 aD:=(s1.all.trans s2 (fun b hb h=>by have:=Z8 b h;omega)).trans s3 (fun b hb h=>by have:=Z8 b h;omega);obtain⟨pS,s4⟩:=yE.NC na Cp (aO _) M;refine ah rfl rfl (ab (aQ ?_));exact aV rfl rfl ⟨_,pS,s4.lt hM,s4⟩
theorem JI {M:aC} {ks:List (List (List UInt8))} {v0:Value} (w0:World) (hM:Lt M w0) (hv:((RT.str.sl).sl).V M w0 ks v0) (hl:ks.flatten.length≤100000000):
  Spec Tryz.prog 62 #[v0] w0 (fun v w=>∃M',Own RT.str 9 M' w w0.heap.size v (jt ks)∧Lt M' w∧Step M w0 M' w aD):=by
 refine bg (args:=[_]) (fn:=Tryz.f62) Tryz.func62 rfl (n:=5) Tryz.ntmps62 (aj (ae (ah rfl rfl (ab (aj (ae (ad rfl rfl ?_)))))));refine aW rfl rfl ahD (B2 w0 hM hv hl) (fun r1 w1 hc=>?_);refine ah rfl rfl (ab (aQ ?_));exact aV rfl rfl hc
end Go.K
namespace Go.K
open Go.Proofs
namespace TKHeads
theorem aal:TI Tryz.prog 180 (.slice none 0 0) 1 24:=by unfold TI;kernel_rfl
theorem lP:TI Tryz.prog 183 (.agg #[(.int .i64 0),(.int .i64 0),(.int .i64 0)]) 3 24:=by unfold TI;kernel_rfl
end TKHeads
open TKHeads
set_option maxRecDepth 10000
theorem aam:qb Tryz.prog 178 "Len" 110 false:=by unfold qb;kernel_rfl
theorem Ey:qb Tryz.prog 178 "Less" 328 false:=by unfold qb;kernel_rfl
theorem Ez:qb Tryz.prog 178 "Swap" 331 false:=by unfold qb;kernel_rfl
theorem aan:qb Tryz.prog 178 "Push" 330 true:=by unfold qb;kernel_rfl
theorem ahJ:qb Tryz.prog 178 "Pop" 329 true:=by unfold qb;kernel_rfl
theorem vD {M:aC} {w0:World} {base:Nat} {v:Value} {hs:List Hd} (ho:Own RT.hd 183 M w0 base v hs):
  Spec Tryz.prog 110 #[v] w0 (fun v' w'=>v'= .int .i64 hs.length∧w0=w'):=by
 refine bg (args:=[_]) (fn:=Tryz.f110) Tryz.func110 rfl (n:=5) Tryz.ntmps110 (aj (ae (ah rfl rfl (ab (aj (ae (ad rfl rfl (fO bS rfl ho rfl (ah rfl rfl (ab (aQ ?_)))))))))));exact aV rfl rfl ⟨rfl,rfl⟩
theorem od {M:aC} {w0:World} {v:Value} {hs:List Hd} {i j:Nat} (hv:((RT.hd).sl).V M w0 hs v) (hi:i<hs.length) (hj:j<hs.length):
  Spec Tryz.prog 328 #[v,.int .i64 i,.int .i64 j] w0 (fun v' w'=>v'= .bool (decide (hn hs i<hn hs j))∧Step M w0 M w' aD):=by
 have hlen:=ei hv;obtain⟨⟨a1,a2,a3⟩,hx⟩:∃x,hs[i]? =some x:=⟨_,au hi⟩;obtain⟨⟨b1,b2,b3⟩,hy⟩:∃x,hs[j]? =some x:=⟨_,au hj⟩;refine bg (args:=[_,_,_]) (fn:=Tryz.f328) Tryz.func328 rfl (n:=18) Tryz.ntmps328 (aj (ae (ah rfl rfl (ab (aj ?_)))));apply uz mixed rfl rfl;intro EY K4;have lU:=K4 M;refine ad rfl rfl ?_;refine ab ⟨rfl,rfl,rfl,?_⟩;refine ad rfl rfl ?_;refine ab ⟨rfl,rfl,rfl,?_⟩;refine cE (M:=M) bS lP rfl rfl rfl (hv.le lU.le) (aq _ _) (by first|omega|decide) (fun F8 ahK aao nX=>?_);obtain rfl:(a1,a2,a3)=ahK:=du (aI (aao.symm.trans (by rw[ay];exact hx)));refine ab ⟨rfl,rfl,rfl,?_⟩;refine aL (M:=M) (A:=RT.hd) (B:=RT.int .i64) dI rfl rfl I3 (by decide) (R6) rfl rfl (by decide) (by assumption) (by repeat (first|exact aq _ _|refine aY (bu (by assumption)) ?_)) (fun Ps kD=>?_);refine ab ⟨rfl,rfl,rfl,?_⟩;refine cb (M:=M) ax rfl rfl (by assumption) (by repeat (first|exact aq _ _|refine aY (bu (by assumption)) ?_)) (fun Sk=>?_);refine aU (v':= .int .i64 (a1)) rfl ?_;replace Sk: -9223372036854775808≤(a1:Int)∧a1≤9223372036854775807:=Sk;refine ab ⟨rfl,rfl,rfl,?_⟩;refine ad rfl rfl ?_;refine ab ⟨rfl,rfl,rfl,?_⟩;refine ad rfl rfl ?_;refine ab ⟨rfl,rfl,rfl,?_⟩;refine cE (M:=M) bS lP rfl rfl rfl (hv.le lU.le) (aq _ _) (by first|omega|decide) (fun arn ahL aap alK=>?_);obtain rfl:(b1,b2,b3)=ahL:=du (aI (aap.symm.trans (by rw[ay];exact hy)));refine ab ⟨rfl,rfl,rfl,?_⟩;refine aL (M:=M) (A:=RT.hd) (B:=RT.int .i64) dI rfl rfl I3 (by decide) (R6) rfl rfl (by decide) (by assumption) (by repeat (first|exact aq _ _|refine aY (bu (by assumption)) ?_)) (fun aro alL=>?_);refine ab ⟨rfl,rfl,rfl,?_⟩
 refine cb (M:=M) ax rfl rfl (by assumption) (by repeat (first|exact aq _ _|refine aY (bu (by assumption)) ?_)) (fun Sm=>?_);refine aU (v':= .int .i64 (b1)) rfl ?_;replace Sm: -9223372036854775808≤(b1:Int)∧b1≤9223372036854775807:=Sm;refine ab ⟨rfl,rfl,rfl,?_⟩;refine cn rfl rfl rfl ?_;refine ab ⟨rfl,rfl,rfl,?_⟩;refine ah rfl rfl ?_;refine ab ⟨rfl,rfl,rfl,?_⟩;refine eQ (aQ ?_);exact aV rfl rfl ⟨by rw[R8 hx,R8 hy],lU⟩
set_option maxHeartbeats 4000000 in
theorem oe {M:aC} {w0:World} {base:Nat} {v:Value} {hs:List Hd} {i j:Nat} (h:Own RT.hd 183 M w0 base v hs) (hv:v≠ .slice none 0 0) (hi:i<hs.length) (hj:j<hs.length):
  Spec Tryz.prog 331 #[v,.int .i64 i,.int .i64 j] w0 (fun v' w'=>Own RT.hd 183 M w' base v (swp hs i j)∧Step M w0 M w' (fC v)):=by
 obtain⟨g,cap,cur,rfl,SK,Qp,Ei⟩:=h.uM hv;obtain⟨⟨x1,x2,x3⟩,hx⟩:∃x,hs[i]? =some x:=⟨_,au hi⟩;obtain⟨⟨y1,y2,y3⟩,hy⟩:∃x,hs[j]? =some x:=⟨_,au hj⟩;obtain⟨vx,qX⟩:∃vx,RT.hd.V M w0 (x1,x2,x3) vx:=h.val hx;obtain⟨vy,Rk⟩:∃vy,RT.hd.V M w0 (y1,y2,y3) vy:=h.val hy;obtain⟨rfl,rx1,rx2,rx3⟩:=sL qX;obtain⟨rfl,ry1,ry2,ry3⟩:=sL Rk;refine bg (args:=[_,_,_]) (fn:=Tryz.f331) Tryz.func331 rfl (n:=20) Tryz.ntmps331 ?_;apply T.Q2 (M:=M) mixed [(13,fun k=>k=g),(15,fun k=>k=g)] [cJ.eq _,cJ.eq _,cJ.eq _,cJ.eq _,cJ.eq _,cJ.eq _,cJ.eq (.pointer (some ⟨g,j*3,none⟩)),cJ.eq (.agg #[.int .i64 y1,.int .i64 y2,.int .i64 y3]),cJ.eq _,cJ.eq _,cJ.eq (.pointer (some ⟨g,i*3,none⟩)),cJ.eq (.agg #[.int .i64 x1,.int .i64 x2,.int .i64 x3]),cJ.eq (.pointer (some ⟨g,i*3,none⟩)),(cJ.mk' (fun _ w=>Own RT.hd 183 M w base (.slice (some ⟨g,0,none⟩) hs.length cap) (hs.set i (y1,y2,y3))∨Own RT.hd 183 M w base (.slice (some ⟨g,0,none⟩) hs.length cap) (swp hs i j)) (fun h s=>h.imp (fun h=>h.aM s) (fun h=>h.aM s))),cJ.eq (.pointer (some ⟨g,j*3,none⟩)),(cJ.mk' (fun _ w=>Own RT.hd 183 M w base (.slice (some ⟨g,0,none⟩) hs.length cap) (swp hs i j)) (fun h s=>h.aM s))]
 ·rfl
 ·intro p hp b hb;simp only[cd,eF,or_false]at hp;rcases hp with rfl|rfl<;>(have hb:b=g:=hb;subst hb;exact Qp)
 ·refine xF.of [(13,15)] ?_ ?_
  ·exact⟨fun _ _ _ _=>trivial,⟨fun _ _ _ _=>trivial,⟨fun _ _ _ _=>trivial,⟨fun _ _ _ _=>trivial,⟨fun _ _ _ _=>trivial,⟨fun _ _ _ _=>trivial,⟨fun _ _ _ _=>trivial,⟨fun _ _ _ _=>trivial,⟨fun _ _ _ _=>trivial,⟨fun _ _ _ _=>trivial,⟨fun _ _ _ _=>trivial,⟨fun _ _ _ _=>trivial,⟨fun _ _ _ _=>trivial,⟨fun p hp=>(eF (show p∈([]:List (Nat×aC))from hp)).elim,⟨fun _ _ _ _=>trivial,⟨fun p hp=>(eF (show p∈([]:List (Nat×aC))from hp)).elim,trivial⟩⟩⟩⟩⟩⟩⟩⟩⟩⟩⟩⟩⟩⟩⟩⟩
  ·intro x hx s sj h1 h2 v vj w w' hp st hq;obtain rfl:=bH.1 hx;obtain rfl:=aI h1;obtain rfl:=aI h2;exact Or.inr hq
 ·refine cg ?_ ?_
  ·intro wD E sD;replace sD:Step M _ M wD aD:=sD;refine ad rfl rfl ?_;exact ab ⟨rfl,rfl,_,rfl,rfl,aw _ _⟩
  refine cg ?_ ?_
  ·intro wD E sD;replace sD:Step M _ M wD aD:=sD;refine ad rfl rfl ?_;exact ab ⟨rfl,rfl,_,rfl,rfl,aw _ _⟩
  refine cg ?_ ?_
  ·intro wD E sD;replace sD:Step M _ M wD (fun k=>k=g):=sD;refine ad rfl rfl ?_;exact ab ⟨rfl,rfl,_,rfl,rfl,aw _ _⟩
  refine cg ?_ ?_
  ·intro wD E sD;replace sD:Step M _ M wD (fun k=>k=g):=sD;refine ad rfl rfl ?_;exact ab ⟨rfl,rfl,_,rfl,rfl,aw _ _⟩
  refine cg ?_ ?_
  ·intro wD E sD;replace sD:Step M _ M wD aD:=sD;refine ad rfl rfl ?_;exact ab ⟨rfl,rfl,_,rfl,rfl,aw _ _⟩
  refine cg ?_ ?_
  ·intro wD E sD;replace sD:Step M _ M wD aD:=sD;refine ad rfl rfl ?_;exact ab ⟨rfl,rfl,_,rfl,rfl,aw _ _⟩
  refine cg ?_ ?_
  ·intro wD E sD;replace sD:Step M _ M wD aD:=sD;refine aR (aR (vM (size:=3) bS lP rfl rfl rfl (by omega) (q:=j*3) (by rw[ay,fN]) ?_));exact ab ⟨rfl,rfl,_,rfl,rfl,aw _ _⟩
  refine cg ?_ ?_
  ·intro wD E sD;replace sD:Step M _ M wD aD:=sD;refine aR ?_;refine dg (M:=fun k=>M k∧k≠g) (A:=RT.hd) dI rfl lP (by decide) rfl rfl rfl ((h.aM sD).ptr hy) (aq _ _) (fun va lL=>?_);obtain⟨rfl,_,_,_⟩:=sL lL;exact ab ⟨rfl,rfl,_,rfl,rfl,aw _ _⟩
  refine cg ?_ ?_
  ·intro wD E sD;replace sD:Step M _ M wD (fun k=>k=g):=sD;refine ad rfl rfl ?_;exact ab ⟨rfl,rfl,_,rfl,rfl,aw _ _⟩
  refine cg ?_ ?_
  ·intro wD E sD;replace sD:Step M _ M wD (fun k=>k=g):=sD;refine ad rfl rfl ?_;exact ab ⟨rfl,rfl,_,rfl,rfl,aw _ _⟩
  refine cg ?_ ?_
  ·intro wD E sD;replace sD:Step M _ M wD (fun k=>k=g):=sD;refine aR (aR (vM (size:=3) bS lP rfl rfl rfl (by omega) (q:=i*3) (by rw[ay,fN]) ?_));exact ab ⟨rfl,rfl,_,rfl,rfl,aw _ _⟩
  refine cg ?_ ?_
  ·intro wD E sD;replace sD:Step M _ M wD aD:=sD;refine aR ?_;refine dg (M:=fun k=>M k∧k≠g) (A:=RT.hd) dI rfl lP (by decide) rfl rfl rfl ((h.aM sD).ptr hx) (aq _ _) (fun va lL=>?_);obtain⟨rfl,_,_,_⟩:=sL lL;exact ab ⟨rfl,rfl,_,rfl,rfl,aw _ _⟩
  refine cg ?_ ?_
  ·intro wD E sD;replace sD:Step M _ M wD aD:=sD;refine aR (aR (aR (aR (aR (aR (aR (aR (aR (vM (size:=3) bS lP rfl rfl rfl (by omega) (q:=i*3) (by rw[ay,fN]) ?_)))))))));exact ab ⟨rfl,rfl,_,rfl,rfl,aw _ _⟩
  refine cg ?_ ?_
  ·intro wD E sD;replace sD:Step M _ M wD aD:=sD;refine aR (aR (aR (aR (aR (aR (aR (aR (aR ?_))))))));refine Rg.Fq (A:=RT.hd) (M:=M) lP rfl rfl rfl (h.aM sD) hi (NF ry1 ry2 ry3) (fun w' fS s'=>?_);exact ab ⟨rfl,rfl,undef,rfl,.inl fS,s'⟩
  refine cg ?_ ?_
  ·intro wD E sD;replace sD:Step M _ M wD (fun k=>k=g):=sD;refine aR (aR (aR (aR (aR (aR (aR (aR (aR (aR (aR (aR ?_)))))))))));refine aR (aR (aR ?_));intro RQ NQ;refine vM (size:=3) bS lP rfl rfl rfl (by omega) (q:=j*3) (by rw[ay,fN]) ?_;exact ab ⟨rfl,rfl,_,rfl,rfl,aw _ _⟩
  refine cg ?_ ?_
  ·intro wD E sD;replace sD:Step M _ M wD (fun k=>k=g):=sD;refine aR (aR ?_);intro RQ NQ;refine aR (aR (aR (aR (aR (aR (aR (aR (aR (aR (aR (aR ?_)))))))))));refine aR ?_;intro RQ NQ;rcases NQ with ho|ho
   ·refine Rg.Fq (A:=RT.hd) (M:=M) lP rfl rfl rfl ho (by rw[fm];exact hj) (NF rx1 rx2 rx3) (fun w' fS s'=>?_);exact ab ⟨rfl,rfl,undef,rfl,by rw[HW hx hy];exact fS,s'⟩
   ·refine Rg.Fq (A:=RT.hd) (M:=M) lP rfl rfl rfl ho (by rw[lN];exact hj) (NF rx1 rx2 rx3) (fun w' fS s'=>?_);exact ab ⟨rfl,rfl,undef,rfl,by rw[Jt hx hy]at fS;exact fS,s'⟩
  exact dR.nil
 ·intro wD0 VO;replace VO:Step M _ M wD0 (fun b=>(fun k=>k=g) b∨(fun k=>k=g) b):=VO;refine aR (aR (aR (aR (aR (aR (aR (aR (aR (aR (aR (aR ?_)))))))))));refine aR ?_;intro alP ahN;refine aR ?_;intro alQ VP
  first|refine qQ ?_|simp+decide only[qR,jz,if_true,if_false]|skip
  exact fW rfl ⟨VP,VO.cF (fun b hb=>by rcases hb with hb|hb<;>(have hb:b=g:=hb;subst hb;rfl)) (fun b hb=>by have hb:b=g:=(aI hb).symm;subst hb;exact Qp)⟩
theorem GS {M:aC} {w0:World} {bh base:Nat} {v:Value} {hs:List Hd} {a b c:Int} (hM:Lt M w0) (h:rf 180 183 M w0 bh base v hs) (ra:lO a) (rb:lO b) (rc:lO c) (hl:hs.length≤1099511627776):
  Spec Tryz.prog 330 #[.pointer (some ⟨bh,0,none⟩),.iface 183 (.agg #[.int .i64 a,.int .i64 b,.int .i64 c])] w0 (fun v' w'=>∃M' v2,rf 180 183 M' w' bh base v2 (hs++[(a,b,c)])∧Lt M' w'∧Step M w0 M' w' (NB 183 M w0 bh base)):=by
 have hbh:=h.h;obtain⟨g,cap,cur,hvg,SK,Qp,Ei⟩:=h.o.uM h.nn;have VQ:=ak Ei;refine bg (args:=[_,_]) (fn:=Tryz.f330) Tryz.func330 rfl (n:=13) Tryz.ntmps330 ?_;apply T.Ah (M:=M) mixed [(7,fC v)] [cJ.eq _,cJ.eq _,cJ.eq _,cJ.eq _,cJ.eq _,cJ.eq _,cJ.V ((RT.hd).sl) [(a,b,c)],(cJ.mk' (fun v w=>∃M2,(∀b,b<w0.heap.size→(M2 b↔M b))∧Lt M2 w∧Own RT.hd 183 M2 w base v (hs++[(a,b,c)])) (fun⟨M2,h1,h2,h3⟩ s=>⟨M2,h1,(s.any M2).lt h2,h3.aM (s.any M2)⟩))] 8
 ·rfl
 ·rfl
 ·rfl
 ·rfl
 ·rfl
 ·intro p hp b hb;obtain rfl:=bH.1 hp;exact h.o.mut_ b hb
 ·exact⟨fun _ _ _ _=>trivial,⟨fun _ _ _ _=>trivial,⟨fun _ _ _ _=>trivial,⟨fun _ _ _ _=>trivial,⟨fun _ _ _ _=>trivial,⟨fun _ _ _ _=>trivial,⟨fun _ _ _ _=>trivial,⟨fun p hp=>(eF (show p∈([]:List (Nat×aC))from hp)).elim,trivial⟩⟩⟩⟩⟩⟩⟩⟩
 ·refine aF ?_ ?_
  ·intro wD E sD;replace sD:Step M _ M wD (fC v):=sD;refine ad rfl rfl ?_;exact ab ⟨rfl,rfl,_,rfl,rfl,aw _ _⟩
  refine aF ?_ ?_
  ·intro wD E sD;replace sD:Step M _ M wD (fC v):=sD;refine ad rfl rfl ?_;exact ab ⟨rfl,rfl,_,rfl,rfl,aw _ _⟩
  refine aF ?_ ?_
  ·intro wD E sD;replace sD:Step M _ M wD (fC v):=sD;refine aR (bQ rfl ⟨_,rfl⟩ rfl ?_);exact ab ⟨rfl,rfl,_,rfl,rfl,aw _ _⟩
  refine aF ?_ ?_
  ·intro wD E sD;replace sD:Step M _ M wD aD:=sD;refine aR (aP bS rfl rfl rfl (cZ sD (by assumption)) rfl ?_);exact ab ⟨rfl,rfl,_,rfl,rfl,aw _ _⟩
  refine aF ?_ ?_
  ·intro wD E sD;replace sD:Step M _ M wD (fC v):=sD;refine ad rfl rfl ?_;exact ab ⟨rfl,rfl,_,rfl,rfl,aw _ _⟩
  refine aF ?_ ?_
  ·intro wD E sD;replace sD:Step M _ M wD (fC v):=sD;refine aR (Rg.Hk dI rfl rfl rfl ?_);exact ab ⟨rfl,rfl,_,rfl,rfl,aw _ _⟩
  refine aF ?_ ?_
  ·intro wD E sD;replace sD:Step M _ M wD aD:=sD;refine aR ?_;refine eg (A:=RT.hd) (hn:=by decide) (M:=M) bS lP (by decide) rfl rfl (sD.lt hM) (NF ra rb rc) (.inl rfl) (fun u6 w6 FF s6=>?_);exact ab ⟨rfl,rfl,_,rfl,FF,s6⟩
  refine aF ?_ ?_
  ·intro wD E sD;replace sD:Step M _ M wD aD:=sD;refine aR ?_;intro v6 uU;refine cX (M:=M) (base:=base) bS lP rfl rfl rfl rfl (h.o.aM sD) uU (aq _ _) (by simp;omega) (by simp;omega) (by have:=sD.size;omega) (fun v7 M7 w7 mU s7=>?_);exact ab ⟨rfl,rfl,_,rfl,⟨M7,fun b hb=>(s7.mem b (jy hb sD.size)),s7.lt (sD.lt hM),mU⟩,s7.back⟩
  exact rU
 ·intro wD0 VO;replace VO:Step M _ M wD0 (fC v):=VO;refine aR (aR (aR (aR (aR (aR ?_)))));intro art alR;intro ahO aaq;obtain⟨M7,hm7,hl7,mU⟩:=aaq;have s7:=VO.ZY hm7 hl7;have hb7:=s7.keep h.h (fun hk=>h.apart bh hk rfl);have mb7:M7 bh:=(hm7 bh (ak h.h)).2 h.mh;refine bQ rfl ⟨_,rfl⟩ rfl ?_;refine cu (M:=M7) (u:=v) aal rfl rfl hb7 rfl (by obtain⟨_,_,he,_⟩:=mU.isSlice;rw[he];rfl) mb7 (fun w9 h9 s9=>?_);refine ab ?_
  first|refine qQ ?_|simp+decide only[qR,jz,if_true,if_false]|skip
  refine fW rfl ⟨M7,ahO,⟨h9,mb7,mU.step s9 (fun k hk=>mU.apart hb7 h.ne k hk),mU.BS (by simp),h.ne⟩,s9.lt hl7,?_⟩;exact(s7.R7 h).trans s9 (fun b hb he=>⟨he▸h.mh,.inl he⟩)
theorem JJ {M:aC} {w0:World} {bh base:Nat} {v:Value} {hs:List Hd} {a b c:Int} (hM:Lt M w0) (h:rf 180 183 M w0 bh base v hs) (hx:hs[hs.length-1]? =some (a,b,c)):
  Spec Tryz.prog 329 #[.pointer (some ⟨bh,0,none⟩)] w0 (fun v' w'=>v'= .iface 183 (.agg #[.int .i64 a,.int .i64 b,.int .i64 c])∧∃M' v2,rf 180 183 M' w' bh base v2 (hs.take (hs.length-1))∧Lt M' w'∧Step M w0 M' w' (NB 183 M w0 bh base)):=by
 obtain⟨g,cap,cur,rfl,SK,Qp,Ei⟩:=h.o.uM h.nn;have hbh:=h.h;have hlen:=h.o.ltM;have td:=(ao.1 hx).1;obtain⟨vx,qX⟩:=h.o.val hx;obtain⟨rfl,ra,rb,rc⟩:=sL qX;obtain⟨_,Xa,aar,alW⟩:=h.o.isSlice;simp only[fV]at aar;have lp:hs.length≤cap:=by omega
 refine bg (args:=[_]) (fn:=Tryz.f329) Tryz.func329 rfl (n:=27) Tryz.ntmps329 (aj (ae (ah rfl rfl (ab (aj ?_)))));apply T.Ah (M:=M) mixed [] [cJ.eq _,cJ.eq _,cJ.eq _,cJ.eq _,cJ.eq _,cJ.eq _,cJ.eq _,cJ.eq _,cJ.eq (.pointer (some ⟨g,(hs.length-1)*3,none⟩)),cJ.eq (.agg #[.int .i64 a,.int .i64 b,.int .i64 c]),(cJ.mk' (fun v w=>∃b:Nat,v= .pointer (some ⟨b,0,none⟩)∧w0.heap.size≤b∧b<w.heap.size∧w.heap[b]? =some (.cells #[.int .i64 0,.int .i64 0,.int .i64 0] 183 (0,0))) (fun⟨b,h1,h2,h3,h4⟩ s=>⟨b,h1,h2,jy h3 s.size,s.aK h4⟩))] 11
 ·rfl
 ·rfl
 ·rfl
 ·rfl
 ·rfl
 ·exact fun p hp=>by cases hp
 ·exact uF.none
 ·refine aF ?_ ?_
  ·intro wD E sD;refine ad rfl rfl ?_;exact ab ⟨rfl,rfl,_,rfl,rfl,aw _ _⟩
  refine aF ?_ ?_
  ·intro wD E sD;refine aR (bQ rfl ⟨_,rfl⟩ rfl ?_);exact ab ⟨rfl,rfl,_,rfl,rfl,aw _ _⟩
  refine aF ?_ ?_
  ·intro wD E sD;refine aR (aP bS rfl rfl rfl (cZ sD (by assumption)) rfl ?_);exact ab ⟨rfl,rfl,_,rfl,rfl,aw _ _⟩
  refine aF ?_ ?_
  ·intro wD E sD;refine ad rfl rfl ?_;exact ab ⟨rfl,rfl,_,rfl,rfl,aw _ _⟩
  refine aF ?_ ?_
  ·intro wD E sD;refine aR (bQ rfl ⟨_,rfl⟩ rfl ?_);exact ab ⟨rfl,rfl,_,rfl,rfl,aw _ _⟩
  refine aF ?_ ?_
  ·intro wD E sD;refine aR (aP bS rfl rfl rfl (cZ sD (by assumption)) rfl ?_);exact ab ⟨rfl,rfl,_,rfl,rfl,aw _ _⟩
  refine aF ?_ ?_
  ·intro wD E sD;refine aR (Rg.oM bS rfl rfl ?_);exact ab ⟨rfl,rfl,_,rfl,rfl,aw _ _⟩
  refine aF ?_ ?_
  ·intro wD E sD;refine aR (fu rfl rfl rfl (by omega) ?_);exact ab ⟨rfl,rfl,_,rfl,rfl,aw _ _⟩
  refine aF ?_ ?_
  ·intro wD E sD;refine aR (aR (vM (size:=3) bS lP rfl rfl rfl (by omega) (q:=(hs.length-1)*3) (by rw[show((hs.length:Int)-1).toNat=hs.length-1 from by omega,fN]) ?_));exact ab ⟨rfl,rfl,_,rfl,rfl,aw _ _⟩
  refine aF ?_ ?_
  ·intro wD E sD;refine aR ?_;refine dg (M:=fun k=>M k∧k≠g) (A:=RT.hd) dI rfl lP (by decide) rfl rfl rfl ((h.o.aM sD).ptr hx) (aq _ _) (fun va lL=>?_);obtain⟨rfl,_,_,_⟩:=sL lL;exact ab ⟨rfl,rfl,_,rfl,rfl,aw _ _⟩
  refine aF ?_ ?_
  ·intro wD E sD;refine ek M lP rfl (fun b7 w7 z7 z7' g7 s7=>?_);exact ab ⟨rfl,rfl,_,rfl,⟨b7,rfl,eD sD.size z7,z7',g7⟩,s7.any M⟩
  exact rU
 ·intro EY lU;refine aR (aR (aR (aR (aR (aR (aR (aR (aR (aR ?_)))))))));intro alX VR;obtain⟨b7,rfl,z7,z7',g7⟩:=VR;have s7:=lU.own z7 z7';refine dY (M:=ins M b7) (vs:=[.int .i64 a,.int .i64 b,.int .i64 c]) lP rfl rfl (by intro u hu;simp only[cd,eF,or_false]at hu;rcases hu with rfl|rfl|rfl<;>rfl) rfl rfl g7 (.inl rfl) (fun w8 g8 s8=>?_);have S8:=s7.cf s8 (fun b hb=>by have hb:b=b7:=hb;rw[hb];exact z7);have L0:=ak hbh;have ahQ:=S8.aK hbh;clear hbh;refine ab (aj ?_);apply T.Ah (M:=ins M b7) mixed [] [cJ.eq _,cJ.eq _,cJ.eq _,cJ.eq _,cJ.eq _,cJ.eq _,cJ.eq _,cJ.eq _,cJ.eq _,cJ.eq (.slice (some ⟨g,0,none⟩) (hs.length-1) cap)] 10
  ·rfl
  ·rfl
  ·rfl
  ·rfl
  ·rfl
  ·exact fun p hp=>by cases hp
  ·exact uF.none
  ·refine aF ?_ ?_
   ·intro wD E sD;refine ad rfl rfl ?_;exact ab ⟨rfl,rfl,_,rfl,rfl,aw _ _⟩
   refine aF ?_ ?_
   ·intro wD E sD;refine ad rfl rfl ?_;exact ab ⟨rfl,rfl,_,rfl,rfl,aw _ _⟩
   refine aF ?_ ?_
   ·intro wD E sD;refine aR (bQ rfl ⟨_,rfl⟩ rfl ?_);exact ab ⟨rfl,rfl,_,rfl,rfl,aw _ _⟩
   refine aF ?_ ?_
   ·intro wD E sD;refine aR (aP bS rfl rfl rfl (cZ sD (by assumption)) rfl ?_);exact ab ⟨rfl,rfl,_,rfl,rfl,aw _ _⟩
   refine aF ?_ ?_
   ·intro wD E sD;refine ad rfl rfl ?_;exact ab ⟨rfl,rfl,_,rfl,rfl,aw _ _⟩
   refine aF ?_ ?_
   ·intro wD E sD;refine aR (bQ rfl ⟨_,rfl⟩ rfl ?_);exact ab ⟨rfl,rfl,_,rfl,rfl,aw _ _⟩
   refine aF ?_ ?_
   ·intro wD E sD;refine aR (aP bS rfl rfl rfl (cZ sD (by assumption)) rfl ?_);exact ab ⟨rfl,rfl,_,rfl,rfl,aw _ _⟩
   refine aF ?_ ?_
   ·intro wD E sD;refine aR (Rg.oM bS rfl rfl ?_);exact ab ⟨rfl,rfl,_,rfl,rfl,aw _ _⟩
   refine aF ?_ ?_
   ·intro wD E sD;refine aR (fu rfl rfl rfl (by omega) ?_);exact ab ⟨rfl,rfl,_,rfl,rfl,aw _ _⟩
   refine aF ?_ ?_
   ·intro wD E sD;refine aR (aR (Rg.Tk bS lP rfl rfl rfl (by omega) (aU (v':= .slice (some ⟨g,0,none⟩) (hs.length-1) cap) (by rw[show((hs.length:Int)-1).toNat=hs.length-1 from by omega]) ?_)));exact ab ⟨rfl,rfl,_,rfl,rfl,aw _ _⟩
   exact rU
  ·intro wD2 Jp;refine aR (aR (aR (aR (aR (aR (aR (aR (aR (aR (bQ rfl ⟨_,rfl⟩ rfl ?_))))))))));refine cu (M:=ins M b7) (u:= .slice (some ⟨g,0,none⟩) hs.length cap) aal rfl rfl (Jp.aK ahQ) rfl rfl (.inr h.mh) (fun w9 h9 s9=>?_);have g9:=s9.keep (Jp.aK g8) (fun e=>by have e:b7=bh:=e;omega);refine ab (aj (ae (iq (vs:=[.int .i64 a,.int .i64 b,.int .i64 c]) dI rfl lP rfl rfl rfl g9 (Rg.xm dI rfl rfl rfl (ah rfl rfl (ab (aQ ?_)))))));have P3:Own RT.hd 183 (ins M b7) w9 base (.slice (some ⟨g,0,none⟩) hs.length cap) hs:=((h.o.aM S8).aM Jp).step s9 (fun k hk e=>h.apart k hk e);have S9:=(S8.aB Jp).cF (N':=NB 183 M w0 bh base) (fun _ h=>h.elim) (fun _ h=>h.1);exact aV rfl rfl ⟨rfl,ins M b7,_,⟨h9,.inr h.mh,P3.cut (by omega),by simp,h.ne⟩,s9.lt (Jp.lt (S8.lt hM)),S9.trans s9 (fun b hb he=>⟨he▸h.mh,.inl he⟩)⟩
end Go.K
namespace Go.K
open Go.Proofs
namespace TKHeap11
theorem QC:Enters Tryz.prog 110:=enters Tryz.func110 rfl (by decide)
theorem ahR:Enters Tryz.prog 159:=enters Tryz.func159 rfl (by decide)
theorem ahS:Enters Tryz.prog 160:=enters Tryz.func160 rfl (by decide)
theorem NR:Enters Tryz.prog 328:=enters Tryz.func328 rfl (by decide)
theorem ahT:Enters Tryz.prog 329:=enters Tryz.func329 rfl (by decide)
theorem ahU:Enters Tryz.prog 330:=enters Tryz.func330 rfl (by decide)
theorem NS:Enters Tryz.prog 331:=enters Tryz.func331 rfl (by decide)
end TKHeap11
open TKHeap11
set_option maxRecDepth 10000
theorem QD {M:aC} {w0:World} {bh base:Nat} {v:Value} {hs:List Hd} {j:Nat} (h0:rf 180 183 M w0 bh base v hs) (dq:OI hs j) (Xf:j<hs.length) (hl:hs.length≤140737488355328):
  Spec Tryz.prog 159 #[.iface 178 (.pointer (some ⟨bh,0,none⟩)),.int .i64 j] w0 (fun v' w'=>∃pF,rf 180 183 M w' bh base v pF∧pO pF∧pF.Perm hs∧Step M w0 M w' (fC v)):=by
 refine bg (args:=[_,_]) (fn:=Tryz.f159) Tryz.func159 rfl (n:=23) Tryz.ntmps159 (aZ ?_);refine dn (σ:=Nat×List Hd) (fun s=>[(0,.iface 178 (.pointer (some ⟨bh,0,none⟩))),(1,.int .i64 s.1)]) (fun s w=>rf 180 183 M w bh base v s.2∧OI s.2 s.1∧s.1<s.2.length∧s.2.length=hs.length∧s.2.Perm hs∧Step M w0 M w (fC v)) (fun s=>s.1) (j,hs) (.cons rfl (.cons rfl .nil)) ?_ ?_
 ·exact⟨h0,dq,Xf,rfl,List.Perm.refl _,(aw _ _).cF (fun _ h=>h.elim) (fun b hb=>h0.o.mut_ b hb)⟩
 ·rintro⟨k,xs⟩ w1 ⟨h,hu,hk,qH,hp,S⟩;dsimp only at h hu hk qH hp ⊢;refine aZ (aj (ae (ad rfl rfl (fu rfl rfl rfl (by omega) (Rg.par rfl rfl rfl (by omega) ?_)))));obtain⟨i,hi⟩:∃i:Nat,i=(k-1)/2:=⟨_,rfl⟩;rw[←hi];refine ah rfl rfl (ab (aj (aj (ae (ad rfl rfl (ad rfl rfl (tc rfl rfl rfl (ad rfl rfl ?_))))))));refine aN (g:=11) rfl (fun jH=>?_) (fun jH=>?_)
  ·refine ar rfl rfl rfl rfl (ar rfl rfl rfl rfl (ar rfl rfl rfl rfl (ar rfl rfl rfl rfl (ar rfl rfl rfl rfl (aX rfl rfl rfl (ab (lh rfl (cI ?_))))))))
   first|refine qQ ?_|simp+decide only[qR,jz,if_true,if_false]|skip
   first
   |exact fW rfl ⟨xs,h,hu.done (.inl (by omega)),hp,S⟩
   |exact fW rfl ⟨xs,h,hu.done (.inr (by rw[←hi];omega)),hp,S⟩
  ·refine al rfl rfl (ad rfl rfl (al rfl rfl (ad rfl rfl (al rfl rfl (ad rfl rfl (al rfl rfl ?_))))));refine mK rfl rfl rfl (Ey.load dh bS rfl h.h rfl) NR (od (i:=k) (j:=i) (h.view (by omega)) (by omega) (by omega)) (fun r w2 hq=>?_);obtain⟨rfl,sq⟩:=hq;have h:=h.aM (sq.any M);replace S:=S.aB (sq.any M);refine al rfl rfl (mJ rfl rfl (aU (v':= .bool (decide (¬(hn xs k<hn xs i)))) (by rw[decide_not]) (aE rfl rfl rfl (ab ?_))));refine bN rfl (fun c1=>?_) (fun c1=>?_)
   ·refine cI ?_
    first|refine qQ ?_|simp+decide only[qR,jz,if_true,if_false]|skip
    first
    |exact fW rfl ⟨xs,h,hu.done (.inl (by omega)),hp,S⟩
    |exact fW rfl ⟨xs,h,hu.done (.inr (by rw[←hi];omega)),hp,S⟩
   ·have dQ:=dE.1 c1;refine aT (aj (ae (ad rfl rfl (ad rfl rfl (ad rfl rfl ?_)))));refine mK rfl rfl rfl (Ez.load dh bS rfl h.h rfl) NS (oe (i:=i) (j:=k) h.o h.nn (by omega) (by omega)) (fun r w3 hq=>?_);obtain⟨ho,sq⟩:=hq;have h2:=h.wrote sq ho;have S2:=S.trans sq (fun _ _ h=>h);refine ab (ae (ad rfl rfl (ah rfl rfl (ab ?_))));refine⟨rfl,(i,swp xs i k),(.cons rfl (.cons rfl .nil)),?_,?_⟩
    ·refine⟨h2,?_,by rw[lN];simp only;omega,by rw[lN];exact qH,(qy (by omega) hk).trans hp,S2⟩;simp only;rw[hi];exact hu.swap hk (by omega) (by rw[←hi];exact dQ)
    ·simp only;omega
theorem JK {M:aC} {w0:World} {bh base:Nat} {v:Value} {hs:List Hd} {n:Nat} (h0:rf 180 183 M w0 bh base v hs) (R6:J2 hs n 0) (hn0:n≤hs.length) (hl:hs.length≤140737488355328):
  Spec Tryz.prog 160 #[.iface 178 (.pointer (some ⟨bh,0,none⟩)),.int .i64 0,.int .i64 n] w0 (fun v' w'=>∃pF,rf 180 183 M w' bh base v pF∧(∀k,0<k→k<n→hn pF ((k-1)/2)≤hn pF k)∧pF.Perm hs∧(∀k,n≤k→pF.getD k (0,0,0)=hs.getD k (0,0,0))∧Step M w0 M w' (fC v)):=by
 refine bg (args:=[_,_,_]) (fn:=Tryz.f160) Tryz.func160 rfl (n:=48) Tryz.ntmps160 (aj (ae (ah rfl rfl (ab (aj (ae (ad rfl rfl (ah rfl rfl (ab (aj (aZ ?_)))))))))));refine dn (σ:=Nat×List Hd) (fun s=>[(0,.iface 178 (.pointer (some ⟨bh,0,none⟩))),(1,.int .i64 0),(2,.int .i64 n),(7,.int .i64 s.1)]) (fun s w=>rf 180 183 M w bh base v s.2∧J2 s.2 n s.1∧s.1≤n∧s.2.length=hs.length∧s.2.Perm hs∧(∀k,n≤k→s.2.getD k (0,0,0)=hs.getD k (0,0,0))∧Step M w0 M w (fC v)) (fun s=>n-s.1) (0,hs) (.cons rfl (.cons rfl (.cons rfl (.cons rfl .nil)))) ?_ ?_
 ·exact⟨h0,R6,bG _,rfl,List.Perm.refl _,fun _ _=>rfl,(aw _ _).cF (fun _ h=>h.elim) (fun b hb=>h0.o.mut_ b hb)⟩
 ·rintro⟨i,xs⟩ w1 ⟨h,hd,kg,qH,hp,hk,S⟩;dsimp only at h hd kg qH hp hk ⊢;refine aZ (aj (ae (ad rfl rfl (Rg.OS rfl rfl rfl (by omega) (bD rfl rfl rfl (by omega) (aU (v':= .int .i64 ((2*i+1:Nat):Int)) (congrArg _ (by omega)) (ah rfl rfl (ab (aj (aj (ae ?_)))))))))));refine ad rfl rfl (ad rfl rfl (dT rfl rfl rfl (ad rfl rfl ?_)));refine aN (g:=18) rfl (fun ahV=>?_) (fun ahV=>?_)
  ·refine ar rfl rfl rfl rfl (ar rfl rfl rfl rfl (aX rfl rfl rfl (ab (lh rfl (cI (aj (ae (ad rfl rfl (ad rfl rfl (jv rfl rfl rfl (ah rfl rfl ?_)))))))))));refine ab (aQ ?_)
   first
   |exact aV rfl rfl ⟨xs,h,hd.leaf (by omega),hp,hk,S⟩
   |exact aV rfl rfl ⟨xs,h,hd.stay B3 KG (by omega),hp,hk,S⟩
  ·refine al rfl rfl (ad rfl rfl (al rfl rfl (cn rfl rfl rfl (aE rfl rfl rfl (ab (T.wM rfl ((by omega)) (aT (aj (ae (ad rfl rfl (ah rfl rfl ?_)))))))))));refine ab (aj (aj (ae (ad rfl rfl (bD rfl rfl rfl (by omega) (aU (v':= .int .i64 ((2*i+2:Nat):Int)) (congrArg _ (by omega)) (ah rfl rfl (ab (aj (ae (ad rfl rfl ?_)))))))))));refine ad rfl rfl (cn rfl rfl rfl (ad rfl rfl ?_));refine aN (g:=28) rfl (fun nT=>?_) (fun nT=>?_)
   ·refine al rfl rfl (ad rfl rfl (al rfl rfl (ad rfl rfl (al rfl rfl (ad rfl rfl (al rfl rfl ?_))))));refine mK rfl rfl rfl (Ey.load dh bS rfl h.h rfl) NR (od (i:=2*i+2) (j:=2*i+1) (h.view (by omega)) (by omega) (by omega)) (fun r w2 hq=>?_);obtain⟨rfl,sq⟩:=hq;have h:=h.aM (sq.any M);replace S:=S.aB (sq.any M);refine aX rfl rfl rfl (ab ?_);refine bN rfl (fun c6=>?_) (fun c6=>?_)
    ·obtain⟨j,hj⟩:∃j:Nat,j=2*i+2:=⟨_,rfl⟩;have B3:j=2*i+1∨j=2*i+2:=by omega
     have JT:j<n:=by omega
     have KG:∀k,(k=2*i+1∨k=2*i+2)→k<n→hn xs j≤hn xs k:=fun k hk Ge=>by
      rcases hk with e|e
      ·rw[e,hj];omega
      ·rw[e,hj];exact Int.le_refl _
     refine ae (ad rfl rfl (ah rfl rfl (ab (aj (aj (ae (ad rfl rfl (ad rfl rfl (aU (v':= .int .i64 (j:Int)) (congrArg _ (by omega)) (ad rfl rfl ?_))))))))));refine mK rfl rfl rfl (Ey.load dh bS rfl h.h rfl) NR (od (i:=j) (j:=i) (h.view (by omega)) (by omega) (by omega)) (fun r w3 hq=>?_);obtain⟨rfl,sq⟩:=hq;have h:=h.aM (sq.any M);replace S:=S.aB (sq.any M);refine mJ rfl rfl (aU (v':= .bool (decide (¬(hn xs j<hn xs i)))) (by rw[decide_not]) (ab ?_));refine bN rfl (fun c8=>?_) (fun c8=>?_)
     ·refine cI (aj (ae (ad rfl rfl (ad rfl rfl (jv rfl rfl rfl (ah rfl rfl (ab (aQ ?_))))))))
      first
      |exact aV rfl rfl ⟨xs,h,hd.leaf (by omega),hp,hk,S⟩
      |exact aV rfl rfl ⟨xs,h,hd.stay B3 KG (by omega),hp,hk,S⟩
     ·have dQ:=dE.1 c8;refine aT (aj (ae (ad rfl rfl (ad rfl rfl (ad rfl rfl (aU (v':= .int .i64 (j:Int)) (congrArg _ (by omega)) ?_))))));refine mK rfl rfl rfl (Ez.load dh bS rfl h.h rfl) NS (oe (i:=i) (j:=j) h.o h.nn (by omega) (by omega)) (fun r w4 hq=>?_);obtain⟨ho,sq⟩:=hq;have h2:=h.wrote sq ho;have S2:=S.trans sq (fun _ _ h=>h);refine ab (ae (ad rfl rfl (aU (v':= .int .i64 (j:Int)) (congrArg _ (by omega)) (ah rfl rfl (ab ?_)))));refine⟨rfl,(j,swp xs i j),(.cons rfl (.cons rfl (.cons rfl (.cons rfl .nil)))),?_,?_⟩
      ·refine⟨h2,hd.swap (by omega) JT B3 KG dQ,by simp only;omega,by simp only;rw[lN];exact qH,(qy (by omega) (by omega)).trans hp,fun k Ge=>?_,S2⟩;simp only;rw[qx (by omega) (by omega),if_neg (by omega),if_neg (by omega)];exact hk k Ge
      ·simp only;omega
    ·obtain⟨j,hj⟩:∃j:Nat,j=2*i+1:=⟨_,rfl⟩;have B3:j=2*i+1∨j=2*i+2:=by omega
     have JT:j<n:=by omega
     have KG:∀k,(k=2*i+1∨k=2*i+2)→k<n→hn xs j≤hn xs k:=fun k hk Ge=>by
      rcases hk with e|e
      ·rw[e,hj];exact Int.le_refl _
      ·rw[e,hj];exact Int.not_lt.1 c6
     refine aT (aj (aj (ae (ad rfl rfl (ad rfl rfl (aU (v':= .int .i64 (j:Int)) (congrArg _ (by omega)) (ad rfl rfl ?_)))))));refine mK rfl rfl rfl (Ey.load dh bS rfl h.h rfl) NR (od (i:=j) (j:=i) (h.view (by omega)) (by omega) (by omega)) (fun r w3 hq=>?_);obtain⟨rfl,sq⟩:=hq;have h:=h.aM (sq.any M);replace S:=S.aB (sq.any M);refine mJ rfl rfl (aU (v':= .bool (decide (¬(hn xs j<hn xs i)))) (by rw[decide_not]) (ab ?_));refine bN rfl (fun c8=>?_) (fun c8=>?_)
     ·refine cI (aj (ae (ad rfl rfl (ad rfl rfl (jv rfl rfl rfl (ah rfl rfl (ab (aQ ?_))))))))
      first
      |exact aV rfl rfl ⟨xs,h,hd.leaf (by omega),hp,hk,S⟩
      |exact aV rfl rfl ⟨xs,h,hd.stay B3 KG (by omega),hp,hk,S⟩
     ·have dQ:=dE.1 c8;refine aT (aj (ae (ad rfl rfl (ad rfl rfl (ad rfl rfl (aU (v':= .int .i64 (j:Int)) (congrArg _ (by omega)) ?_))))));refine mK rfl rfl rfl (Ez.load dh bS rfl h.h rfl) NS (oe (i:=i) (j:=j) h.o h.nn (by omega) (by omega)) (fun r w4 hq=>?_);obtain⟨ho,sq⟩:=hq;have h2:=h.wrote sq ho;have S2:=S.trans sq (fun _ _ h=>h);refine ab (ae (ad rfl rfl (aU (v':= .int .i64 (j:Int)) (congrArg _ (by omega)) (ah rfl rfl (ab ?_)))));refine⟨rfl,(j,swp xs i j),(.cons rfl (.cons rfl (.cons rfl (.cons rfl .nil)))),?_,?_⟩
      ·refine⟨h2,hd.swap (by omega) JT B3 KG dQ,by simp only;omega,by simp only;rw[lN];exact qH,(qy (by omega) (by omega)).trans hp,fun k Ge=>?_,S2⟩;simp only;rw[qx (by omega) (by omega),if_neg (by omega),if_neg (by omega)];exact hk k Ge
      ·simp only;omega
   ·obtain⟨j,hj⟩:∃j:Nat,j=2*i+1:=⟨_,rfl⟩;have B3:j=2*i+1∨j=2*i+2:=by omega
    have JT:j<n:=by omega
    have KG:∀k,(k=2*i+1∨k=2*i+2)→k<n→hn xs j≤hn xs k:=fun k hk Ge=>by
     rcases hk with e|e
     ·rw[e,hj];exact Int.le_refl _
     ·omega
    refine ar rfl rfl rfl rfl (ar rfl rfl rfl rfl (ar rfl rfl rfl rfl (ar rfl rfl rfl rfl (aE rfl rfl rfl (ab (iX rfl (aT (aj (aj (ae (ad rfl rfl ?_)))))))))));refine ad rfl rfl (aU (v':= .int .i64 (j:Int)) (congrArg _ (by omega)) (ad rfl rfl ?_));refine mK rfl rfl rfl (Ey.load dh bS rfl h.h rfl) NR (od (i:=j) (j:=i) (h.view (by omega)) (by omega) (by omega)) (fun r w3 hq=>?_);obtain⟨rfl,sq⟩:=hq;have h:=h.aM (sq.any M);replace S:=S.aB (sq.any M);refine mJ rfl rfl (aU (v':= .bool (decide (¬(hn xs j<hn xs i)))) (by rw[decide_not]) (ab ?_));refine bN rfl (fun c8=>?_) (fun c8=>?_)
    ·refine cI (aj (ae (ad rfl rfl (ad rfl rfl (jv rfl rfl rfl (ah rfl rfl (ab (aQ ?_))))))))
     first
     |exact aV rfl rfl ⟨xs,h,hd.leaf (by omega),hp,hk,S⟩
     |exact aV rfl rfl ⟨xs,h,hd.stay B3 KG (by omega),hp,hk,S⟩
    ·have dQ:=dE.1 c8;refine aT (aj (ae (ad rfl rfl (ad rfl rfl (ad rfl rfl (aU (v':= .int .i64 (j:Int)) (congrArg _ (by omega)) ?_))))));refine mK rfl rfl rfl (Ez.load dh bS rfl h.h rfl) NS (oe (i:=i) (j:=j) h.o h.nn (by omega) (by omega)) (fun r w4 hq=>?_);obtain⟨ho,sq⟩:=hq;have h2:=h.wrote sq ho;have S2:=S.trans sq (fun _ _ h=>h);refine ab (ae (ad rfl rfl (aU (v':= .int .i64 (j:Int)) (congrArg _ (by omega)) (ah rfl rfl (ab ?_)))));refine⟨rfl,(j,swp xs i j),(.cons rfl (.cons rfl (.cons rfl (.cons rfl .nil)))),?_,?_⟩
     ·refine⟨h2,hd.swap (by omega) JT B3 KG dQ,by simp only;omega,by simp only;rw[lN];exact qH,(qy (by omega) (by omega)).trans hp,fun k Ge=>?_,S2⟩;simp only;rw[qx (by omega) (by omega),if_neg (by omega),if_neg (by omega)];exact hk k Ge
     ·simp only;omega
theorem JL {M:aC} {w0:World} {bh base:Nat} {v:Value} {hs:List Hd} {a b c:Int} (hM:Lt M w0) (h:rf 180 183 M w0 bh base v hs) (hh:pO hs) (ra:lO a) (rb:lO b) (rc:lO c) (hl:hs.length≤1099511627776):
  Spec Tryz.prog 109 #[.iface 178 (.pointer (some ⟨bh,0,none⟩)),.iface 183 (.agg #[.int .i64 a,.int .i64 b,.int .i64 c])] w0 (fun v' w'=>∃M' v2 pF,rf 180 183 M' w' bh base v2 pF∧pO pF∧pF.Perm (hs++[(a,b,c)])∧Lt M' w'∧Step M w0 M' w' (NB 183 M w0 bh base)):=by
 refine bg (args:=[_,_]) (fn:=Tryz.f109) Tryz.func109 rfl (n:=12) Tryz.ntmps109 (aj (ae (ad rfl rfl (ad rfl rfl ?_))));refine mK rfl rfl rfl (aan.ptr dh _) ahU (GS hM h ra rb rc hl) (fun r w1 hq=>?_);obtain⟨M1,v1,h1,nC,s1⟩:=hq;refine ab (ae (ad rfl rfl (ad rfl rfl ?_)));refine mK rfl rfl rfl (aam.load dh bS rfl h1.h rfl) QC (vD h1.o) (fun r w2 hq=>?_);obtain⟨rfl,rfl⟩:=hq;have Il:(hs++[(a,b,c)]).length=hs.length+1:=by simp
 refine fu rfl rfl rfl (by omega) (aU (v':= .int .i64 (hs.length:Int)) (congrArg _ (by omega)) ?_);refine aW rfl rfl ahR (QD h1 (OI.push hh _) (by omega) (by omega)) (fun r2 w3 h=>?_);obtain⟨pF,h2,hh2,Iz,s2⟩:=h;refine ab ?_
 first|refine qQ ?_|simp+decide only[qR,jz,if_true,if_false]|skip
 exact fW rfl ⟨M1,v1,pF,h2,hh2,Iz,s2.lt nC,s1.nb (s2.R7 h1)⟩
theorem NT {M:aC} {w0:World} {bh base:Nat} {v:Value} {hs:List Hd} (hM:Lt M w0) (h:rf 180 183 M w0 bh base v hs) (hh:pO hs) (td:0<hs.length) (hl:hs.length≤1099511627776):
  Spec Tryz.prog 111 #[.iface 178 (.pointer (some ⟨bh,0,none⟩))] w0 (fun v' w'=>∃a b c M' v2 pF,v'= .iface 183 (.agg #[.int .i64 a,.int .i64 b,.int .i64 c])∧(lO a∧lO b∧lO c)∧rf 180 183 M' w' bh base v2 pF∧pO pF∧((a,b,c)::pF).Perm hs∧(∀x∈hs,a≤x.1)∧Lt M' w'∧Step M w0 M' w' (NB 183 M w0 bh base)):=by
 refine bg (args:=[_]) (fn:=Tryz.f111) Tryz.func111 rfl (n:=15) Tryz.ntmps111 (aj (ae (ah rfl rfl (ab (aj (ae (ad rfl rfl ?_)))))));refine mK rfl rfl rfl (aam.load dh bS rfl h.h rfl) QC (vD h.o) (fun r w1 hq=>?_);obtain⟨rfl,rfl⟩:=hq;refine fu rfl rfl rfl (by omega) (aU (v':= .int .i64 ((hs.length-1:Nat):Int)) (congrArg _ (by omega)) (ah rfl rfl (ab (aj (ae (ad rfl rfl (ad rfl rfl ?_)))))));refine mK rfl rfl rfl (Ez.load dh bS rfl h.h rfl) NS (oe (i:=0) (j:=hs.length-1) h.o h.nn (by omega) (by omega)) (fun r w2 hq=>?_);obtain⟨sM,s2⟩:=hq;have h2:=h.wrote s2 sM;have nk:=lN hs 0 (hs.length-1);refine ab (aj (ae (ad rfl rfl (ad rfl rfl ?_))));refine aW rfl rfl ahS (JK h2 (J2.pop hh td) (by omega) (by omega)) (fun r3 w3 h=>?_);obtain⟨ys,h3,Ij,hp3,hk3,s3⟩:=h;have hpp:=hp3.trans (qy (xs:=hs) (i:=0) (j:=hs.length-1) (by omega) (by omega));have Fk:=hpp.length_eq;have jj:ys.getD (hs.length-1) (0,0,0)=hs.getD 0 (0,0,0):=by rw[hk3 _ (aO _),qx (by omega) (by omega),if_pos rfl]
 obtain⟨⟨a,b,c⟩,Jj⟩:∃x,ys[ys.length-1]? =some x:=⟨_,au (by omega)⟩;obtain⟨x,hxe,hpx⟩:=Qm td hpp jj;have ahW:x=(a,b,c):=by rw[←hxe,aA,←Fk,Jj];rfl
 subst ahW;obtain⟨vx,qX⟩:=h3.o.val Jj;obtain⟨_,ra,rb,rc⟩:=sL qX;refine ab (aj (ae (ad rfl rfl ?_)));refine mK rfl rfl rfl (ahJ.ptr dh _) ahT (JJ (s3.lt (s2.lt hM)) h3 Jj) (fun r w4 hq=>?_);obtain⟨rfl,M4,v4,h4,hM4,s4⟩:=hq;refine ah rfl rfl (ab (aQ ?_));rw[Fk]at h4
 have ND:∀x∈hs,a≤x.1:=fun x hx=>by
  obtain⟨k,hk,_,A7⟩:=VD hx;have:=hh.min k hk;have e0:hn hs 0=a:=by unfold hn;rw[←jj,hxe]
  omega
 have sS:=((s2.trans s3 (fun _ _ h=>h)).R7 h).nb s4;exact aV rfl rfl ⟨a,b,c,M4,v4,_,rfl,⟨ra,rb,rc⟩,h4,pO.take (by omega) Ij,hpx,ND,hM4,sS⟩
end Go.K
namespace Go.K
open Go.Proofs
namespace TKPut11
theorem lP:TI Tryz.prog 183 (.agg #[(.int .i64 0),(.int .i64 0),(.int .i64 0)]) 3 24:=by unfold TI;kernel_rfl
theorem ahX:placesOf Tryz.prog 183=[(0,1),(1,1),(2,1)].map some:=by kernel_rfl
theorem ahY:Enters Tryz.prog 109:=enters Tryz.func109 rfl (by decide)
end TKPut11
open TKPut11
set_option maxRecDepth 10000
theorem EA {M:aC} {w0:World} {bl b4 bh base:Nat} {vl v:Value} {ls:List (List Int)} {hs:List Hd} {i k:Nat} (hM:Lt M w0) (kY:w0.heap[bl]? =some (.cells #[vl] 119 (0,0))) (qZ:w0.heap[b4]? =some (.cells #[.pointer (some ⟨bh,0,none⟩)] 178 (0,0))) (hv:(((RT.int .i64).sl).sl).V M w0 ls vl) (h:rf 180 183 M w0 bh base v hs) (hh:pO hs) (hi:i<ls.length) (hk:k≤1099511627776) (hl:hs.length≤1099511627776):
  Spec Tryz.prog 108 #[.int .i64 i,.int .i64 k,.pointer (some ⟨bl,0,none⟩),.pointer (some ⟨b4,0,none⟩)] w0 (fun v' w'=>∃M' v2 pF,rf 180 183 M' w' bh base v2 pF∧pO pF∧pF.Perm (hs++Js ls i k)∧Lt M' w'∧Step M w0 M' w' (NB 183 M w0 bh base)):=by
 have hlen:=ei hv;obtain⟨li,VS⟩:∃x,ls[i]? =some x:=⟨_,au hi⟩;have oR:ls.getD i []=li:=by rw[aA,VS];rfl
 refine bg (args:=[_,_,_,_]) (fn:=Tryz.f108) Tryz.func108 rfl (n:=27) Tryz.ntmps108 (aj (ae (ad rfl rfl (aP cL rfl rfl rfl kY rfl (ad rfl rfl ?_)))));refine cE (M:=M) cL j7 rfl rfl rfl (hv) (aq _ _) (by first|omega|decide) (fun aru ahZ aat al0=>?_);obtain rfl:li=ahZ:=du (aI (aat.symm.trans (by rw[ay];exact VS)));refine bT (M:=M) an rfl rfl rfl rfl rfl (by assumption) (by repeat (first|exact aq _ _|refine aY (bu (by assumption)) ?_)) (fun ah0 NU=>?_);replace NU:(((RT.int .i64).sl)).V M _ li ah0:=NU
 first|refine bR an rfl (by assumption) rfl ?_|refine fO an rfl (by assumption) rfl ?_
 refine cn rfl rfl rfl (ab ?_);refine bN rfl (fun c0=>?_) (fun c0=>?_)
 ·obtain⟨n,hn⟩:∃x,li[k]? =some x:=⟨_,au (by omega)⟩;have rn:lO n:=A3 NU hn;have TY:Js ls i k=[(n,(i:Int),(k:Int))]:=by unfold Js;rw[oR,hn]
  apply T.Ah (M:=M) mixed [] [cJ.eq _,cJ.eq (.iface 178 (.pointer (some ⟨bh,0,none⟩))),cJ.eq _,cJ.eq _,cJ.ptr (((RT.int .i64).sl)) li,cJ.V (((RT.int .i64).sl)) li,cJ.eq _,cJ.ptr (RT.int .i64) n,cJ.eq (.int .i64 n),cJ.eq _,cJ.eq _,cJ.eq (.agg #[.int .i64 n,.int .i64 i,.int .i64 k]),cJ.eq (.iface 183 (.agg #[.int .i64 n,.int .i64 i,.int .i64 k]))] 13
  ·rfl
  ·rfl
  ·rfl
  ·rfl
  ·rfl
  ·exact fun p hp=>by cases hp
  ·exact uF.none
  ·refine aF ?_ ?_
   ·intro wD E sD;refine aP dh rfl rfl rfl (sD.aK qZ) rfl ?_;exact ab ⟨rfl,rfl,_,rfl,rfl,aw _ _⟩
   refine aF ?_ ?_
   ·intro wD E sD;refine aR (Rg.xm dh rfl rfl rfl ?_);exact ab ⟨rfl,rfl,_,rfl,rfl,aw _ _⟩
   refine aF ?_ ?_
   ·intro wD E sD;refine aP cL rfl rfl rfl (sD.aK kY) rfl ?_;exact ab ⟨rfl,rfl,_,rfl,rfl,aw _ _⟩
   refine aF ?_ ?_
   ·intro wD E sD;refine ad rfl rfl ?_;exact ab ⟨rfl,rfl,_,rfl,rfl,aw _ _⟩
   refine aF ?_ ?_
   ·intro wD E sD;refine aR (aR ?_);refine cE (M:=M) cL j7 rfl rfl rfl (hv.le sD.le) (aq _ _) (by omega) (fun ui ai lD hui=>?_);obtain rfl:li=ai:=du (aI (lD.symm.trans (by rw[ay];exact VS)));exact ab ⟨rfl,rfl,_,rfl,hui,aw _ _⟩
   refine aF ?_ ?_
   ·intro wD E sD;intro v4 pT;refine bT (M:=M) an rfl rfl rfl rfl rfl (show cP (((RT.int .i64).sl)) M wD v4 li from pT) (aq _ _) (fun va lL=>?_);exact ab ⟨rfl,rfl,_,rfl,lL,aw _ _⟩
   refine aF ?_ ?_
   ·intro wD E sD;refine ad rfl rfl ?_;exact ab ⟨rfl,rfl,_,rfl,rfl,aw _ _⟩
   refine aF ?_ ?_
   ·intro wD E sD;intro v5 pU;refine aR ?_;refine cE (M:=M) an I3 rfl rfl rfl ((show((RT.int .i64).sl).V M wD li v5 from pU)) (aq _ _) (by omega) (fun ui ai lD hui=>?_);obtain rfl:n=ai:=du (aI (lD.symm.trans (by rw[ay];exact hn)));exact ab ⟨rfl,rfl,_,rfl,hui,aw _ _⟩
   refine aF ?_ ?_
   ·intro wD E sD;intro v7 FR;refine cb (M:=M) ax rfl rfl (show cP (RT.int .i64) M wD v7 n from FR) (aq _ _) (fun kg=>?_);exact ab ⟨rfl,rfl,_,rfl,rfl,aw _ _⟩
   refine aF ?_ ?_
   ·intro wD E sD;refine ad rfl rfl ?_;exact ab ⟨rfl,rfl,_,rfl,rfl,aw _ _⟩
   refine aF ?_ ?_
   ·intro wD E sD;refine ad rfl rfl ?_;exact ab ⟨rfl,rfl,_,rfl,rfl,aw _ _⟩
   refine aF ?_ ?_
   ·intro wD E sD;refine aR (aR (aR (iI (places:=[(0,1),(1,1),(2,1)]) dI lP ahX rfl ⟨_,_,rfl,rfl,_,_,rfl,rfl,_,_,rfl,rfl,rfl⟩ (out:=[_,_,_]) ⟨0,[_],rfl,rfl,by simp[Value.cells],1,[_],rfl,rfl,by simp[Value.cells],2,[_],rfl,rfl,by simp[Value.cells],rfl⟩ ?_)));exact ab ⟨rfl,rfl,_,rfl,rfl,aw _ _⟩
   refine aF ?_ ?_
   ·intro wD E sD;refine aR (Rg.xm dI rfl rfl rfl ?_);exact ab ⟨rfl,rfl,_,rfl,rfl,aw _ _⟩
   exact rU
  ·intro EY lU;refine aR (aR (aR (aR ?_)));intro ah2 aau;intro arv al1;refine aR ?_;intro Ze RS;refine aR (aR (aR (aR (aR ?_))));refine aW rfl rfl ahY (JL (lU.lt hM) (h.aM lU) hh rn (by unfold lO;omega) (by unfold lO;omega) hl) (fun r w1 hq=>?_);obtain⟨M1,v1,pF,h1,hh1,OF,nC,s1⟩:=hq;refine ab ?_
   first|refine qQ ?_|simp+decide only[qR,jz,if_true,if_false]|skip
   exact fW rfl ⟨M1,v1,pF,h1,hh1,by rw[TY];exact OF,nC,lU.nb0.nb s1⟩
 ·have TY:Js ls i k=[]:=by unfold Js;rw[oR,dN (by omega)]
  refine aT ?_
  first|refine qQ ?_|simp+decide only[qR,jz,if_true,if_false]|skip
  exact fW rfl ⟨M,v,hs,h,hh,by rw[TY,fP],hM,(aw _ _).nb0⟩
end Go.K
namespace Go.K
open Go.Proofs
namespace TKRises11
theorem PX:Enters Tryz.prog 51:=enters Tryz.func51 rfl (by decide)
theorem ah3:Enters Tryz.prog 106:=enters Tryz.func106 rfl (by decide)
theorem ah4:Enters Tryz.prog 107:=enters Tryz.func107 rfl (by decide)
theorem ah5:Enters Tryz.prog 156:=enters Tryz.func156 rfl (by decide)
theorem ah6:Enters Tryz.prog 157:=enters Tryz.func157 rfl (by decide)
theorem ah7:Enters Tryz.prog 158:=enters Tryz.func158 rfl (by decide)
end TKRises11
open TKRises11
set_option maxRecDepth 10000
theorem EB {M:aC} {w0:World} {v:Value} {l:List Int} (hM:Lt M w0) (hv:((RT.int .i64).sl).V M w0 l v) (hl:l.length≤1099511627776):
  Spec Tryz.prog 107 #[v] w0 (fun v' w'=>v'= .bool (eA (-1) l)∧Step M w0 M w' aD):=by
 refine bg (args:=[_]) (fn:=Tryz.f107) Tryz.func107 rfl (n:=25) Tryz.ntmps107 (aj (ae (ah rfl rfl (ab (aj (ae (ad rfl rfl (bR an rfl hv rfl (tc rfl rfl rfl (ad rfl rfl ?_))))))))));refine aN (g:=6) rfl (fun jH=>?_) (fun jH=>?_)
 ·refine ar rfl rfl rfl rfl (ar rfl rfl rfl rfl (ar rfl rfl rfl rfl (ar rfl rfl rfl rfl (ar rfl rfl rfl rfl (cr rfl rfl rfl (cr rfl rfl rfl (ar rfl rfl rfl rfl (ar rfl rfl rfl rfl (cr rfl rfl rfl (cr rfl rfl rfl (cr rfl rfl rfl ?_)))))))))));refine cr rfl rfl rfl (cr rfl rfl rfl (cr rfl rfl rfl (cr rfl rfl rfl (ar rfl rfl rfl rfl (aX rfl rfl rfl (ah rfl rfl (ab (aQ ?_))))))))
  first
  |(obtain rfl:l=[]:=cT.1 (by omega)
    exact aV rfl rfl ⟨rfl,aw _ _⟩)
  |exact aV rfl rfl ⟨congrArg Value.bool (by
    rw[lF,ie (by omega),decide_eq_true_iff,iy hx];exact⟨fun h=>⟨B4,ud,OL.1 (by omega)⟩,fun h=>by have:=OL.2 h.2.2;omega⟩),(s1.aB S3.back)⟩
  |exact aV rfl rfl ⟨congrArg Value.bool (du (by
    rw[de];intro h;exact ud ((ie (by omega)).1 h).2.1)),s1⟩
  |exact aV rfl rfl ⟨congrArg Value.bool (du (by
    rw[de];intro h;have:=((ie (by omega)).1 h).1;rw[iy hx]at this;exact B4 this)),aw _ _⟩
 ·refine al rfl rfl (ad rfl rfl (al rfl rfl ?_));obtain⟨x,hx⟩:∃x,(l)[0]? =some x:=⟨_,au (by omega)⟩;refine cE (M:=M) an I3 rfl rfl rfl (hv) (aq _ _) (by first|omega|decide) (fun arw ah8 aav al2=>?_);obtain rfl:x=ah8:=du (aI (aav.symm.trans hx));refine al rfl rfl ?_;refine cb (M:=M) ax rfl rfl (by assumption) (by repeat (first|exact aq _ _|refine aY (bu (by assumption)) ?_)) (fun Sn=>?_);refine aU (v':= .int .i64 (x)) rfl ?_;replace Sn: -9223372036854775808≤(x:Int)∧x≤9223372036854775807:=Sn;refine al rfl rfl (dT rfl rfl rfl (al rfl rfl (ad rfl rfl ?_)));refine aN (g:=11) rfl (fun B4=>?_) (fun B4=>?_)
  ·refine al rfl rfl (ad rfl rfl (al rfl rfl ?_));refine aW rfl rfl ah6 (zW hv (by omega)) (fun r1 w1 h=>?_);obtain⟨rfl,s1⟩:=h;refine al rfl rfl (aX rfl rfl rfl (al rfl rfl (ad rfl rfl ?_)));refine aN (g:=15) rfl (fun ud=>?_) (fun ud=>?_)
   ·refine al rfl rfl (ad rfl rfl (al rfl rfl ?_));refine aW rfl rfl PX (Et (s1.lt hM) (hv.le s1.le) hl) (fun r2 w2 h=>?_);obtain⟨M2,sM,EZ,s2⟩:=h;refine al rfl rfl ?_;refine aW rfl rfl ah7 (BY sM hl) (fun r3 w3 h=>?_);obtain⟨ac,kc,cc,rfl,OL,s3⟩:=h;have S3:=s2.cf s3 (fun b hb=>(sM.base b hb).1);refine al rfl rfl (Rg.oM an rfl rfl (al rfl rfl (ad rfl rfl (al rfl rfl (bR an rfl hv rfl (al rfl rfl (tc rfl rfl rfl (al rfl rfl (aX rfl rfl rfl (aE rfl rfl rfl (ah rfl rfl ?_)))))))))));refine ab (aQ ?_)
    first
    |(obtain rfl:l=[]:=cT.1 (by omega)
      exact aV rfl rfl ⟨rfl,aw _ _⟩)
    |exact aV rfl rfl ⟨congrArg Value.bool (by
      rw[lF,ie (by omega),decide_eq_true_iff,iy hx];exact⟨fun h=>⟨B4,ud,OL.1 (by omega)⟩,fun h=>by have:=OL.2 h.2.2;omega⟩),(s1.aB S3.back)⟩
    |exact aV rfl rfl ⟨congrArg Value.bool (du (by
      rw[de];intro h;exact ud ((ie (by omega)).1 h).2.1)),s1⟩
    |exact aV rfl rfl ⟨congrArg Value.bool (du (by
      rw[de];intro h;have:=((ie (by omega)).1 h).1;rw[iy hx]at this;exact B4 this)),aw _ _⟩
   ·refine ar rfl rfl rfl rfl (ar rfl rfl rfl rfl (ar rfl rfl rfl rfl (ar rfl rfl rfl rfl (ar rfl rfl rfl rfl (ar rfl rfl rfl rfl (ar rfl rfl rfl rfl (al rfl rfl (aE rfl rfl rfl (aE rfl rfl rfl (ah rfl rfl (ab ?_)))))))))));refine aQ ?_
    first
    |(obtain rfl:l=[]:=cT.1 (by omega)
      exact aV rfl rfl ⟨rfl,aw _ _⟩)
    |exact aV rfl rfl ⟨congrArg Value.bool (by
      rw[lF,ie (by omega),decide_eq_true_iff,iy hx];exact⟨fun h=>⟨B4,ud,OL.1 (by omega)⟩,fun h=>by have:=OL.2 h.2.2;omega⟩),(s1.aB S3.back)⟩
    |exact aV rfl rfl ⟨congrArg Value.bool (du (by
      rw[de];intro h;exact ud ((ie (by omega)).1 h).2.1)),s1⟩
    |exact aV rfl rfl ⟨congrArg Value.bool (du (by
      rw[de];intro h;have:=((ie (by omega)).1 h).1;rw[iy hx]at this;exact B4 this)),aw _ _⟩
  ·refine ar rfl rfl rfl rfl (ar rfl rfl rfl rfl (al rfl rfl (aE rfl rfl rfl (al rfl rfl (ad rfl rfl (ar rfl rfl rfl rfl (ar rfl rfl rfl rfl (ar rfl rfl rfl rfl (ar rfl rfl rfl rfl (ar rfl rfl rfl rfl (ar rfl rfl rfl rfl ?_)))))))))));refine ar rfl rfl rfl rfl (al rfl rfl (aE rfl rfl rfl (aE rfl rfl rfl (ah rfl rfl (ab (aQ ?_))))))
   first
   |(obtain rfl:l=[]:=cT.1 (by omega)
     exact aV rfl rfl ⟨rfl,aw _ _⟩)
   |exact aV rfl rfl ⟨congrArg Value.bool (by
     rw[lF,ie (by omega),decide_eq_true_iff,iy hx];exact⟨fun h=>⟨B4,ud,OL.1 (by omega)⟩,fun h=>by have:=OL.2 h.2.2;omega⟩),(s1.aB S3.back)⟩
   |exact aV rfl rfl ⟨congrArg Value.bool (du (by
     rw[de];intro h;exact ud ((ie (by omega)).1 h).2.1)),s1⟩
   |exact aV rfl rfl ⟨congrArg Value.bool (du (by
     rw[de];intro h;have:=((ie (by omega)).1 h).1;rw[iy hx]at this;exact B4 this)),aw _ _⟩
theorem EC {M:aC} {w0:World} {v:Value} {l:List Int} (hM:Lt M w0) (hv:((RT.int .i64).sl).V M w0 l v) (hl:l.length≤1099511627776):
  Spec Tryz.prog 106 #[v] w0 (fun v' w'=>v'= .bool (decide (eA (-1) l=false))∧Step M w0 M w' aD):=by
 refine bg (args:=[_]) (fn:=Tryz.f106) Tryz.func106 rfl (n:=6) Tryz.ntmps106 (aj (ae (ah rfl rfl (ab (aj (ae (ad rfl rfl ?_)))))));refine aW rfl rfl ah4 (EB hM hv hl) (fun r1 w1 h=>?_);obtain⟨rfl,s1⟩:=h;refine mJ rfl rfl (aU (v':= .bool (decide (eA (-1) l=false))) (congrArg Value.bool (by cases eA (-1) l<;>rfl)) (ah rfl rfl (ab (aQ ?_))));exact aV rfl rfl ⟨rfl,s1⟩
theorem ED {M:aC} {w0:World} {v:Value} {ls:List (List Int)} (hM:Lt M w0) (hv:(((RT.int .i64).sl).sl).V M w0 ls v) (hl:∀l∈ls,l.length≤1099511627776):
  Spec Tryz.prog 156 #[v,.func (.func 106) #[] #[]] w0 (fun v' w'=>(∃r:Int,v'= .int .i64 r∧(r≥0↔∃l∈ls,eA (-1) l=false))∧Step M w0 M w' aD):=by
 have hlen:=ei hv;refine bg (args:=[_,_]) (fn:=Tryz.f156) Tryz.func156 rfl (n:=19) Tryz.ntmps156 (aj (ae (ah rfl rfl (ab (aj (aj (ae (ad rfl rfl (bR cL rfl hv rfl (ad rfl rfl (ab ?_)))))))))));refine aZ ?_;refine dn (σ:=Nat) (fun s=>[(0,v),(1,.func (.func 106) #[] #[]),(7,.int .i64 ls.length),(8,.int .i64 s)]) (fun s w=>s≤ls.length∧(∀t,t<s→∀l,ls[t]? =some l→eA (-1) l=true)∧Step M w0 M w aD) (fun s=>ls.length-s) 0 (.cons rfl (.cons rfl (.cons rfl (.cons rfl .nil)))) ?_ ?_
 ·exact⟨bG _,fun t h=>by omega,aw _ _⟩
 ·rintro k w2 ⟨hk,j4,S⟩;refine aj (ae (cn rfl rfl rfl (ab (aj ?_))));refine bN rfl (fun c2=>?_) (fun c2=>?_)
  ·refine aT (aj (aZ (aj (ae (ad rfl rfl (ah rfl rfl (ab (aj (ae (ad rfl rfl (ad rfl rfl ?_)))))))))));refine ad rfl rfl ?_;obtain⟨l,hx⟩:∃x,(ls)[k]? =some x:=⟨_,au (by omega)⟩;refine cE (M:=M) cL j7 rfl rfl rfl (hv.le S.le) (aq _ _) (by first|omega|decide) (fun Ty VK NN aag=>?_);obtain rfl:l=VK:=du (aI (NN.symm.trans (by rw[ay];exact hx)));refine bT (M:=M) an rfl rfl rfl rfl rfl (by assumption) (by repeat (first|exact aq _ _|refine aY (bu (by assumption)) ?_)) (fun ah9 NV=>?_);replace NV:(((RT.int .i64).sl)).V M _ l ah9:=NV;refine zy (first:=[]) (captured:=[]) rfl rfl rfl ah3 (EC (S.lt hM) NV (hl _ (az hx))) (fun r w1 h=>?_);obtain⟨rfl,s1⟩:=h;refine ab ?_;refine bN rfl (fun c4=>?_) (fun c4=>?_)
   ·refine aj (ae (ad rfl rfl (ah rfl rfl (ab (aQ ?_)))));exact aV rfl rfl ⟨⟨k,rfl,⟨fun _=>⟨l,az hx,c4⟩,fun _=>by omega⟩⟩,S.aB s1⟩
   ·refine aT (ae (bD rfl rfl rfl (by omega) (ad rfl rfl (ab ?_))));refine⟨rfl,k+1,(.cons rfl (.cons rfl (.cons rfl (.cons rfl .nil)))),?_,?_⟩
    ·refine⟨by omega,fun t ht l' hl'=>?_,S.aB s1⟩;rcases cy t k with h|h
     ·exact j4 t h l' hl'
     ·rw[show t=k from by omega,hx]at hl';cases hl';simpa using c4
    ·show _-(k+1)<_-k;omega
  ·refine cI (aj (ae (ah rfl rfl (ab (aQ ?_)))));refine aV rfl rfl ⟨⟨-1,rfl,⟨fun h=>by omega,fun⟨l,hm,hf⟩=>?_⟩⟩,S⟩;obtain⟨t,ht⟩:=bE.1 hm;have:=j4 t (by have:=(ao.1 ht).1;omega) l ht;rw[this]at hf;cases hf
theorem y9 {M:aC} {w0:World} {v:Value} {ls:List (List Int)} (hM:Lt M w0) (hv:(((RT.int .i64).sl).sl).V M w0 ls v) (hl:∀l∈ls,l.length≤1099511627776):
  Spec Tryz.prog 105 #[v,.func (.func 106) #[] #[]] w0 (fun v' w'=>v'= .bool (decide (¬Up ls))∧Step M w0 M w' aD):=by
 refine bg (args:=[_,_]) (fn:=Tryz.f105) Tryz.func105 rfl (n:=9) Tryz.ntmps105 (aj (ae (ah rfl rfl (ab (aj (ae (ad rfl rfl (ad rfl rfl ?_))))))));refine aW rfl rfl ah5 (ED hM hv hl) (fun r1 w1 h=>?_);obtain⟨⟨r0,rfl,hr⟩,s1⟩:=h;refine dT rfl rfl rfl (ah rfl rfl (ab (aQ ?_)));refine aV rfl rfl ⟨congrArg Value.bool (decide_eq_decide.2 (hr.trans ?_)),s1⟩;unfold Up;constructor
 ·rintro⟨l,hm,hf⟩ h;rw[h l hm]at hf;cases hf
 ·intro h;refine Classical.byContradiction fun hn=>h fun l hm=> ?_
  cases Ox:eA (-1) l with
  |true=>rfl
  |false=>exact absurd ⟨l,hm,Ox⟩ hn
end Go.K
namespace Go.K
open Go.Proofs
namespace TKOrder11
theorem kj:TI Tryz.prog 124 (.agg #[(.int .i64 0),(.int .i64 0)]) 2 16:=by unfold TI;kernel_rfl
theorem aaw:TI Tryz.prog 178 (.pointer none) 1 8:=by unfold TI;kernel_rfl
theorem lP:TI Tryz.prog 183 (.agg #[(.int .i64 0),(.int .i64 0),(.int .i64 0)]) 3 24:=by unfold TI;kernel_rfl
theorem aib:Enters Tryz.prog 105:=enters Tryz.func105 rfl (by decide)
theorem aax:Enters Tryz.prog 108:=enters Tryz.func108 rfl (by decide)
theorem QC:Enters Tryz.prog 110:=enters Tryz.func110 rfl (by decide)
theorem aic:Enters Tryz.prog 111:=enters Tryz.func111 rfl (by decide)
end TKOrder11
open TKOrder11
set_option maxRecDepth 10000
theorem zc {M:aC} {w0:World} {v:Value} {ls:List (List Int)} (hM:Lt M w0) (hv:(((RT.int .i64).sl).sl).V M w0 ls v) (Il:ls.length≤1099511627776) (hl:∀l∈ls,l.length≤1099511627776) (Vd:rz ls≤1099511627776):
  Spec Tryz.prog 59 #[v] w0 (fun v' w'=>∃M',Lt M' w'∧Step M w0 M' w' aD∧∃vo:Value,∃e:Int,v'= .tuple #[vo,.int .i64 e]∧((¬Up ls∧e=1∧vo= .slice none 0 0)∨(Up ls∧∃r,re ls r∧((r=none∧e=5∧vo= .slice none 0 0)∨∃out,r=some out∧e=0∧(dW out).length≤1099511627776∧Own RT.fo 124 M' w' w0.heap.size vo (dW out))))):=by
 have hlen:=ei hv;refine bg (args:=[_]) (fn:=Tryz.f59) Tryz.func59 rfl (n:=55) Tryz.ntmps59 (aj (ae ?_));refine wJ M rfl rfl (fun bl wb zb zb' gb sb=>?_);have gb:wb.heap[bl]? =some (.cells #[v] 119 (0,0)):=by rw[gb];obtain⟨a,cap,rfl,_⟩:=iz.1 hv;rfl
 refine ah rfl rfl (ah rfl rfl (ab (aj (aj (ae (aP cL rfl rfl rfl gb rfl ?_))))));refine aW rfl rfl aib (y9 (M:=ins M bl) (sb.lt hM) (hv.le sb.le) hl) (fun rc wc h=>?_);obtain⟨rfl,sc⟩:=h;have kY:=sc.aK gb;have Sc:=sb.aB sc;clear gb;refine ab ?_;refine bN rfl (fun c1=>?_) (fun c1=>?_)
 ·refine aj (ae (ah rfl rfl (ah rfl rfl (ab (aQ ?_)))));exact eS rfl rfl rfl ⟨_,Sc.lt hM,Sc,_,1,rfl,.inl ⟨c1,rfl,rfl⟩⟩
 ·refine aT (aj (ae ?_));have Cs:Up ls:=Classical.byContradiction c1;refine Rg.Xz bS lP (ins M bl) rfl (fun g wg zg zg' gg sg=>?_);have Sg:=Sc.aB sg;have aay:=sg.aK kY;clear kY;refine wJ (ins (ins M bl) g) rfl rfl (fun bh wh zh zh' gh sh=>?_);have gh:wh.heap[bh]? =some (.cells #[.slice (some ⟨g,0,none⟩) 0 0] 180 (0,0)):=gh;have Sh:=Sg.aB sh;have aaz:=sh.aK aay;have ggh:=sh.aK gg;clear aay gg;refine ek (ins (ins (ins M bl) g) bh) aaw rfl (fun b4 w4 z4 z4' g4 s4=>?_);have S4:=Sh.aB s4;have JM:=s4.aK aaz;have gg4:=s4.aK ggh;have gh4:=s4.aK gh;clear aaz ggh gh;refine cu (M:=ins (ins (ins (ins M bl) g) bh) b4) (u:= .pointer none) aaw rfl rfl g4 rfl rfl (.inl rfl) (fun w5 g5 s5=>?_);have qZ:w5.heap[b4]? =some (.cells #[.pointer (some ⟨bh,0,none⟩)] 178 (0,0)):=g5;have hz:=Sc.size;have z2:=sg.size;have z3:=sh.size;have hz5:=ak JM;have kY:=s5.keep JM (fun e=>by have e:bl=b4:=e;have:=ak JM;have:=Sh.size;rw[e]at JM;rw[g4]at JM;simp at JM);have gg5:=s5.keep gg4 (fun e=>by have e:g=b4:=e;omega);have gh5:=s5.keep gh4 (fun e=>by have e:bh=b4:=e;omega);have S5:=S4.cf s5 (fun b hb=>by have hb:b=b4:=hb;omega);have hM5:=S5.lt hM;have hp5:rf 180 183 (ins (ins (ins (ins M bl) g) bh) b4) w5 bh w0.heap.size (.slice (some ⟨g,0,none⟩) 0 0) []:=⟨gh5,.inr (.inl rfl),Own.empty gg5 (by omega) (.inr (.inr (.inl rfl))),by simp,by decide⟩;refine ab (aj (ae (j5 (xs:=[]) (ys:=[.tmp 1,.tmp 4]) rfl rfl rfl (ah rfl rfl (ab (aj (aj (ae (aP cL rfl rfl rfl kY rfl (bR cL rfl (hv.le S5.le) rfl (ad rfl rfl ?_)))))))))));refine ab (aZ ?_);refine dn (σ:=Nat×List Hd) (fun s=>[(1,.pointer (some ⟨bl,0,none⟩)),(2,.slice none 0 0),(3,.int .i64 0),(4,.pointer (some ⟨b4,0,none⟩)),(5,.func (.func 108) #[] #[.pointer (some ⟨bl,0,none⟩),.pointer (some ⟨b4,0,none⟩)]),(16,.int .i64 ls.length),(17,.int .i64 s.1)]) (fun s w=>s.1≤ls.length∧oc ls (fun _=>0) s.1 s.2∧pO s.2∧(∃M1 v1,Lt M1 w∧rf 180 183 M1 w bh w0.heap.size v1 s.2∧Step M w0 M1 w aD∧w.heap[bl]? =some (.cells #[v] 119 (0,0))∧w.heap[b4]? =some (.cells #[.pointer (some ⟨bh,0,none⟩)] 178 (0,0)))) (fun s=>ls.length-s.1) (0,[]) (.cons rfl (.cons rfl (.cons rfl (.cons rfl (.cons rfl (.cons rfl (.cons rfl .nil))))))) ?_ ?_
  ·exact⟨bG _,oc.zero ls,fun k h0 hk=>by simp at hk,_,_,hM5,hp5,S5,kY,qZ⟩
  ·rintro⟨i,hs⟩ w1 ⟨hi,J5,hh,M1,v1,nC,h,S,kY,qZ⟩;dsimp only at hi J5 hh h ⊢;clear hp5;refine aj (ae (cn rfl rfl rfl (ab (aj ?_))));refine bN rfl (fun c6=>?_) (fun c6=>?_)
   ·refine aT (aj (aZ (aj (ae (ad rfl rfl (ah rfl rfl (ab (ae (ad rfl rfl (ad rfl rfl ?_))))))))));refine zy (first:=[]) (captured:=[.pointer (some ⟨bl,0,none⟩),.pointer (some ⟨b4,0,none⟩)]) rfl rfl rfl aax (EA (i:=i) (k:=0) nC kY qZ (hv.le S.le) h hh (by omega) (by omega) (by have:=J5.len;omega)) (fun rp w2 hq=>?_);obtain⟨M2,v2,vN,h2,hh2,Iz,EZ,s2⟩:=hq;have kY:=s2.keep kY (NB.not ⟨_,_,kY⟩ (by decide) (fun e=>by subst e;have:=kY.symm.trans h.h;simp at this));have qZ:=s2.keep qZ (NB.not ⟨_,_,qZ⟩ (by decide) (fun e=>by subst e;have:=qZ.symm.trans h.h;simp at this));refine ab (ae (bD rfl rfl rfl (by omega) (ad rfl rfl (ab ?_))));refine⟨rfl,(i+1,vN),(.cons rfl (.cons rfl (.cons rfl (.cons rfl (.cons rfl (.cons rfl (.cons rfl .nil))))))),?_,?_⟩
    ·exact⟨by simp only;omega,J5.fill (by omega) Iz,hh2,M2,v2,EZ,h2,S.cf s2 (fun b hb=>hb.2.elim (fun e=>by have e:b=bh:=e;omega) (fun h=>h.1)),kY,qZ⟩
    ·show ls.length-(i+1)<ls.length-i;omega
   ·refine cI (aj (ae (ah rfl rfl (ab (aj (aj (ae (ah rfl rfl (ab (aZ ?_))))))))));obtain rfl:i=ls.length:=by omega
    refine dn (σ:=(Nat→Nat)×List Hd×Int×Value×List Hd) (fun s=>[(1,.pointer (some ⟨bl,0,none⟩)),(4,.pointer (some ⟨b4,0,none⟩)),(5,.func (.func 108) #[] #[.pointer (some ⟨bl,0,none⟩),.pointer (some ⟨b4,0,none⟩)]),(7,s.2.2.2.1),(8,.int .i64 s.2.2.1)]) (fun s w=>yT ls s.1 s.2.1 s.2.2.1∧oc ls s.1 ls.length s.2.2.2.2∧pO s.2.2.2.2∧lO s.2.2.1∧(∃M1 v1,Lt M1 w∧rf 180 183 M1 w bh w0.heap.size v1 s.2.2.2.2∧Step M w0 M1 w aD∧w.heap[bl]? =some (.cells #[v] 119 (0,0))∧w.heap[b4]? =some (.cells #[.pointer (some ⟨bh,0,none⟩)] 178 (0,0))∧Own RT.fo 124 M1 w w0.heap.size s.2.2.2.1 (dW s.2.1))) (fun s=>rem ls s.1) (fun _=>0,[],-1,_,hs) (.cons rfl (.cons rfl (.cons rfl (.cons rfl (.cons rfl .nil))))) ?_ ?_
    ·exact⟨yT.zero ls Cs,J5,hh,⟨by simp only;decide,by simp only;decide⟩,M1,v1,nC,h,S,kY,qZ,dz _ _ _ _ _⟩
    ·clear h kY qZ S nC;rintro⟨at_,out,last,vo,hs⟩ w1 ⟨Sq,J5,hh,hlr,M1,v1,nC,h,S,kY,qZ,ho⟩;dsimp only at Sq J5 hh hlr h ho ⊢;refine aj (aj (ae (aP dh rfl rfl rfl qZ rfl (bQ rfl ⟨_,rfl⟩ rfl (aP bS rfl rfl rfl h.h rfl ?_)))));refine aW rfl rfl QC (vD h.o) (fun rl wl h=>?_);obtain⟨rfl,rfl⟩:=h;refine jv rfl rfl rfl (ab ?_);refine bN rfl (fun Pp=>?_) (fun Pp=>?_)
     ·refine aT (aZ (aj (ae (aP dh rfl rfl rfl qZ rfl (Rg.xm dh rfl rfl rfl ?_)))));refine aW rfl rfl aic (NT nC h hh (by omega) (by have:=J5.len;omega)) (fun rp w2 h=>?_);obtain⟨a,b,c,M2,v2,vN,rfl,⟨ra,rb,rc⟩,h2,hh2,Iz,ND,EZ,s2⟩:=h;have kY:=s2.keep kY (NB.not ⟨_,_,kY⟩ (by decide) (fun e=>by subst e;have:=kY.symm.trans h.h;simp at this));have qZ:=s2.keep qZ (NB.not ⟨_,_,qZ⟩ (by decide) (fun e=>by subst e;have:=qZ.symm.trans h.h;simp at this));have S2:=S.cf s2 (fun b hb=>hb.2.elim (fun e=>by have e:b=bh:=e;omega) (fun h=>h.1));have sM:=ho.step s2 (fun k hk=>NB.not (ho.bt k hk) (by decide) (ho.apart h.h (by decide) k hk));obtain⟨i,n,hi,kg,vR⟩:=(J5.2 _).1 (Iz.mem_iff.1 (bK ..));simp only[ef]at kg;obtain⟨rfl,rfl,rfl⟩:=kg;have MJ:=vR.lt.2
      have dQ:qz ls i≤1099511627776:=by
       obtain⟨l,Q6,_⟩:=vR;unfold qz;rw[aA,Q6];exact hl _ (az Q6)
      have Sr:∀j m,Tr ls j (at_ j) m→a≤m:=fun j m hj=>ND _ ((J5.2 (m,(j:Int),((at_ j:Nat):Int))).2 ⟨j,m,hj.lt.1,rfl,hj⟩)
      have Jj:RT.hd.V M2 w2 (a,(i:Int),((at_ i:Nat):Int)) _:=NF ra rb rc;clear h s2;refine Rg.Hk dI rfl rfl rfl ?_;refine rR (A:=RT.hd) (M:=M2) lP rfl rfl rfl rfl rfl Jj (aq _ _) EZ (fun u3 w3 RA s3 z3=>?_);have kY:=s3.aK kY;have qZ:=s3.aK qZ;have h3:=h2.aM s3;have yE:=sM.aM s3;have S3:=S2.aB s3;have Zj:=s3.lt EZ;have hz3:=S3.size;refine ab (aj (aj (ae ?_)));refine aL (M:=M2) (A:=RT.hd) (B:=RT.int .i64) dI rfl rfl I3 (by decide) (R6) rfl rfl (by decide) (by assumption) (by repeat (first|exact aq _ _|refine aY (bu (by assumption)) ?_)) (fun Zw MX=>?_);refine cb (M:=M2) ax rfl rfl (by assumption) (by repeat (first|exact aq _ _|refine aY (bu (by assumption)) ?_)) (fun NW=>?_);refine aU (v':= .int .i64 (a)) rfl ?_;replace NW: -9223372036854775808≤(a:Int)∧a≤9223372036854775807:=NW;refine ad rfl rfl (tc rfl rfl rfl (ab ?_));refine bN rfl (fun Cm=>?_) (fun Cm=>?_)
      ·refine aj (ae (ah rfl rfl (ah rfl rfl (ab (aQ ?_)))));exact eS rfl rfl rfl ⟨_,Zj,S3,_,5,rfl,.inr ⟨Cs,none,Sq.ZX Cs vR Cm,.inl ⟨rfl,rfl,rfl⟩⟩⟩
      ·refine aT (aj (ae (ad rfl rfl ?_)));refine aL (M:=M2) (A:=RT.hd) (B:=RT.int .i64) dI rfl rfl I3 (by decide) (hd1) rfl rfl (by decide) (by assumption) (by repeat (first|exact aq _ _|refine aY (bu (by assumption)) ?_)) (fun al4 aid=>?_);refine cb (M:=M2) ax rfl rfl (by assumption) (by repeat (first|exact aq _ _|refine aY (bu (by assumption)) ?_)) (fun NX=>?_);refine aU (v':= .int .i64 ((i:Int))) rfl ?_;replace NX: -9223372036854775808≤((i:Int):Int)∧(i:Int)≤9223372036854775807:=NX;refine aL (M:=M2) (A:=RT.hd) (B:=RT.int .i64) dI rfl rfl I3 (by decide) (hd2) rfl rfl (by decide) (by assumption) (by repeat (first|exact aq _ _|refine aY (bu (by assumption)) ?_)) (fun al5 aie=>?_);refine cb (M:=M2) ax rfl rfl (by assumption) (by repeat (first|exact aq _ _|refine aY (bu (by assumption)) ?_)) (fun NY=>?_);refine aU (v':= .int .i64 (((at_ i:Nat):Int))) rfl ?_;replace NY: -9223372036854775808≤(((at_ i:Nat):Int):Int)∧((at_ i:Nat):Int)≤9223372036854775807:=NY;refine Rg.Pc cx kj I3 rfl rfl rfl ?_;refine eg (A:=RT.fo) (hn:=by decide) (M:=M2) eP kj (by decide) rfl rfl Zj (acP rb rc) (.inl rfl) (fun u6 w6 FF s6=>?_);have kY:=s6.aK kY;have qZ:=s6.aK qZ;have h6:=h3.aM s6;have S6:=S3.aB s6;have Ji:=s6.lt Zj;have hz6:=S6.size;have UY:=Sq.f;have hlo:(dW out).length=out.length:=by unfold dW;simp
       refine cX (M:=M2) (base:=w0.heap.size) eP kj rfl rfl rfl rfl (yE.aM s6) FF (aq _ _) (by rw[hlo];simp;omega) (by rw[hlo];simp;omega) (by omega) (fun vo7 M7 w7 mU s7=>?_);have ta:∀k,vo.ownBlock=some k→k≠bl∧k≠b4∧k≠bh:=fun k hk=>⟨fun e=>(yE.aM s6).apart kY (by decide) k hk e,fun e=>(yE.aM s6).apart qZ (by decide) k hk e,fun e=>(yE.aM s6).apart h6.h (by decide) k hk e⟩
       have kY:=s7.keep kY (fun hk=>(ta _ hk).1 rfl);have qZ:=s7.keep qZ (fun hk=>(ta _ hk).2.1 rfl);have h7:=h6.keep s7 (fun hk=>(ta _ hk).2.2 rfl) (fun k hk A7=>(BT.ne ((yE.aM s6).bt k A7) (h6.o.bt k hk) (by decide)) rfl);have S7:=S6.cf s7 (fun b hb=>(yE.base b hb).1);have hM7:=s7.lt Ji;have hu7:=RA.le (by decide) (s6.le.trans s7.le);clear h2 h3 h6 sM yE;refine ah rfl rfl (ab (aj (ae ?_)));refine aL (M:=M7) (A:=RT.hd) (B:=RT.int .i64) dI rfl rfl I3 (by decide) (R6) rfl rfl (by decide) (by assumption) (by repeat (first|exact aq _ _|refine aY (bu (by assumption)) ?_)) (fun al6 aif=>?_);refine cb (M:=M7) ax rfl rfl (by assumption) (by repeat (first|exact aq _ _|refine aY (bu (by assumption)) ?_)) (fun NZ=>?_);refine aU (v':= .int .i64 (a)) rfl ?_;replace NZ: -9223372036854775808≤(a:Int)∧a≤9223372036854775807:=NZ;refine ah rfl rfl (ab (ae (ad rfl rfl ?_)));refine aL (M:=M7) (A:=RT.hd) (B:=RT.int .i64) dI rfl rfl I3 (by decide) (hd1) rfl rfl (by decide) (by assumption) (by repeat (first|exact aq _ _|refine aY (bu (by assumption)) ?_)) (fun al7 aih=>?_);refine cb (M:=M7) ax rfl rfl (by assumption) (by repeat (first|exact aq _ _|refine aY (bu (by assumption)) ?_)) (fun N0=>?_);refine aU (v':= .int .i64 ((i:Int))) rfl ?_;replace N0: -9223372036854775808≤((i:Int):Int)∧(i:Int)≤9223372036854775807:=N0;refine aL (M:=M7) (A:=RT.hd) (B:=RT.int .i64) dI rfl rfl I3 (by decide) (hd2) rfl rfl (by decide) (by assumption) (by repeat (first|exact aq _ _|refine aY (bu (by assumption)) ?_)) (fun al8 aii=>?_);refine cb (M:=M7) ax rfl rfl (by assumption) (by repeat (first|exact aq _ _|refine aY (bu (by assumption)) ?_)) (fun N1=>?_);refine aU (v':= .int .i64 (((at_ i:Nat):Int))) rfl ?_
       replace N1: -9223372036854775808≤(((at_ i:Nat):Int):Int)∧((at_ i:Nat):Int)≤9223372036854775807:=N1;refine bD rfl rfl rfl (by omega) (aU (v':= .int .i64 ((at_ i+1:Nat):Int)) (congrArg _ (by omega)) ?_);refine zy (first:=[]) (captured:=[.pointer (some ⟨bl,0,none⟩),.pointer (some ⟨b4,0,none⟩)]) rfl rfl rfl aax (EA (i:=i) (k:=at_ i+1) hM7 kY qZ (hv.le S7.le) h7 hh2 hi (by omega) (by have h1:=Iz.length_eq;have h2:=J5.len;rw[cM]at h1;omega)) (fun rp w8 hq=>?_);obtain⟨M8,v8,hs8,h8,hh8,hp8,hM8,s8⟩:=hq;have arH:=kY;have kY:=s8.keep kY (NB.not ⟨_,_,kY⟩ (by decide) (fun e=>by subst e;have:=kY.symm.trans h7.h;simp at this));have qZ:=s8.keep qZ (NB.not ⟨_,_,qZ⟩ (by decide) (fun e=>by subst e;have:=qZ.symm.trans h7.h;simp at this));have ho8:=mU.step s8 (fun k hk=>NB.not (mU.bt k hk) (by decide) (mU.apart h7.h (by decide) k hk));have S8:=S7.cf s8 (fun b hb=>hb.2.elim (fun e=>by have e:b=bh:=e;omega) (fun h=>h.1));refine ab ?_;refine⟨rfl,(Ed at_ i,out++[(a,(i:Int),((at_ i:Nat):Int))],a,vo7,hs8),(.cons rfl (.cons rfl (.cons rfl (.cons rfl (.cons rfl .nil))))),?_,?_⟩
       ·refine⟨Sq.step Cs vR Sr Cm,J5.next Iz hi hp8,hh8,ra,M8,v8,hM8,h8,S8,kY,qZ,?_⟩;unfold dW at ho8 ⊢;rw[dF];exact ho8
       ·show rem ls (Ed at_ i)<rem ls at_;have h1:=(Sq.step Cs vR Sr Cm).f;have h2:=Sq.f;rw[bj,dm]at h1;omega
     ·refine cI (aj (ae (ad rfl rfl (ah rfl rfl (ah rfl rfl (ab (aQ ?_)))))));have qU:hs=[]:=cT.1 (by omega);subst qU;exact eS rfl rfl rfl ⟨_,nC,S,_,0,rfl,.inr ⟨Cs,some out,Sq.fin (J5.ag6),.inr ⟨out,rfl,rfl,(by have:=Sq.f;unfold dW;rw[aH];omega),ho⟩⟩⟩
theorem EE {M:aC} {w0:World} {v:Value} {ls:List (List Int)} (hM:Lt M w0) (hv:((RT.int .i64).sl.sl).V M w0 ls v) (Il:ls.length≤1099511627776) (hl:∀l∈ls,l.length≤1099511627776) (Vd:rz ls≤1099511627776):
  Spec Tryz.prog 59 #[v] w0 (fun v' w'=>(∃vo:Value,∃e:Int,v'= .tuple #[vo,.int .i64 e]∧((¬Up ls∧e=1∧vo= .slice none 0 0)∨(Up ls∧∃r,re ls r∧((r=none∧e=5∧vo= .slice none 0 0)∨∃out,r=some out∧e=0∧((RT.fo).sl).V M w' (dW out) vo))))∧Step M w0 M w' aD):=
 (zc hM hv Il hl Vd).mono fun _ w' ⟨M',hM',S,vo,e,h0,h⟩=>⟨⟨vo,e,h0,h.imp id fun⟨hu,r,hr,h⟩=>⟨hu,r,hr,h.imp id fun⟨out,h1,h2,h3,ho⟩=>⟨out,h1,h2,xg hM S ho (by omega)⟩⟩⟩,S.back⟩
end Go.K
namespace Go.K
open Go.Proofs
namespace TKSegG
theorem E33:Enters Tryz.prog 33:=enters Tryz.func33 rfl (by decide)
theorem ZL:Enters Tryz.prog 180:=enters Tryz.func180 rfl (by decide)
end TKSegG
open TKSegG
set_option maxRecDepth 10000
theorem GU {M:aC} {w0:World} {v:Value} (hM:Lt M w0):
  Spec Tryz.prog 124 #[v] w0 (fun v' w'=>∃bp,v'= .func (.func 179) [].toArray [.pointer (some ⟨bp,0,none⟩)].toArray∧w'.heap[bp]? =some (.cells v.cells 142 (0,0))∧w0.heap.size≤bp∧Step M w0 M w' aD):=by
 refine bg (args:=[_]) (fn:=Tryz.f124) Tryz.func124 rfl (n:=4) Tryz.ntmps124 (aj (ae ?_));refine wJ M rfl rfl (fun bp w1 h1 WA hS s1=>?_);refine ah rfl rfl (ab (aj (ae (j5 (xs:=[]) (ys:=[.tmp 1]) rfl rfl rfl (ah rfl rfl (ab (aQ ?_)))))));exact aV rfl rfl ⟨bp,rfl,hS,h1,s1.back⟩
theorem EG {w0:World} {bp yl:Nat} {v:Value} {l:List Po} {J:Nat→aC→World→Prop} {M:aC} {Jx:World→Prop} (HN:∀i M w,J i M w→w.heap[bp]? =some (.cells #[v] 142 (0,0))∧Lt M w∧cP RT.li M w v (nq l)∧∀w',Step M w M w' aD→J i M w') (mN:fJ (-1) l=true) (j9:∀p∈l,p.2.length≤1099511627776) (kY:(ec (-1) l).length≤1099511627776) (Il:l.length≤1099511627776) (hy:∀(i:Nat) (M:aC) (w:World) (u:Value),J i M w→i<(l.length+7)/8→((RT.po).sl).V M w ((l.drop (8*i)).take 8) u→vT Tryz.prog yl [u].toArray w (fun r w'=>∃b,r= .bool b∧(b=true→∃M',J (i+1) M' w')∧(b=false→Jx w'))) (h0:J 0 M w0):
  Spec Tryz.prog 179 #[.func (.yield yl) #[] #[],.pointer (some ⟨bp,0,none⟩)] w0 (fun _ w'=>(∃M',J ((l.length+7)/8) M' w')∨Jx w'):=by
 obtain⟨hb0,hM,hp,ky⟩:=HN _ _ _ h0;have hnb:(nq l).2.1.length=(l.length+7)/8:=by simp[nq,qW]
 refine bg (args:=[_,_]) (fn:=Tryz.f179) Tryz.func179 rfl (n:=19) Tryz.ntmps179 (aj (ae (aP eO rfl rfl rfl hb0 rfl (bQ rfl (cP.gO hp) rfl ?_))));refine aL (M:=M) (A:=RT.li) (B:=(RT.bl).sl) eB rfl rfl IH (by decide) (li1) rfl rfl (by decide) (by assumption) (by repeat (first|exact aq _ _|refine aY (bu (by assumption)) ?_)) (fun arI ama=>?_);refine bT (M:=M) iN rfl rfl rfl rfl rfl (by assumption) (by repeat (first|exact aq _ _|refine aY (bu (by assumption)) ?_)) (fun arJ amb=>?_);refine bR iN rfl (by assumption) rfl (aU (v':= .int .i64 (((l.length+7)/8:Nat):Int)) (by rw[hnb]) (ad rfl rfl (ab (aZ ?_))));refine dn (σ:=Nat) (fun s=>[(0,.func (.yield yl) #[] #[]),(1,.pointer (some ⟨bp,0,none⟩)),(8,.int .i64 (((l.length+7)/8:Nat):Int)),(9,.int .i64 s)]) (fun s w=>(∃M1,J s M1 w)∧s≤(l.length+7)/8) (fun s=>(l.length+7)/8-s) 0 (.cons rfl (.cons rfl (.cons rfl (.cons rfl .nil)))) ?_ ?_
 ·exact⟨⟨_,h0⟩,bG _⟩
 ·rintro k w1 ⟨⟨M1,hJ⟩,hk⟩;refine aj (ae (cn rfl rfl rfl (ab (aj ?_))));refine bN rfl (fun c1=>?_) (fun c1=>?_)
  ·refine aT (aj (aZ (aj (ae (ad rfl rfl (ah rfl rfl (ab (aj (ae (ad rfl rfl ?_))))))))));obtain⟨Bk,nC,OF,aij⟩:=HN _ _ _ hJ;refine aP eO rfl rfl rfl Bk rfl (ad rfl rfl ?_);refine aW rfl rfl ZL (Gk (M:=M1) (k:=k) nC OF mN j9 kY) (fun u w4 h4=>?_);obtain⟨s4,h4⟩:=h4;rw[if_pos (by unfold WB;simp;omega),ay]at h4;refine Rg.yield rfl (vs:=[u]) rfl rfl (hy k M1 _ u (aij _ s4) (by omega) h4) (fun r4 w5 h5=>?_);obtain⟨b,rfl,Rf,qu⟩:=h5;refine mJ rfl rfl (aU (v':= .bool (decide (¬b=true))) (by simp) (ab ?_));refine bN rfl (fun c3=>?_) (fun c3=>?_)
   ·refine aQ ?_;exact Cv rfl (.inr (qu (by simpa using c3)))
   ·refine aT (ae (bD rfl rfl rfl (by omega) (ad rfl rfl (ab ?_))));refine⟨rfl,k+1,(.cons rfl (.cons rfl (.cons rfl (.cons rfl .nil)))),?_,?_⟩
    ·exact⟨Rf (dE.1 c3),by omega⟩
    ·show _-(k+1)<_-k;omega
  ·refine cI ?_;rw[show k=(l.length+7)/8 from by omega]at hJ;change wN Tryz.prog Tryz.f179 (fun _ w'=>(∃M',J ((l.length+7)/8) M' w')∨Jx w') .normal _ [] _;exact fW rfl (.inl ⟨_,hJ⟩)
end Go.K
namespace Go.K
open Go.Proofs
namespace TKSegH
theorem yB:TI Tryz.prog 80 (.slice none 0 0) 1 24:=by unfold TI;kernel_rfl
theorem aik:Enters Tryz.prog 124:=enters Tryz.func124 rfl (by decide)
theorem ail:Enters Tryz.prog 179:=enters Tryz.func179 rfl (by decide)
end TKSegH
open TKSegH
set_option maxRecDepth 10000
structure rI (M:aC) (w0:World) (v:Value) (bo D bp:Nat) (st:Obj) (vo:Value) (xs:List Po) (M1:aC) (w:World):Prop where
 lt:Lt M1 w
 S:Step M w0 M1 w aD
 mo:M1 bo
 md:M1 D
 mr:M1 (D+1)
 o:w.heap[bo]? =some (.cells #[vo] 80 (0,0))
 d:w.heap[D]? =some (.deferred (some []))
 r:w.heap[D+1]? =some st
 p:w.heap[bp]? =some (.cells #[v] 142 (0,0))
 ne:bo<D∧bp<D∧bo≠bp∧w0.heap.size≤bo∧w0.heap.size≤D
 hk:Own RT.po 83 M1 w (D+2) vo xs
section
variable {M M1 M2:aC} {w0 w w':World} {v vo:Value} {bo D bp:Nat} {st:Obj} {xs:List Po}
theorem rI.step (h:rI M w0 v bo D bp st vo xs M1 w) (s:Step M1 w M2 w' aD):rI M w0 v bo D bp st vo xs M2 w':=
 ⟨s.lt h.lt,h.S.aB s,(s.mem _ (h.lt _ h.mo)).2 h.mo,(s.mem _ (h.lt _ h.md)).2 h.md,(s.mem _ (h.lt _ h.mr)).2 h.mr,s.aK h.o,s.aK h.d,s.aK h.r,s.aK h.p,h.ne,h.hk.aM s⟩
theorem rI.mz {st':Obj} (h:rI M w0 v bo D bp st vo xs M1 w):rI M w0 v bo D bp st' vo xs M1 (w.putObj (D+1) st'):=by
 have s:Step M1 w M1 (w.putObj (D+1) st') (fun k=>k=D+1):=dS h.mr;obtain⟨e1,e2,e3,e4,e5⟩:=h.ne;exact⟨s.lt h.lt,h.S.cf s (fun k hk=>by subst hk;omega),h.mo,h.md,h.mr,s.keep h.o (by omega),s.keep h.d (by omega),wK (ak h.r),s.keep h.p (by omega),h.ne,h.hk.step s (fun k tj hh=>by have:=(h.hk.base k tj).1;omega)⟩
theorem rI.grow {Gv:Value} {Nu:List Po} (h:rI M w0 v bo D bp st vo xs M1 w) (s:Step M1 w M2 w' (fun k=>vo.ownBlock=some k)) (hk:Own RT.po 83 M2 w' (D+2) Gv Nu):
  (w'.heap[bo]? =some (.cells #[vo] 80 (0,0))∧M2 bo)∧∀{w2:World},Step M2 w' M2 w2 (fun k=>k=bo)→w2.heap[bo]? =some (.cells #[Gv] 80 (0,0))→rI M w0 v bo D bp st Gv Nu M2 w2:=by
 obtain⟨e1,e2,e3,e4,e5⟩:=h.ne;have hn:∀k,vo.ownBlock=some k→D+2≤k:=fun k hk=>(h.hk.base k hk).1
 have eL:=fun {k:Nat} (hm:M1 k)=>(s.mem k (h.lt k hm)).2 hm
 refine⟨⟨s.keep h.o (fun hh=>by have:=hn _ hh;omega),eL h.mo⟩,fun {w2} s2 hx=>?_⟩;have S':=h.S.cf s (fun k hk=>by have:=hn k hk;omega)
 exact⟨s2.lt (s.lt h.lt),S'.cf s2 (fun k hk=>by subst hk;exact e4),eL h.mo,eL h.md,eL h.mr,hx,s2.keep (s.keep h.d (fun hh=>by have:=hn _ hh;omega)) (by omega),s2.keep (s.keep h.r (fun hh=>by have:=hn _ hh;omega)) (by omega),s2.keep (s.keep h.p (fun hh=>by have:=hn _ hh;omega)) (Ne.symm e3),h.ne,
  hk.step s2 (fun k tj hh=>by have:=(hk.base k tj).1;omega)⟩
end
def VT (M:aC) (w0:World) (l:List Po) (v:Value) (bo D bp:Nat) (st:Obj) (i:Nat) (M1:aC) (w:World):Prop:=
 ∃(vo:Value),rI M w0 v bo D bp st vo (l.take (8*i)) M1 w
theorem aaA {M:aC} {w0 w2 w3:World} {v:Value} {l:List Po} {bo bp:Nat} {st:Obj} (S2:Step M w0 (ins M bo) w2 aD) (s3:Step (ins M bo) w2 (ins M bo) w3 aD) (hM:Lt M w0) (e1:w0.heap.size≤bo) (e2:bo<w2.heap.size) (e3:w2.heap.size≤bp)
  (hO:w2.heap[bo]? =some (.cells #[.slice none 0 0] 80 (0,0))) (hP:w3.heap[bp]? =some (.cells #[v] 142 (0,0))):∃M1,VT M w0 l v bo w3.heap.size bp st 0 M1 ((w3.alloc (.deferred (some []))).alloc st):=by
 have sA:Step (ins M bo) w3 (ins (ins M bo) w3.heap.size) (w3.alloc (.deferred (some []))) aD:=(cQ _ w3 _).own (aO _) (by simp);have sB:Step (ins (ins M bo) w3.heap.size) (w3.alloc (.deferred (some []))) (ins (ins (ins M bo) w3.heap.size) (w3.heap.size+1)) ((w3.alloc (.deferred (some []))).alloc st) aD:=(cQ _ _ _).own (by simp) (by simp);have z3:=s3.size;have hp3:=ak hP;have S:=((S2.aB s3).aB sA).aB sB;have hD:(w3.alloc (.deferred (some []))).heap[w3.heap.size]? =some (.deferred (some [])):=ch w3 _;have hR:((w3.alloc (.deferred (some []))).alloc st).heap[w3.heap.size+1]? =some st:=by have:=ch (w3.alloc (.deferred (some []))) st;rwa [zz]at this
 have z0:=S2.size;exact⟨_,.slice none 0 0,⟨S.lt hM,S,.inr (.inr (.inl rfl)),.inr (.inl rfl),.inl rfl,sB.aK (sA.aK (s3.aK hO)),sB.aK hD,hR,sB.aK (sA.aK hP),by omega,by rw[Nat.mul_zero,List.take_zero];exact dz _ _ _ _ _⟩⟩
set_option maxHeartbeats 2000000 in
theorem EH {M:aC} {w0:World} {v:Value} {l:List Po} (hM:Lt M w0) (hv:cP RT.li M w0 v (nq l)) (mN:fJ (-1) l=true) (j9:∀p∈l,p.2.length≤1099511627776) (kY:(ec (-1) l).length≤1099511627776) (Il:l.length≤1099511627776):
  Spec Tryz.prog 78 #[v] w0 (fun v' w'=>((RT.po).sl).V M w' l v'∧Step M w0 M w' aD):=by
 refine nL (args:=[_]) (fn:=Tryz.f78) Tryz.func78 rfl (n:=12) Tryz.ntmps78 (aj (ae (ah rfl rfl (ab (aj (ae ?_))))));refine ek M yB rfl (fun bo w2 Gn Zs hO s2=>?_);refine ab (aj (aj (ae (ad rfl rfl ?_))));refine aW rfl rfl aik (GU (M:=ins M bo) (s2.lt hM)) (fun r w3 h3=>?_);obtain⟨bp,rfl,hP,hbp,s3⟩:=h3;rw[show v.cells= #[v]from by obtain⟨q,rfl⟩:=cP.gO hv;rfl]at hP;refine ab (aZ ?_);refine T.range (gf:=179) (lb:=[.pointer (some ⟨bp,0,none⟩)].toArray) rfl ail (fun rec np=>?_);obtain⟨D,hD⟩:∃D,D=w3.heap.size:=⟨_,rfl⟩;rw[←hD]at np ⊢
 obtain⟨Ms,h0⟩:∃Ms,VT M w0 l v bo D bp (.loop (rec .ready none)) 0 Ms ((w3.alloc (.deferred (some []))).alloc (.loop (rec .ready none))):=by
  rw[hD]at np ⊢;exact aaA s2 s3 hM Gn Zs hbp hO hP
 refine Spec.mono (EG (J:=VT M w0 l v bo D bp (.loop (rec .ready none))) (Jx:=fun _=>False) (fun i M1 w ⟨vo,h⟩=>⟨h.p,h.lt,hv.le (by decide) h.S.le,fun w' s=>⟨vo,h.step s⟩⟩) mN j9 kY Il (fun i M1 wr u hJ hi hu=>?_) h0) (fun _ w4 h4=>?_)
 ·obtain⟨vo,h⟩:=hJ;refine lS (ps:=[7]) (vs:=[u]) np h.r rfl (by decide) (ae (ah rfl rfl (ab ?_)));refine⟨rfl,h.r,?_⟩;have sR:Step M1 wr M1 (wr.putObj (D+1) (.loop (rec .busy none))) (fun k=>k=D+1):=dS h.mr;have Q0:=hu.le sR.le;have h1:=h.mz (st':= .loop (rec .busy none));generalize wr.putObj (D+1) _=wB at h1 Q0 ⊢;refine aZ (ae (aP bI rfl rfl rfl h1.o rfl (ad rfl rfl ?_)));refine cX (M:=M1) (base:=D+2) bI oO rfl rfl rfl rfl h1.hk Q0 (aq _ _) (by simp;omega) (by simp;omega) (by have:=ak h1.r;omega) (fun v3 M3 w4 yE s4=>?_);obtain⟨⟨Jj,hm3⟩,Fa⟩:=h1.grow s4 yE;refine cu (M:=M3) yB rfl rfl Jj rfl (by obtain⟨_,_,he,_⟩:=yE.isSlice;rw[he];rfl) hm3 (fun w5 hX5 s5=>?_);have h5:=(Fa s5 hX5).mz (st':= .loop (rec .ready none));have h6:=Fa s5 hX5;refine ab ?_;refine⟨h6.r,true,rfl,fun _=>⟨M3,v3,?_⟩,fun h=>by cases h⟩;rw[show 8*(i+1)=8*i+8 from by omega,List.take_add];exact h5
 ·obtain⟨Mz,vo,h⟩:=h4.resolve_right (fun h=>h);left;rw[bc (by omega)]at h;have h5:=h.mz (st':= .loop (rec .exhausted none));refine⟨h.r,?_⟩;generalize w4.putObj (D+1) _=wE at h5 ⊢;refine aj (ae (aP bI rfl rfl rfl h5.o rfl (ah rfl rfl (ab (aQ ?_)))));obtain⟨q1,q2,q3,q4,q5⟩:=h5.ne;have sZ:Step Mz wE Mz (wE.putObj D (.deferred none)) (fun k=>k=D):=dS h5.md;have SZ:=h5.S.cf sZ (fun k hk=>by subst hk;omega);exact Bc rfl rfl h5.d ⟨xg hM SZ ((h5.hk.step sZ (fun k hk hh=>by have:=(h5.hk.base k hk).1;omega)).nj (by omega)) (by omega),SZ.back⟩
end Go.K
namespace Go.K
open Go.Proofs
namespace TKSegJ
theorem yB:TI Tryz.prog 80 (.slice none 0 0) 1 24:=by unfold TI;kernel_rfl
end TKSegJ
open TKSegJ
set_option maxRecDepth 10000
end Go.K
namespace Go.K
open Go.Proofs
namespace TKSegL
theorem BM:TI Tryz.prog 58 (.slice none 0 0) 1 24:=by unfold TI;kernel_rfl
theorem yB:TI Tryz.prog 80 (.slice none 0 0) 1 24:=by unfold TI;kernel_rfl
theorem E33:Enters Tryz.prog 33:=enters Tryz.func33 rfl (by decide)
end TKSegL
open TKSegL
set_option maxRecDepth 10000
end Go.K
namespace Go.K
theorem QE {P:Program} {L:Sl} {w:World} {fn:Func} {Q:Value→World→Prop} {c t b D:Nat} {vs:List Value} {fs:TypeDesc} {e:TypeId} {fr:Nat×Nat} {zv:Value} {size bytes:Nat} (hr:fn.results= #[.cell c t]) (hc:lk L c=some (.pointer (some ⟨b,0,none⟩))) (hu:P.underlying t=some fs) (hf:fs.isRow=true) (hi:TI P t zv size bytes) (hl:vs.length=size)
  (hD:w.heap[D]? =some (.deferred (some []))) (hb:(w.putObj D (.deferred none)).heap[b]? =some (.cells vs.toArray e fr)) (h:Q (.agg vs.toArray) (w.putObj D (.deferred none))):CJ P fn Q .ret L [mark D] w:=
 ⟨_,uJ hD,fun a ha=>⟨_,by
  obtain⟨i,xj,_,zr,_⟩:=hi.get;have Kz:(w.putObj D (.deferred none)).rangeAt b 0 vs:=fun j v hj=>fA hb (by simpa using hj)
  have:=run_loadVar_mid (P:=P) (w.putObj D (.deferred none)) b 0 t vs fs Kz hu hf (by simp[xj,zr,hl]);simp[results,hr,ha _ _ hc,asAddr,this,cj],h⟩⟩
theorem N2 {α:Type} {A:RT α} {hn:0<A.n} (hA:zU A) {M:aC} {w:World} {xs:List α} {v:Value} {b:Nat} {cs:Array Value} {e:TypeId} {fr:Nat×Nat} (hb:w.heap[b]? =some (.cells cs e fr)) (eN:∀M w x vs,A.R M w x vs→∃c r,vs=c::r∧∀j:Nat,cs[j]? ≠some c) (h:(A.sl hn).V M w xs v):(A.sl hn).V (ins M b) w xs v:=by
 obtain⟨a,cap,h1,h2,h3,hs⟩:=iz.1 h;refine iz.2 ⟨a,cap,h1,h2,h3,?_⟩;rcases hs with hs|⟨b',o,ha,hm,he⟩
 ·exact .inl hs
 ·cases xs with
  |nil=>exact .inl rfl
  |cons x xs=>
   refine .inr ⟨b',o,ha,?_,fun i y hy=>by obtain⟨vs,h4,h5⟩:=he i y hy;exact⟨vs,hA _ _ _ _ _ _ h4,h5⟩⟩;rintro(rfl|xi)
   ·obtain⟨vs,h4,h5⟩:=he 0 x rfl;obtain⟨c,r,rfl,hc⟩:=eN _ _ _ _ h4;have:=h5 0 c rfl;simp[World.cell?,hb]at this;exact hc _ this
   ·exact hm xi
end Go.K
